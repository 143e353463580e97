/- Proved: for every input the law 'FnExactConstantOf' returns true and its arguments read behind the call as before: part 5 of its proof. No condition. -/
import Derived.WalkKit
import Derived.Lib.Hide
import Derived.WalkSpells
import Derived.Laws.OwnMore
import Derived.Deep.AppendLies
import Derived.Deep.Draws
import Derived.Maps.AppendAt
import Derived.RegionTactic
import Derived.OwnWalk
import Derived.Below
import Derived.Laws.AppendOwnNone
import Derived.Deep.QuietTactic
import Derived.BigQuiet
import Derived.StillTailTactics
import Derived.Laws.Cells
import Derived.Laws.IdiomCopy
import Derived.ChangeKeysEq
import Derived.Laws.BytesArg
import Derived.Laws.StructEq
import Derived.Laws.Tables
import Derived.Great.BuildSlice
import Derived.StillTail
import Derived.OrdersHeld
import Derived.Test.YtkcljmgjbjdccaaProg
import Derived.Deep.Slices
import Derived.Deep.Fields
import Derived.ChangeSame
import Derived.OpenShut
import Derived.Laws.ResultCell
import Derived.Deep.RegionWith
import Derived.Laws.IdiomStrings
import Derived.Test.YtkcljmgjbjdccaaRows
import Derived.ProofKit
import Derived.ShutString
import Derived.ChangeOld
import Derived.SizedLaws
import Derived.Test.YtkcljmgjbjdccaaExConstantOfQ4
set_option linter.unusedVariables false
set_option linter.unusedSimpArgs false
namespace Go.Proofs.Ytkcljmgjbjdccaa
open Go.RowKit
set_option maxRecDepth 100000
def nB (x : Nod) : Bool := nodB x.kind x.num x.text x.labels x.kids
def badT (t : List Nod) (i : Nat) (s : List Int) : Bool := !nB (t.getD i default) || (decide ((t.getD i default).kids > (s.length : Int)) || (decide ((t.getD i default).kind = 0) && decide ((i : Int) < (t.length : Int) - 1)))
def knd (t : List Nod) (s : List Int) (j : Nat) : Int := (t.getD (s.getD j default).toNat default).kind
def empT (t : List Nod) (x : Nod) (s : List Int) (j : Nat) : Bool := !(decide (knd t s (s.length - x.kids.toNat + j) = 1) && (decide (x.kind ≠ 8) || decide (j + 1 = x.kids.toNat)))
def stepT (t : List Nod) (i : Nat) (s : List Int) : Option (List Int) :=
  if badT t i s = true then none else if allB (empT t (t.getD i default) s) (t.getD i default).kids.toNat = true then some (s.take (s.length - (t.getD i default).kids.toNat) ++ [(i : Int)]) else none
def stkT (t : List Nod) : Nat → Option (List Int)
  | 0 => some []
  | i + 1 => match stkT t i with | none => none | some s => stepT t i s
def treeB (t : List Nod) : Bool := decide (1 ≤ t.length ∧ t.length ≤ 200) && (match stkT t t.length with | none => false | some s => decide (s.length = 1) && !decide ((t.getD (t.length - 1) default).kind = 1))
theorem stkT_none {t : List Nod} {i : Nat} (h : stkT t i = none) : ∀ {j}, i ≤ j → stkT t j = none := by
  intro j hj
  induction j with
  | zero => obtain rfl : i = 0 := by omega
            exact h
  | succ j ih =>
    rcases Nat.lt_or_ge i (j + 1) with h1 | h1
    · simp only [stkT, ih (by omega)]
    · obtain rfl : i = j + 1 := by omega
      exact h
theorem tree_no {t : List Nod} {i : Nat} {s : List Int} (hi : i < t.length) (h : stkT t i = some s) (h2 : stepT t i s = none) : treeB t = false := by
  have : stkT t (i + 1) = none := by simp only [stkT, h]; exact h2
  unfold treeB
  rw [stkT_none this hi]; simp
theorem stkT_inv {t : List Nod} : ∀ {i : Nat} {s : List Int}, stkT t i = some s → s.length ≤ i ∧ ∀ e ∈ s, 0 ≤ e ∧ e < (i : Int)
  | 0, s, h => by simp only [stkT] at h; injection h with h; subst h; simp
  | i + 1, s, h => by
    simp only [stkT] at h
    split at h
    · cases h
    · rename_i s0 h0
      obtain ⟨g1, g2⟩ := stkT_inv h0
      unfold stepT at h
      split at h
      · cases h
      · split at h
        · injection h with h; subst h
          refine ⟨by simp; omega, fun e he => ?_⟩
          rcases List.mem_append.1 he with he | he
          · have := g2 e (List.mem_of_mem_take he); omega
          · rw [List.mem_singleton.1 he]; omega
        · cases h
theorem nB_kids {x : Nod} (h : nB x = true) : 0 ≤ x.kids := by
  unfold nB nodB at h
  simp only [Bool.and_eq_true] at h
  have h := h.2.1
  unfold kidB at h
  split at h
  · exact of_decide_eq_true h
  · split at h
    · have := of_decide_eq_true h; omega
    · split at h
      · have := of_decide_eq_true h; omega
      · split at h
        · have := of_decide_eq_true h; omega
        · split at h
          · have := of_decide_eq_true h; omega
          · have := of_decide_eq_true h; omega
theorem wtNods_ok {l : List Nod} (h : wtNods l ≤ 1048576) : l.length ≤ 1048576 ∧ ∀ x ∈ l, x.text.size ≤ 1048576 ∧ x.labels.length ≤ 1048576 ∧ ∀ y ∈ x.labels, y.size ≤ 1048576 := by
  unfold wtNods at h
  refine ⟨by omega, fun x hx => ?_⟩
  have h1 := sumOf_mem wtNod hx
  have h2 : wtNod x = x.text.size + wtSs x.labels := rfl
  exact ⟨by omega, wtSs_len (by omega), wtSs_size (by omega)⟩
theorem mem_getD {l : List Int} {i : Nat} (h : i < l.length) : l.getD i default ∈ l := getD_mem h
set_option maxHeartbeats 4000000 in
theorem specTree_m (t : List Nod) (ht : t.length ≤ 1048576) (hx : ∀ x ∈ t, x.text.size ≤ 1048576 ∧ x.labels.length ≤ 1048576 ∧ ∀ y ∈ x.labels, y.size ≤ 1048576) : Meets Try.prog 39 [(false, [encNods t])] [(false, [.sc (.bool (treeB t))], true)] := by
  have hI := l1In_m (t.length : Int) 1 200
  have b1 : ∀ {a b : Bool}, a = b → [DV.sc (.bool a)] = [.sc (.bool b)] := fun h => by rw [h]
  refine meets_upf Try.func39 u_spec_IsTree_g rfl ?_; simp only [u_spec_IsTree_u]
  simp only [encNods]
  simp (disch := first | omega | (simp only [List.length_take, List.length_drop, List.length_append, List.map_cons, List.map_nil, List.length_map, List.length_cons, List.length_nil, List.length_set, List.length_replicate]; omega) | (simp only [List.length_cons, List.length_nil, Nat.zero_add, Nat.reduceAdd])) only [go_sem, ↓reduceIte, Nat.reduceAdd, Int.reduceNeg, Int.reduceAdd, Int.reduceSub, Int.reduceMul, Int.reduceLT, Int.reduceLE, Int.reduceEq, Int.reduceToNat, Nat.reduceBEq, e_sle, e_sge, e_shl1, e_orI, e_andI, e_shr, wrapu, wrap8, tn1, nat1, ix_s, ix_z, st_s, st_z, fl_s, fl_z, fl1_s, fl1_z, map_s, map_z, true_and]
  refine cl_ok hI rfl ?_
  by_cases hn : 1 ≤ (t.length : Int) ∧ (t.length : Int) ≤ 200
  rotate_left
  · simp (disch := first | omega | (simp only [List.length_take, List.length_drop, List.length_append, List.map_cons, List.map_nil, List.length_map, List.length_cons, List.length_nil, List.length_set, List.length_replicate]; omega) | (simp only [List.length_cons, List.length_nil, Nat.zero_add, Nat.reduceAdd])) only [go_sem, ↓reduceIte, Nat.reduceAdd, Int.reduceNeg, Int.reduceAdd, Int.reduceSub, Int.reduceMul, Int.reduceLT, Int.reduceLE, Int.reduceEq, Int.reduceToNat, Nat.reduceBEq, e_sle, e_sge, e_shl1, e_orI, e_andI, e_shr, wrapu, wrap8, tn1, nat1, ix_s, ix_z, st_s, st_z, fl_s, fl_z, fl1_s, fl1_z, map_s, map_z, hn]
    exact ret_b (by unfold treeB; rw [decide_eq_false (by omega)]; rfl)
  simp (disch := first | omega | (simp only [List.length_take, List.length_drop, List.length_append, List.map_cons, List.map_nil, List.length_map, List.length_cons, List.length_nil, List.length_set, List.length_replicate]; omega) | (simp only [List.length_cons, List.length_nil, Nat.zero_add, Nat.reduceAdd])) only [go_sem, ↓reduceIte, Nat.reduceAdd, Int.reduceNeg, Int.reduceAdd, Int.reduceSub, Int.reduceMul, Int.reduceLT, Int.reduceLE, Int.reduceEq, Int.reduceToNat, Nat.reduceBEq, e_sle, e_sge, e_shl1, e_orI, e_andI, e_shr, wrapu, wrap8, tn1, nat1, ix_s, ix_z, st_s, st_z, fl_s, fl_z, fl1_s, fl1_z, map_s, map_z, hn]
  refine lp (fun s : Nat × List Int => [.sc (.int .i64 (s.1 : Nat)), .sl 3 1 (s.2.map encZ)]) (fun s => s.1 ≤ t.length ∧ stkT t s.1 = some s.2) (fun s => t.length - s.1) (0, []) rfl ⟨by simp, rfl⟩ ?_
  rintro ⟨i, s⟩ ⟨g1, g2⟩
  simp only at g1 g2 ⊢
  obtain ⟨v1, v2⟩ := stkT_inv g2
  simp only [u_spec_IsTree_l3]
  by_cases hlt : i < t.length
  · have hno := tree_no hlt g2
    have hst : stkT t (i + 1) = stepT t i s := by simp only [stkT, g2]
    unfold stepT at hno hst
    obtain ⟨z1, z2, z3⟩ := hx _ (getD_mem hlt)
    have hS := specShape_m (t.getD i default).kind (t.getD i default).num (t.getD i default).kids (t.getD i default).text (t.getD i default).labels z1 z2 z3
    simp only [encNod, encSs] at hS
    simp (disch := first | omega | (simp only [List.length_take, List.length_drop, List.length_append, List.map_cons, List.map_nil, List.length_map, List.length_cons, List.length_nil, List.length_set, List.length_replicate]; omega) | (simp only [List.length_cons, List.length_nil, Nat.zero_add, Nat.reduceAdd])) only [go_sem, ↓reduceIte, Nat.reduceAdd, Int.reduceNeg, Int.reduceAdd, Int.reduceSub, Int.reduceMul, Int.reduceLT, Int.reduceLE, Int.reduceEq, Int.reduceToNat, Nat.reduceBEq, e_sle, e_sge, e_shl1, e_orI, e_andI, e_shr, wrapu, wrap8, tn1, nat1, ix_s, ix_z, st_s, st_z, fl_s, fl_z, fl1_s, fl1_z, map_s, map_z, ix_Nod, encNod, encSs]
    refine br_if (fun hbr => ?_) (fun hbr => absurd hbr (by omega))
    simp (disch := first | omega | (simp only [List.length_take, List.length_drop, List.length_append, List.map_cons, List.map_nil, List.length_map, List.length_cons, List.length_nil, List.length_set, List.length_replicate]; omega) | (simp only [List.length_cons, List.length_nil, Nat.zero_add, Nat.reduceAdd])) only [go_sem, ↓reduceIte, Nat.reduceAdd, Int.reduceNeg, Int.reduceAdd, Int.reduceSub, Int.reduceMul, Int.reduceLT, Int.reduceLE, Int.reduceEq, Int.reduceToNat, Nat.reduceBEq, e_sle, e_sge, e_shl1, e_orI, e_andI, e_shr, wrapu, wrap8, tn1, nat1, ix_s, ix_z, st_s, st_z, fl_s, fl_z, fl1_s, fl1_z, map_s, map_z, ix_Nod, encNod, encSs]
    refine jn_eq [.sc (.bool (badT t i s))] ?_ ?_
    · refine cl_ok hS rfl ?_
      unfold badT nB
      cases hnb : nodB (t.getD i default).kind (t.getD i default).num (t.getD i default).text (t.getD i default).labels (t.getD i default).kids
      · repeat' (first | (with_reducible refine jn_in ?_) | (with_reducible refine cl_ok (by assumption) rfl ?_) | (with_reducible refine cl_okP (by assumption) rfl ?_) | (with_reducible refine br_if (fun hbr => ?_) (fun hbr => ?_)) | (with_reducible refine br_ifn (fun hbr => ?_) (fun hbr => ?_)) | (with_reducible refine br_nb (fun hbr => ?_) (fun hbr => ?_)) | (with_reducible refine br_b (fun hbr => ?_) (fun hbr => ?_)) | simp (disch := first | omega | (simp only [List.length_take, List.length_drop, List.length_append, List.map_cons, List.map_nil, List.length_map, List.length_cons, List.length_nil, List.length_set, List.length_replicate]; omega) | (simp only [List.length_cons, List.length_nil, Nat.zero_add, Nat.reduceAdd])) only [go_sem, ↓reduceIte, Nat.reduceAdd, Int.reduceNeg, Int.reduceAdd, Int.reduceSub, Int.reduceMul, Int.reduceLT, Int.reduceLE, Int.reduceEq, Int.reduceToNat, Nat.reduceBEq, e_sle, e_sge, e_shl1, e_orI, e_andI, e_shr, wrapu, wrap8, tn1, nat1, ix_s, ix_z, st_s, st_z, fl_s, fl_z, fl1_s, fl1_z, map_s, map_z, Bool.false_and])
        all_goals first | exact b1 (by simp [*]; done) | skip
      · by_cases h200 : (t.getD i default).kids ≤ 200
        · repeat' (first | (with_reducible refine jn_in ?_) | (with_reducible refine cl_ok (by assumption) rfl ?_) | (with_reducible refine cl_okP (by assumption) rfl ?_) | (with_reducible refine br_if (fun hbr => ?_) (fun hbr => ?_)) | (with_reducible refine br_ifn (fun hbr => ?_) (fun hbr => ?_)) | (with_reducible refine br_nb (fun hbr => ?_) (fun hbr => ?_)) | (with_reducible refine br_b (fun hbr => ?_) (fun hbr => ?_)) | simp (disch := first | omega | (simp only [List.length_take, List.length_drop, List.length_append, List.map_cons, List.map_nil, List.length_map, List.length_cons, List.length_nil, List.length_set, List.length_replicate]; omega) | (simp only [List.length_cons, List.length_nil, Nat.zero_add, Nat.reduceAdd])) only [go_sem, ↓reduceIte, Nat.reduceAdd, Int.reduceNeg, Int.reduceAdd, Int.reduceSub, Int.reduceMul, Int.reduceLT, Int.reduceLE, Int.reduceEq, Int.reduceToNat, Nat.reduceBEq, e_sle, e_sge, e_shl1, e_orI, e_andI, e_shr, wrapu, wrap8, tn1, nat1, ix_s, ix_z, st_s, st_z, fl_s, fl_z, fl1_s, fl1_z, map_s, map_z, h200])
          all_goals first
            | omega
            | exact b1 (by simp [-List.getD_eq_getElem?_getD, *]; done)
            | skip
        · repeat' (first | (with_reducible refine jn_in ?_) | (with_reducible refine cl_ok (by assumption) rfl ?_) | (with_reducible refine cl_okP (by assumption) rfl ?_) | (with_reducible refine br_if (fun hbr => ?_) (fun hbr => ?_)) | (with_reducible refine br_ifn (fun hbr => ?_) (fun hbr => ?_)) | (with_reducible refine br_nb (fun hbr => ?_) (fun hbr => ?_)) | (with_reducible refine br_b (fun hbr => ?_) (fun hbr => ?_)) | simp (disch := first | omega | (simp only [List.length_take, List.length_drop, List.length_append, List.map_cons, List.map_nil, List.length_map, List.length_cons, List.length_nil, List.length_set, List.length_replicate]; omega) | (simp only [List.length_cons, List.length_nil, Nat.zero_add, Nat.reduceAdd])) only [go_sem, ↓reduceIte, Nat.reduceAdd, Int.reduceNeg, Int.reduceAdd, Int.reduceSub, Int.reduceMul, Int.reduceLT, Int.reduceLE, Int.reduceEq, Int.reduceToNat, Nat.reduceBEq, e_sle, e_sge, e_shl1, e_orI, e_andI, e_shr, wrapu, wrap8, tn1, nat1, ix_s, ix_z, st_s, st_z, fl_s, fl_z, fl1_s, fl1_z, map_s, map_z, h200])
          all_goals first
            | omega
            | exact b1 (by rw [decide_eq_true (p := (t.getD i default).kids > (s.length : Int)) (by omega)]; simp)
            | skip
    simp only [u_spec_IsTree_j2]
    cases hbad : badT t i s
    rotate_left
    · rw [hbad] at hno
      have hno := hno rfl
      repeat' (first | (with_reducible refine jn_in ?_) | (with_reducible refine cl_ok (by assumption) rfl ?_) | (with_reducible refine cl_okP (by assumption) rfl ?_) | (with_reducible refine br_if (fun hbr => ?_) (fun hbr => ?_)) | (with_reducible refine br_ifn (fun hbr => ?_) (fun hbr => ?_)) | (with_reducible refine br_nb (fun hbr => ?_) (fun hbr => ?_)) | (with_reducible refine br_b (fun hbr => ?_) (fun hbr => ?_)) | simp (disch := first | omega | (simp only [List.length_take, List.length_drop, List.length_append, List.map_cons, List.map_nil, List.length_map, List.length_cons, List.length_nil, List.length_set, List.length_replicate]; omega) | (simp only [List.length_cons, List.length_nil, Nat.zero_add, Nat.reduceAdd])) only [go_sem, ↓reduceIte, Nat.reduceAdd, Int.reduceNeg, Int.reduceAdd, Int.reduceSub, Int.reduceMul, Int.reduceLT, Int.reduceLE, Int.reduceEq, Int.reduceToNat, Nat.reduceBEq, e_sle, e_sge, e_shl1, e_orI, e_andI, e_shr, wrapu, wrap8, tn1, nat1, ix_s, ix_z, st_s, st_z, fl_s, fl_z, fl1_s, fl1_z, map_s, map_z, true_and])
      exact ret_b hno
    rw [hbad] at hno hst
    simp only [Bool.false_eq_true, if_false] at hno hst
    unfold badT at hbad
    simp only [Bool.or_eq_false_iff, Bool.not_eq_false', decide_eq_false_iff_not] at hbad
    obtain ⟨hb1, hb2, -⟩ := hbad
    have hk0 := nB_kids hb1
    generalize hxx : t.getD i default = x at *
    obtain ⟨kN, hkN⟩ := Int.eq_ofNat_of_zero_le hk0
    rw [hkN, Int.toNat_natCast] at hst hno
    rw [hkN] at hb2
    have e1 : (s.length : Int) - (kN : Int) = ((s.length - kN : Nat) : Int) := by omega
    simp (disch := first | omega | (simp only [List.length_take, List.length_drop, List.length_append, List.map_cons, List.map_nil, List.length_map, List.length_cons, List.length_nil, List.length_set, List.length_replicate]; omega) | (simp only [List.length_cons, List.length_nil, Nat.zero_add, Nat.reduceAdd])) only [go_sem, ↓reduceIte, Nat.reduceAdd, Int.reduceNeg, Int.reduceAdd, Int.reduceSub, Int.reduceMul, Int.reduceLT, Int.reduceLE, Int.reduceEq, Int.reduceToNat, Nat.reduceBEq, e_sle, e_sge, e_shl1, e_orI, e_andI, e_shr, wrapu, wrap8, tn1, nat1, ix_s, ix_z, st_s, st_z, fl_s, fl_z, fl1_s, fl1_z, map_s, map_z, hkN, e1]
    refine lp (fun j : Nat => [.sc (.int .i64 ((s.length - kN + j : Nat) : Int))]) (fun j => j ≤ kN ∧ allB (empT t x s) j = true) (fun j => kN - j) 0 rfl ⟨by omega, rfl⟩ ?_
    rintro j ⟨w1, w2⟩
    simp only [u_spec_IsTree_l1]
    by_cases hj : j < kN
    · obtain ⟨m1, m2⟩ := v2 _ (mem_getD (l := s) (i := s.length - kN + j) (by omega))
      have hEj : empT t x s j = !(decide (knd t s (s.length - kN + j) = 1) && (decide (x.kind ≠ 8) || decide (j + 1 = kN))) := by unfold empT; rw [hkN]; rfl
      have hkd : (t.getD (s.getD (s.length - kN + j) default).toNat default).kind = knd t s (s.length - kN + j) := rfl
      have ret0 : empT t x s j = false → treeB t = false := fun h => hno (by rw [allB_no hj h]; rfl)
      repeat' (first | (with_reducible refine jn_in ?_) | (with_reducible refine cl_ok (by assumption) rfl ?_) | (with_reducible refine cl_okP (by assumption) rfl ?_) | (with_reducible refine br_if (fun hbr => ?_) (fun hbr => ?_)) | (with_reducible refine br_ifn (fun hbr => ?_) (fun hbr => ?_)) | (with_reducible refine br_nb (fun hbr => ?_) (fun hbr => ?_)) | (with_reducible refine br_b (fun hbr => ?_) (fun hbr => ?_)) | simp (disch := first | omega | (simp only [List.length_take, List.length_drop, List.length_append, List.map_cons, List.map_nil, List.length_map, List.length_cons, List.length_nil, List.length_set, List.length_replicate]; omega) | (simp only [List.length_cons, List.length_nil, Nat.zero_add, Nat.reduceAdd])) only [go_sem, ↓reduceIte, Nat.reduceAdd, Int.reduceNeg, Int.reduceAdd, Int.reduceSub, Int.reduceMul, Int.reduceLT, Int.reduceLE, Int.reduceEq, Int.reduceToNat, Nat.reduceBEq, e_sle, e_sge, e_shl1, e_orI, e_andI, e_shr, wrapu, wrap8, tn1, nat1, ix_s, ix_z, st_s, st_z, fl_s, fl_z, fl1_s, fl1_z, map_s, map_z, ix_z, ix_Nod, encNod, encSs, hkd, u_spec_IsTree_j0])
      all_goals first
        | (exfalso; omega)
        | exact ret_b (ret0 (by rw [hEj, decide_eq_true ‹knd t s (s.length - kN + j) = 1›, decide_eq_false (p := x.kind ≠ 8) (fun h => h ‹x.kind = 8›), decide_eq_true (p := j + 1 = kN) (by omega)]; rfl))
        | exact ret_b (ret0 (by rw [hEj, decide_eq_true ‹knd t s (s.length - kN + j) = 1›, decide_eq_true (p := x.kind ≠ 8) ‹¬ x.kind = 8›]; rfl))
        | exact ⟨j + 1, rfl, ⟨hj, allB_step w2 (by rw [hEj, decide_eq_true ‹knd t s (s.length - kN + j) = 1›, decide_eq_false (p := x.kind ≠ 8) (fun h => h ‹x.kind = 8›), decide_eq_false (p := j + 1 = kN) (by omega)]; rfl)⟩, by omega⟩
        | exact ⟨j + 1, rfl, ⟨hj, allB_step w2 (by rw [hEj, decide_eq_false (p := knd t s (s.length - kN + j) = 1) ‹_›]; rfl)⟩, by omega⟩
        | skip
    · obtain rfl : kN = j := by omega
      rw [if_pos w2] at hst
      have hsl : (s.take (s.length - kN)).length ≤ 1048576 := by rw [List.length_take]; omega
      repeat' (first | (with_reducible refine jn_in ?_) | (with_reducible refine cl_ok (by assumption) rfl ?_) | (with_reducible refine cl_okP (by assumption) rfl ?_) | (with_reducible refine br_if (fun hbr => ?_) (fun hbr => ?_)) | (with_reducible refine br_ifn (fun hbr => ?_) (fun hbr => ?_)) | (with_reducible refine br_nb (fun hbr => ?_) (fun hbr => ?_)) | (with_reducible refine br_b (fun hbr => ?_) (fun hbr => ?_)) | simp (disch := first | omega | (simp only [List.length_take, List.length_drop, List.length_append, List.map_cons, List.map_nil, List.length_map, List.length_cons, List.length_nil, List.length_set, List.length_replicate]; omega) | (simp only [List.length_cons, List.length_nil, Nat.zero_add, Nat.reduceAdd])) only [go_sem, ↓reduceIte, Nat.reduceAdd, Int.reduceNeg, Int.reduceAdd, Int.reduceSub, Int.reduceMul, Int.reduceLT, Int.reduceLE, Int.reduceEq, Int.reduceToNat, Nat.reduceBEq, e_sle, e_sge, e_shl1, e_orI, e_andI, e_shr, wrapu, wrap8, tn1, nat1, ix_s, ix_z, st_s, st_z, fl_s, fl_z, fl1_s, fl1_z, map_s, map_z, hkN, e1])
      all_goals first
        | (exfalso; omega)
        | exact ⟨(i + 1, s.take (s.length - kN) ++ [(i : Int)]), rfl, ⟨hlt, hst⟩, by simp only; omega⟩
        | trace_state
  · obtain rfl : i = t.length := by omega
    have hT : treeB t = (decide (s.length = 1) && !decide ((t.getD (t.length - 1) default).kind = 1)) := by unfold treeB; rw [decide_eq_true (by omega), g2]; rfl
    rw [hT]
    have e2 : ((t.length : Int) - 1).toNat = t.length - 1 := by omega
    repeat' (first | (with_reducible refine jn_in ?_) | (with_reducible refine cl_ok (by assumption) rfl ?_) | (with_reducible refine cl_okP (by assumption) rfl ?_) | (with_reducible refine br_if (fun hbr => ?_) (fun hbr => ?_)) | (with_reducible refine br_ifn (fun hbr => ?_) (fun hbr => ?_)) | (with_reducible refine br_nb (fun hbr => ?_) (fun hbr => ?_)) | (with_reducible refine br_b (fun hbr => ?_) (fun hbr => ?_)) | simp (disch := first | omega | (simp only [List.length_take, List.length_drop, List.length_append, List.map_cons, List.map_nil, List.length_map, List.length_cons, List.length_nil, List.length_set, List.length_replicate]; omega) | (simp only [List.length_cons, List.length_nil, Nat.zero_add, Nat.reduceAdd])) only [go_sem, ↓reduceIte, Nat.reduceAdd, Int.reduceNeg, Int.reduceAdd, Int.reduceSub, Int.reduceMul, Int.reduceLT, Int.reduceLE, Int.reduceEq, Int.reduceToNat, Nat.reduceBEq, e_sle, e_sge, e_shl1, e_orI, e_andI, e_shr, wrapu, wrap8, tn1, nat1, ix_s, ix_z, st_s, st_z, fl_s, fl_z, fl1_s, fl1_z, map_s, map_z, ix_Nod, encNod, encSs, e2])
    all_goals first
      | omega
      | exact ret_b (by rw [decide_eq_true (p := s.length = 1) (by omega), Bool.true_and])
      | exact ret_b (by rw [decide_eq_false (p := s.length = 1) (by omega), Bool.false_and])
      | trace_state
end Go.Proofs.Ytkcljmgjbjdccaa

namespace Go.Proofs.Ytkcljmgjbjdccaa
open Go.RowKit
set_option maxRecDepth 100000
set_option maxHeartbeats 4000000 in
theorem implTree_m (t : List Nod) (ht : t.length ≤ 1048576) (hx : ∀ x ∈ t, x.text.size ≤ 1048576 ∧ x.labels.length ≤ 1048576 ∧ ∀ y ∈ x.labels, y.size ≤ 1048576) : Meets Try.prog 42 [(false, [encNods t])] [(false, [.sc (.bool (treeB t))], true)] := by
  have b1 : ∀ {a b : Bool}, a = b → [DV.sc (.bool a)] = [.sc (.bool b)] := fun h => by rw [h]
  refine meets_upf Try.func42 u_impl_IsTree_g rfl ?_; simp only [u_impl_IsTree_u]
  simp only [encNods]
  simp (disch := first | omega | (simp only [List.length_take, List.length_drop, List.length_append, List.map_cons, List.map_nil, List.length_map, List.length_cons, List.length_nil, List.length_set, List.length_replicate]; omega) | (simp only [List.length_cons, List.length_nil, Nat.zero_add, Nat.reduceAdd])) only [go_sem, ↓reduceIte, Nat.reduceAdd, Int.reduceNeg, Int.reduceAdd, Int.reduceSub, Int.reduceMul, Int.reduceLT, Int.reduceLE, Int.reduceEq, Int.reduceToNat, Nat.reduceBEq, e_sle, e_sge, e_shl1, e_orI, e_andI, e_shr, wrapu, wrap8, tn1, nat1, ix_s, ix_z, st_s, st_z, fl_s, fl_z, fl1_s, fl1_z, map_s, map_z, true_and]
  refine br_if (fun hn1 => ?_) (fun hn1 => ?_)
  · repeat' (first | (with_reducible refine jn_in ?_) | (with_reducible refine cl_ok (by assumption) rfl ?_) | (with_reducible refine cl_okP (by assumption) rfl ?_) | (with_reducible refine br_if (fun hbr => ?_) (fun hbr => ?_)) | (with_reducible refine br_ifn (fun hbr => ?_) (fun hbr => ?_)) | (with_reducible refine br_nb (fun hbr => ?_) (fun hbr => ?_)) | (with_reducible refine br_b (fun hbr => ?_) (fun hbr => ?_)) | simp (disch := first | omega | (simp only [List.length_take, List.length_drop, List.length_append, List.map_cons, List.map_nil, List.length_map, List.length_cons, List.length_nil, List.length_set, List.length_replicate]; omega) | (simp only [List.length_cons, List.length_nil, Nat.zero_add, Nat.reduceAdd])) only [go_sem, ↓reduceIte, Nat.reduceAdd, Int.reduceNeg, Int.reduceAdd, Int.reduceSub, Int.reduceMul, Int.reduceLT, Int.reduceLE, Int.reduceEq, Int.reduceToNat, Nat.reduceBEq, e_sle, e_sge, e_shl1, e_orI, e_andI, e_shr, wrapu, wrap8, tn1, nat1, ix_s, ix_z, st_s, st_z, fl_s, fl_z, fl1_s, fl1_z, map_s, map_z, true_and])
    exact ret_b (by unfold treeB; rw [decide_eq_false (by omega)]; rfl)
  simp (disch := first | omega | (simp only [List.length_take, List.length_drop, List.length_append, List.map_cons, List.map_nil, List.length_map, List.length_cons, List.length_nil, List.length_set, List.length_replicate]; omega) | (simp only [List.length_cons, List.length_nil, Nat.zero_add, Nat.reduceAdd])) only [go_sem, ↓reduceIte, Nat.reduceAdd, Int.reduceNeg, Int.reduceAdd, Int.reduceSub, Int.reduceMul, Int.reduceLT, Int.reduceLE, Int.reduceEq, Int.reduceToNat, Nat.reduceBEq, e_sle, e_sge, e_shl1, e_orI, e_andI, e_shr, wrapu, wrap8, tn1, nat1, ix_s, ix_z, st_s, st_z, fl_s, fl_z, fl1_s, fl1_z, map_s, map_z, true_and]
  refine br_if (fun hn2 => ?_) (fun hn2 => ?_)
  · repeat' (first | (with_reducible refine jn_in ?_) | (with_reducible refine cl_ok (by assumption) rfl ?_) | (with_reducible refine cl_okP (by assumption) rfl ?_) | (with_reducible refine br_if (fun hbr => ?_) (fun hbr => ?_)) | (with_reducible refine br_ifn (fun hbr => ?_) (fun hbr => ?_)) | (with_reducible refine br_nb (fun hbr => ?_) (fun hbr => ?_)) | (with_reducible refine br_b (fun hbr => ?_) (fun hbr => ?_)) | simp (disch := first | omega | (simp only [List.length_take, List.length_drop, List.length_append, List.map_cons, List.map_nil, List.length_map, List.length_cons, List.length_nil, List.length_set, List.length_replicate]; omega) | (simp only [List.length_cons, List.length_nil, Nat.zero_add, Nat.reduceAdd])) only [go_sem, ↓reduceIte, Nat.reduceAdd, Int.reduceNeg, Int.reduceAdd, Int.reduceSub, Int.reduceMul, Int.reduceLT, Int.reduceLE, Int.reduceEq, Int.reduceToNat, Nat.reduceBEq, e_sle, e_sge, e_shl1, e_orI, e_andI, e_shr, wrapu, wrap8, tn1, nat1, ix_s, ix_z, st_s, st_z, fl_s, fl_z, fl1_s, fl1_z, map_s, map_z, true_and])
    exact ret_b (by unfold treeB; rw [decide_eq_false (by omega)]; rfl)
  have hn : 1 ≤ (t.length : Int) ∧ (t.length : Int) ≤ 200 := by omega
  simp (disch := first | omega | (simp only [List.length_take, List.length_drop, List.length_append, List.map_cons, List.map_nil, List.length_map, List.length_cons, List.length_nil, List.length_set, List.length_replicate]; omega) | (simp only [List.length_cons, List.length_nil, Nat.zero_add, Nat.reduceAdd])) only [go_sem, ↓reduceIte, Nat.reduceAdd, Int.reduceNeg, Int.reduceAdd, Int.reduceSub, Int.reduceMul, Int.reduceLT, Int.reduceLE, Int.reduceEq, Int.reduceToNat, Nat.reduceBEq, e_sle, e_sge, e_shl1, e_orI, e_andI, e_shr, wrapu, wrap8, tn1, nat1, ix_s, ix_z, st_s, st_z, fl_s, fl_z, fl1_s, fl1_z, map_s, map_z, true_and]
  refine lp (fun s : Nat × List Int => [.sc (.int .i64 (s.1 : Nat)), .sl 3 1 (s.2.map encZ)]) (fun s => s.1 ≤ t.length ∧ stkT t s.1 = some s.2) (fun s => t.length - s.1) (0, []) rfl ⟨by simp, rfl⟩ ?_
  rintro ⟨i, s⟩ ⟨g1, g2⟩
  simp only at g1 g2 ⊢
  obtain ⟨v1, v2⟩ := stkT_inv g2
  simp only [u_impl_IsTree_l3]
  by_cases hlt : i < t.length
  · have hno := tree_no hlt g2
    have hst : stkT t (i + 1) = stepT t i s := by simp only [stkT, g2]
    unfold stepT at hno hst
    obtain ⟨z1, z2, z3⟩ := hx _ (getD_mem hlt)
    have hS := implNod_m (t.getD i default).kind (t.getD i default).num (t.getD i default).kids (t.getD i default).text (t.getD i default).labels z1 z2 z3
    simp only [encNod, encSs] at hS
    simp (disch := first | omega | (simp only [List.length_take, List.length_drop, List.length_append, List.map_cons, List.map_nil, List.length_map, List.length_cons, List.length_nil, List.length_set, List.length_replicate]; omega) | (simp only [List.length_cons, List.length_nil, Nat.zero_add, Nat.reduceAdd])) only [go_sem, ↓reduceIte, Nat.reduceAdd, Int.reduceNeg, Int.reduceAdd, Int.reduceSub, Int.reduceMul, Int.reduceLT, Int.reduceLE, Int.reduceEq, Int.reduceToNat, Nat.reduceBEq, e_sle, e_sge, e_shl1, e_orI, e_andI, e_shr, wrapu, wrap8, tn1, nat1, ix_s, ix_z, st_s, st_z, fl_s, fl_z, fl1_s, fl1_z, map_s, map_z, ix_Nod, encNod, encSs]
    refine br_if (fun hbr => ?_) (fun hbr => absurd hbr (by omega))
    simp (disch := first | omega | (simp only [List.length_take, List.length_drop, List.length_append, List.map_cons, List.map_nil, List.length_map, List.length_cons, List.length_nil, List.length_set, List.length_replicate]; omega) | (simp only [List.length_cons, List.length_nil, Nat.zero_add, Nat.reduceAdd])) only [go_sem, ↓reduceIte, Nat.reduceAdd, Int.reduceNeg, Int.reduceAdd, Int.reduceSub, Int.reduceMul, Int.reduceLT, Int.reduceLE, Int.reduceEq, Int.reduceToNat, Nat.reduceBEq, e_sle, e_sge, e_shl1, e_orI, e_andI, e_shr, wrapu, wrap8, tn1, nat1, ix_s, ix_z, st_s, st_z, fl_s, fl_z, fl1_s, fl1_z, map_s, map_z, ix_Nod, encNod, encSs]
    refine jn_eq [.sc (.bool (badT t i s))] ?_ ?_
    · refine cl_ok hS rfl ?_
      unfold badT nB
      cases hnb : nodB (t.getD i default).kind (t.getD i default).num (t.getD i default).text (t.getD i default).labels (t.getD i default).kids
      · repeat' (first | (with_reducible refine jn_in ?_) | (with_reducible refine cl_ok (by assumption) rfl ?_) | (with_reducible refine cl_okP (by assumption) rfl ?_) | (with_reducible refine br_if (fun hbr => ?_) (fun hbr => ?_)) | (with_reducible refine br_ifn (fun hbr => ?_) (fun hbr => ?_)) | (with_reducible refine br_nb (fun hbr => ?_) (fun hbr => ?_)) | (with_reducible refine br_b (fun hbr => ?_) (fun hbr => ?_)) | simp (disch := first | omega | (simp only [List.length_take, List.length_drop, List.length_append, List.map_cons, List.map_nil, List.length_map, List.length_cons, List.length_nil, List.length_set, List.length_replicate]; omega) | (simp only [List.length_cons, List.length_nil, Nat.zero_add, Nat.reduceAdd])) only [go_sem, ↓reduceIte, Nat.reduceAdd, Int.reduceNeg, Int.reduceAdd, Int.reduceSub, Int.reduceMul, Int.reduceLT, Int.reduceLE, Int.reduceEq, Int.reduceToNat, Nat.reduceBEq, e_sle, e_sge, e_shl1, e_orI, e_andI, e_shr, wrapu, wrap8, tn1, nat1, ix_s, ix_z, st_s, st_z, fl_s, fl_z, fl1_s, fl1_z, map_s, map_z, Bool.false_and])
        all_goals first | exact b1 (by simp [*]; done) | skip
      · repeat' (first | (with_reducible refine jn_in ?_) | (with_reducible refine cl_ok (by assumption) rfl ?_) | (with_reducible refine cl_okP (by assumption) rfl ?_) | (with_reducible refine br_if (fun hbr => ?_) (fun hbr => ?_)) | (with_reducible refine br_ifn (fun hbr => ?_) (fun hbr => ?_)) | (with_reducible refine br_nb (fun hbr => ?_) (fun hbr => ?_)) | (with_reducible refine br_b (fun hbr => ?_) (fun hbr => ?_)) | simp (disch := first | omega | (simp only [List.length_take, List.length_drop, List.length_append, List.map_cons, List.map_nil, List.length_map, List.length_cons, List.length_nil, List.length_set, List.length_replicate]; omega) | (simp only [List.length_cons, List.length_nil, Nat.zero_add, Nat.reduceAdd])) only [go_sem, ↓reduceIte, Nat.reduceAdd, Int.reduceNeg, Int.reduceAdd, Int.reduceSub, Int.reduceMul, Int.reduceLT, Int.reduceLE, Int.reduceEq, Int.reduceToNat, Nat.reduceBEq, e_sle, e_sge, e_shl1, e_orI, e_andI, e_shr, wrapu, wrap8, tn1, nat1, ix_s, ix_z, st_s, st_z, fl_s, fl_z, fl1_s, fl1_z, map_s, map_z, true_and])
        all_goals first
          | omega
          | exact b1 (by simp [-List.getD_eq_getElem?_getD, *]; done)
          | skip
    simp only [u_impl_IsTree_j2]
    cases hbad : badT t i s
    rotate_left
    · rw [hbad] at hno
      have hno := hno rfl
      repeat' (first | (with_reducible refine jn_in ?_) | (with_reducible refine cl_ok (by assumption) rfl ?_) | (with_reducible refine cl_okP (by assumption) rfl ?_) | (with_reducible refine br_if (fun hbr => ?_) (fun hbr => ?_)) | (with_reducible refine br_ifn (fun hbr => ?_) (fun hbr => ?_)) | (with_reducible refine br_nb (fun hbr => ?_) (fun hbr => ?_)) | (with_reducible refine br_b (fun hbr => ?_) (fun hbr => ?_)) | simp (disch := first | omega | (simp only [List.length_take, List.length_drop, List.length_append, List.map_cons, List.map_nil, List.length_map, List.length_cons, List.length_nil, List.length_set, List.length_replicate]; omega) | (simp only [List.length_cons, List.length_nil, Nat.zero_add, Nat.reduceAdd])) only [go_sem, ↓reduceIte, Nat.reduceAdd, Int.reduceNeg, Int.reduceAdd, Int.reduceSub, Int.reduceMul, Int.reduceLT, Int.reduceLE, Int.reduceEq, Int.reduceToNat, Nat.reduceBEq, e_sle, e_sge, e_shl1, e_orI, e_andI, e_shr, wrapu, wrap8, tn1, nat1, ix_s, ix_z, st_s, st_z, fl_s, fl_z, fl1_s, fl1_z, map_s, map_z, true_and])
      exact ret_b hno
    rw [hbad] at hno hst
    simp only [Bool.false_eq_true, if_false] at hno hst
    unfold badT at hbad
    simp only [Bool.or_eq_false_iff, Bool.not_eq_false', decide_eq_false_iff_not] at hbad
    obtain ⟨hb1, hb2, -⟩ := hbad
    have hk0 := nB_kids hb1
    generalize hxx : t.getD i default = x at *
    obtain ⟨kN, hkN⟩ := Int.eq_ofNat_of_zero_le hk0
    rw [hkN, Int.toNat_natCast] at hst hno
    rw [hkN] at hb2
    have e1 : (s.length : Int) - (kN : Int) = ((s.length - kN : Nat) : Int) := by omega
    have e3 : (s.length : Int) - ((s.length - kN : Nat) : Int) = (kN : Int) := by omega
    simp (disch := first | omega | (simp only [List.length_take, List.length_drop, List.length_append, List.map_cons, List.map_nil, List.length_map, List.length_cons, List.length_nil, List.length_set, List.length_replicate]; omega) | (simp only [List.length_cons, List.length_nil, Nat.zero_add, Nat.reduceAdd])) only [go_sem, ↓reduceIte, Nat.reduceAdd, Int.reduceNeg, Int.reduceAdd, Int.reduceSub, Int.reduceMul, Int.reduceLT, Int.reduceLE, Int.reduceEq, Int.reduceToNat, Nat.reduceBEq, e_sle, e_sge, e_shl1, e_orI, e_andI, e_shr, wrapu, wrap8, tn1, nat1, ix_s, ix_z, st_s, st_z, fl_s, fl_z, fl1_s, fl1_z, map_s, map_z, hkN, e1, e3]
    refine lp (fun j : Nat => [.sc (.int .i64 (j : Int))]) (fun j => j ≤ kN ∧ allB (empT t x s) j = true) (fun j => kN - j) 0 rfl ⟨by omega, rfl⟩ ?_
    rintro j ⟨w1, w2⟩
    simp only [u_impl_IsTree_l1]
    by_cases hj : j < kN
    · obtain ⟨m1, m2⟩ := v2 _ (mem_getD (l := s) (i := s.length - kN + j) (by omega))
      have hEj : empT t x s j = !(decide (knd t s (s.length - kN + j) = 1) && (decide (x.kind ≠ 8) || decide (j + 1 = kN))) := by unfold empT; rw [hkN]; rfl
      have hkd : (t.getD (s.getD (s.length - kN + j) default).toNat default).kind = knd t s (s.length - kN + j) := rfl
      have ret0 : empT t x s j = false → treeB t = false := fun h => hno (by rw [allB_no hj h]; rfl)
      have e4 : ((s.length - kN : Nat) : Int) + (j : Int) = ((s.length - kN + j : Nat) : Int) := rfl
      repeat' (first | (with_reducible refine jn_in ?_) | (with_reducible refine cl_ok (by assumption) rfl ?_) | (with_reducible refine cl_okP (by assumption) rfl ?_) | (with_reducible refine br_if (fun hbr => ?_) (fun hbr => ?_)) | (with_reducible refine br_ifn (fun hbr => ?_) (fun hbr => ?_)) | (with_reducible refine br_nb (fun hbr => ?_) (fun hbr => ?_)) | (with_reducible refine br_b (fun hbr => ?_) (fun hbr => ?_)) | simp (disch := first | omega | (simp only [List.length_take, List.length_drop, List.length_append, List.map_cons, List.map_nil, List.length_map, List.length_cons, List.length_nil, List.length_set, List.length_replicate]; omega) | (simp only [List.length_cons, List.length_nil, Nat.zero_add, Nat.reduceAdd])) only [go_sem, ↓reduceIte, Nat.reduceAdd, Int.reduceNeg, Int.reduceAdd, Int.reduceSub, Int.reduceMul, Int.reduceLT, Int.reduceLE, Int.reduceEq, Int.reduceToNat, Nat.reduceBEq, e_sle, e_sge, e_shl1, e_orI, e_andI, e_shr, wrapu, wrap8, tn1, nat1, ix_s, ix_z, st_s, st_z, fl_s, fl_z, fl1_s, fl1_z, map_s, map_z, ix_z, ix_Nod, encNod, encSs, hkd, u_impl_IsTree_j0, e4])
      all_goals first
        | (exfalso; omega)
        | exact ret_b (ret0 (by rw [hEj, decide_eq_true ‹knd t s (s.length - kN + j) = 1›, decide_eq_false (p := x.kind ≠ 8) (fun h => h ‹x.kind = 8›), decide_eq_true (p := j + 1 = kN) (by omega)]; rfl))
        | exact ret_b (ret0 (by rw [hEj, decide_eq_true ‹knd t s (s.length - kN + j) = 1›, decide_eq_true (p := x.kind ≠ 8) ‹¬ x.kind = 8›]; rfl))
        | exact ⟨j + 1, rfl, ⟨hj, allB_step w2 (by rw [hEj, decide_eq_true ‹knd t s (s.length - kN + j) = 1›, decide_eq_false (p := x.kind ≠ 8) (fun h => h ‹x.kind = 8›), decide_eq_false (p := j + 1 = kN) (by omega)]; rfl)⟩, by omega⟩
        | exact ⟨j + 1, rfl, ⟨hj, allB_step w2 (by rw [hEj, decide_eq_false (p := knd t s (s.length - kN + j) = 1) ‹_›]; rfl)⟩, by omega⟩
        | skip
    · obtain rfl : kN = j := by omega
      rw [if_pos w2] at hst
      have hsl : (s.take (s.length - kN)).length ≤ 1048576 := by rw [List.length_take]; omega
      repeat' (first | (with_reducible refine jn_in ?_) | (with_reducible refine cl_ok (by assumption) rfl ?_) | (with_reducible refine cl_okP (by assumption) rfl ?_) | (with_reducible refine br_if (fun hbr => ?_) (fun hbr => ?_)) | (with_reducible refine br_ifn (fun hbr => ?_) (fun hbr => ?_)) | (with_reducible refine br_nb (fun hbr => ?_) (fun hbr => ?_)) | (with_reducible refine br_b (fun hbr => ?_) (fun hbr => ?_)) | simp (disch := first | omega | (simp only [List.length_take, List.length_drop, List.length_append, List.map_cons, List.map_nil, List.length_map, List.length_cons, List.length_nil, List.length_set, List.length_replicate]; omega) | (simp only [List.length_cons, List.length_nil, Nat.zero_add, Nat.reduceAdd])) only [go_sem, ↓reduceIte, Nat.reduceAdd, Int.reduceNeg, Int.reduceAdd, Int.reduceSub, Int.reduceMul, Int.reduceLT, Int.reduceLE, Int.reduceEq, Int.reduceToNat, Nat.reduceBEq, e_sle, e_sge, e_shl1, e_orI, e_andI, e_shr, wrapu, wrap8, tn1, nat1, ix_s, ix_z, st_s, st_z, fl_s, fl_z, fl1_s, fl1_z, map_s, map_z, hkN, e1])
      all_goals first
        | (exfalso; omega)
        | exact ⟨(i + 1, s.take (s.length - kN) ++ [(i : Int)]), rfl, ⟨hlt, hst⟩, by simp only; omega⟩
        | trace_state
  · obtain rfl : i = t.length := by omega
    have hT : treeB t = (decide (s.length = 1) && !decide ((t.getD (t.length - 1) default).kind = 1)) := by unfold treeB; rw [decide_eq_true (by omega), g2]; rfl
    rw [hT]
    have e2 : ((t.length : Int) - 1).toNat = t.length - 1 := by omega
    repeat' (first | (with_reducible refine jn_in ?_) | (with_reducible refine cl_ok (by assumption) rfl ?_) | (with_reducible refine cl_okP (by assumption) rfl ?_) | (with_reducible refine br_if (fun hbr => ?_) (fun hbr => ?_)) | (with_reducible refine br_ifn (fun hbr => ?_) (fun hbr => ?_)) | (with_reducible refine br_nb (fun hbr => ?_) (fun hbr => ?_)) | (with_reducible refine br_b (fun hbr => ?_) (fun hbr => ?_)) | simp (disch := first | omega | (simp only [List.length_take, List.length_drop, List.length_append, List.map_cons, List.map_nil, List.length_map, List.length_cons, List.length_nil, List.length_set, List.length_replicate]; omega) | (simp only [List.length_cons, List.length_nil, Nat.zero_add, Nat.reduceAdd])) only [go_sem, ↓reduceIte, Nat.reduceAdd, Int.reduceNeg, Int.reduceAdd, Int.reduceSub, Int.reduceMul, Int.reduceLT, Int.reduceLE, Int.reduceEq, Int.reduceToNat, Nat.reduceBEq, e_sle, e_sge, e_shl1, e_orI, e_andI, e_shr, wrapu, wrap8, tn1, nat1, ix_s, ix_z, st_s, st_z, fl_s, fl_z, fl1_s, fl1_z, map_s, map_z, ix_Nod, encNod, encSs, e2])
    all_goals first
      | omega
      | exact ret_b (by rw [decide_eq_true (p := s.length = 1) (by omega), Bool.true_and])
      | exact ret_b (by rw [decide_eq_false (p := s.length = 1) (by omega), Bool.false_and])
      | trace_state
end Go.Proofs.Ytkcljmgjbjdccaa

namespace Go.Proofs.Ytkcljmgjbjdccaa
open Go.RowKit
set_option maxRecDepth 100000
def minS : ByteArray := ⟨#[45]⟩
def cstV (t : List Nod) : (Int × List It) × Bool :=
  if (t.length : Int) = 2 ∧ (t.getD 0 default).kind = 2 ∧ (t.getD 1 default).kind = 10 ∧ (t.getD 1 default).text = minS then (numV [IntKind.i64.wrap (0 - (t.getD 0 default).num)], true)
  else if (t.length : Int) = 1 then (
    if (t.getD 0 default).kind = 2 then (numV [(t.getD 0 default).num], true)
    else if (t.getD 0 default).kind = 3 then (txtV [(t.getD 0 default).text], true)
    else if (t.getD 0 default).kind = 4 then (logV [(t.getD 0 default).num], true)
    else if (t.getD 0 default).kind = 5 then ((IntKind.i64.wrap (2 + (t.getD 0 default).num), [it0]), true)
    else ((0, []), decide ((t.getD 0 default).kind = 6)))
  else ((0, []), false)
def resF (x : (Int × List It) × Bool) : List Rs := [(true, encF x.1.1 x.1.2, true), (false, [.sc (.bool x.2)], true)]
set_option maxHeartbeats 4000000 in
theorem implCstV_m (t : List Nod) (hl : t.length ≤ 1048576) : Meets Try.prog 43 [(false, [encNods t])] (resF (cstV t)) := by
  have hn := implNumV_m 3 [(t.getD 0 default).num] (by simp)
  have hm := implNumV_m 3 [IntKind.i64.wrap (0 - (t.getD 0 default).num)] (by simp)
  have ht := implTxtV_m 9 [(t.getD 0 default).text] (by simp)
  have hg := implLogV_m 3 [(t.getD 0 default).num] (by simp)
  simp only [List.map_cons, List.map_nil, encZ, encS] at hn hm ht hg
  refine meets_upf Try.func43 u_impl_constantValue_g rfl ?_; simp only [u_impl_constantValue_u]
  unfold resF encF at *
  simp only [encNods]
  simp (disch := first | omega | (simp only [List.length_take, List.length_drop, List.length_append, List.map_cons, List.map_nil, List.length_map, List.length_cons, List.length_nil, List.length_set, List.length_replicate]; omega) | (simp only [List.length_cons, List.length_nil, Nat.zero_add, Nat.reduceAdd])) only [go_sem, ↓reduceIte, Nat.reduceAdd, Int.reduceNeg, Int.reduceAdd, Int.reduceSub, Int.reduceMul, Int.reduceLT, Int.reduceLE, Int.reduceEq, Int.reduceToNat, Nat.reduceBEq, e_sle, e_sge, e_shl1, e_orI, e_andI, e_shr, wrapu, wrap8, tn1, nat1, ix_s, ix_z, st_s, st_z, fl_s, fl_z, fl1_s, fl1_z, map_s, map_z, true_and]
  refine jn (fun vs => vs = [.sc (.bool (decide ((t.length : Int) = 2 ∧ (t.getD 0 default).kind = 2 ∧ (t.getD 1 default).kind = 10 ∧ (t.getD 1 default).text = minS)))]) ?_ ?_
  · repeat' (first | (with_reducible refine jn_in ?_) | (with_reducible refine cl_ok (by assumption) rfl ?_) | (with_reducible refine cl_okP (by assumption) rfl ?_) | (with_reducible refine br_if (fun hbr => ?_) (fun hbr => ?_)) | (with_reducible refine br_ifn (fun hbr => ?_) (fun hbr => ?_)) | (with_reducible refine br_nb (fun hbr => ?_) (fun hbr => ?_)) | (with_reducible refine br_b (fun hbr => ?_) (fun hbr => ?_)) | simp (disch := first | omega | (simp only [List.length_take, List.length_drop, List.length_append, List.map_cons, List.map_nil, List.length_map, List.length_cons, List.length_nil, List.length_set, List.length_replicate]; omega) | (simp only [List.length_cons, List.length_nil, Nat.zero_add, Nat.reduceAdd])) only [go_sem, ↓reduceIte, Nat.reduceAdd, Int.reduceNeg, Int.reduceAdd, Int.reduceSub, Int.reduceMul, Int.reduceLT, Int.reduceLE, Int.reduceEq, Int.reduceToNat, Nat.reduceBEq, e_sle, e_sge, e_shl1, e_orI, e_andI, e_shr, wrapu, wrap8, tn1, nat1, ix_s, ix_z, st_s, st_z, fl_s, fl_z, fl1_s, fl1_z, map_s, map_z, ix_Nod, encNod])
    all_goals simp [-List.getD_eq_getElem?_getD, *, minS]
  · rintro vs - rfl
    simp only [u_impl_constantValue_j0]
    simp (disch := first | omega | (simp only [List.length_take, List.length_drop, List.length_append, List.map_cons, List.map_nil, List.length_map, List.length_cons, List.length_nil, List.length_set, List.length_replicate]; omega) | (simp only [List.length_cons, List.length_nil, Nat.zero_add, Nat.reduceAdd])) only [go_sem, ↓reduceIte, Nat.reduceAdd, Int.reduceNeg, Int.reduceAdd, Int.reduceSub, Int.reduceMul, Int.reduceLT, Int.reduceLE, Int.reduceEq, Int.reduceToNat, Nat.reduceBEq, e_sle, e_sge, e_shl1, e_orI, e_andI, e_shr, wrapu, wrap8, tn1, nat1, ix_s, ix_z, st_s, st_z, fl_s, fl_z, fl1_s, fl1_z, map_s, map_z, true_and]
    unfold cstV
    refine br_if (fun hc => ?_) (fun hc => ?_)
    · rw [if_pos hc]
      have := hc.1
      repeat' (first | (with_reducible refine jn_in ?_) | (with_reducible refine cl_ok (by assumption) rfl ?_) | (with_reducible refine cl_okP (by assumption) rfl ?_) | (with_reducible refine br_if (fun hbr => ?_) (fun hbr => ?_)) | (with_reducible refine br_ifn (fun hbr => ?_) (fun hbr => ?_)) | (with_reducible refine br_nb (fun hbr => ?_) (fun hbr => ?_)) | (with_reducible refine br_b (fun hbr => ?_) (fun hbr => ?_)) | simp (disch := first | omega | (simp only [List.length_take, List.length_drop, List.length_append, List.map_cons, List.map_nil, List.length_map, List.length_cons, List.length_nil, List.length_set, List.length_replicate]; omega) | (simp only [List.length_cons, List.length_nil, Nat.zero_add, Nat.reduceAdd])) only [go_sem, ↓reduceIte, Nat.reduceAdd, Int.reduceNeg, Int.reduceAdd, Int.reduceSub, Int.reduceMul, Int.reduceLT, Int.reduceLE, Int.reduceEq, Int.reduceToNat, Nat.reduceBEq, e_sle, e_sge, e_shl1, e_orI, e_andI, e_shr, wrapu, wrap8, tn1, nat1, ix_s, ix_z, st_s, st_z, fl_s, fl_z, fl1_s, fl1_z, map_s, map_z, ix_Nod, encNod])
      rfl
    · rw [if_neg hc]
      by_cases h1 : (t.length : Int) = 1
      · rw [if_pos h1]
        repeat' (first | (with_reducible refine jn_in ?_) | (with_reducible refine cl_ok (by assumption) rfl ?_) | (with_reducible refine cl_okP (by assumption) rfl ?_) | (with_reducible refine br_if (fun hbr => ?_) (fun hbr => ?_)) | (with_reducible refine br_ifn (fun hbr => ?_) (fun hbr => ?_)) | (with_reducible refine br_nb (fun hbr => ?_) (fun hbr => ?_)) | (with_reducible refine br_b (fun hbr => ?_) (fun hbr => ?_)) | simp (disch := first | omega | (simp only [List.length_take, List.length_drop, List.length_append, List.map_cons, List.map_nil, List.length_map, List.length_cons, List.length_nil, List.length_set, List.length_replicate]; omega) | (simp only [List.length_cons, List.length_nil, Nat.zero_add, Nat.reduceAdd])) only [go_sem, ↓reduceIte, Nat.reduceAdd, Int.reduceNeg, Int.reduceAdd, Int.reduceSub, Int.reduceMul, Int.reduceLT, Int.reduceLE, Int.reduceEq, Int.reduceToNat, Nat.reduceBEq, e_sle, e_sge, e_shl1, e_orI, e_andI, e_shr, wrapu, wrap8, tn1, nat1, ix_s, ix_z, st_s, st_z, fl_s, fl_z, fl1_s, fl1_z, map_s, map_z, ix_Nod, encNod, fl_3])
        all_goals first
          | exact absurd h1 ‹¬ (t.length : Int) = 1›
          | (rw [if_pos ‹(t.getD 0 default).kind = 2›]; rfl)
          | (rw [if_neg ‹¬ (t.getD 0 default).kind = 2›, if_pos ‹(t.getD 0 default).kind = 3›]; rfl)
          | (rw [if_neg ‹¬ (t.getD 0 default).kind = 2›, if_neg ‹¬ (t.getD 0 default).kind = 3›, if_pos ‹(t.getD 0 default).kind = 4›]; rfl)
          | (rw [if_neg ‹¬ (t.getD 0 default).kind = 2›, if_neg ‹¬ (t.getD 0 default).kind = 3›, if_neg ‹¬ (t.getD 0 default).kind = 4›, if_pos ‹(t.getD 0 default).kind = 5›]; rfl)
          | (rw [if_neg ‹¬ (t.getD 0 default).kind = 2›, if_neg ‹¬ (t.getD 0 default).kind = 3›, if_neg ‹¬ (t.getD 0 default).kind = 4›, if_neg ‹¬ (t.getD 0 default).kind = 5›, decide_eq_true ‹(t.getD 0 default).kind = 6›]; rfl)
          | (rw [if_neg ‹¬ (t.getD 0 default).kind = 2›, if_neg ‹¬ (t.getD 0 default).kind = 3›, if_neg ‹¬ (t.getD 0 default).kind = 4›, if_neg ‹¬ (t.getD 0 default).kind = 5›, decide_eq_false ‹¬ (t.getD 0 default).kind = 6›]; rfl)
          | (rw [if_neg ‹¬ (t.getD 0 default).kind = 2›, if_neg ‹¬ (t.getD 0 default).kind = 3›, if_neg ‹¬ (t.getD 0 default).kind = 4›, if_neg ‹¬ (t.getD 0 default).kind = 5›]; rfl)
      · rw [if_neg h1]
        repeat' (first | (with_reducible refine jn_in ?_) | (with_reducible refine cl_ok (by assumption) rfl ?_) | (with_reducible refine cl_okP (by assumption) rfl ?_) | (with_reducible refine br_if (fun hbr => ?_) (fun hbr => ?_)) | (with_reducible refine br_ifn (fun hbr => ?_) (fun hbr => ?_)) | (with_reducible refine br_nb (fun hbr => ?_) (fun hbr => ?_)) | (with_reducible refine br_b (fun hbr => ?_) (fun hbr => ?_)) | simp (disch := first | omega | (simp only [List.length_take, List.length_drop, List.length_append, List.map_cons, List.map_nil, List.length_map, List.length_cons, List.length_nil, List.length_set, List.length_replicate]; omega) | (simp only [List.length_cons, List.length_nil, Nat.zero_add, Nat.reduceAdd])) only [go_sem, ↓reduceIte, Nat.reduceAdd, Int.reduceNeg, Int.reduceAdd, Int.reduceSub, Int.reduceMul, Int.reduceLT, Int.reduceLE, Int.reduceEq, Int.reduceToNat, Nat.reduceBEq, e_sle, e_sge, e_shl1, e_orI, e_andI, e_shr, wrapu, wrap8, tn1, nat1, ix_s, ix_z, st_s, st_z, fl_s, fl_z, fl1_s, fl1_z, map_s, map_z, true_and])
        all_goals first | rfl | exact absurd ‹_› h1
set_option maxHeartbeats 4000000 in
theorem specCstV_m (t : List Nod) (hl : t.length ≤ 1048576) : Meets Try.prog 40 [(false, [encNods t])] (resF (cstV t)) := by
  have hn := specNumV_m 3 [(t.getD 0 default).num] (by simp)
  have hm := specNumV_m 3 [IntKind.i64.wrap (0 - (t.getD 0 default).num)] (by simp)
  have ht := specTxtV_m 9 [(t.getD 0 default).text] (by simp)
  have hg := specLogV_m 3 [(t.getD 0 default).num] (by simp)
  simp only [List.map_cons, List.map_nil, encZ, encS] at hn hm ht hg
  refine meets_upf Try.func40 u_spec_l20Value_g rfl ?_; simp only [u_spec_l20Value_u]
  unfold resF encF at *
  simp only [encNods]
  simp (disch := first | omega | (simp only [List.length_take, List.length_drop, List.length_append, List.map_cons, List.map_nil, List.length_map, List.length_cons, List.length_nil, List.length_set, List.length_replicate]; omega) | (simp only [List.length_cons, List.length_nil, Nat.zero_add, Nat.reduceAdd])) only [go_sem, ↓reduceIte, Nat.reduceAdd, Int.reduceNeg, Int.reduceAdd, Int.reduceSub, Int.reduceMul, Int.reduceLT, Int.reduceLE, Int.reduceEq, Int.reduceToNat, Nat.reduceBEq, e_sle, e_sge, e_shl1, e_orI, e_andI, e_shr, wrapu, wrap8, tn1, nat1, ix_s, ix_z, st_s, st_z, fl_s, fl_z, fl1_s, fl1_z, map_s, map_z, true_and]
  refine jn (fun vs => vs = [.sc (.bool (decide ((t.length : Int) = 2 ∧ (t.getD 0 default).kind = 2 ∧ (t.getD 1 default).kind = 10 ∧ (t.getD 1 default).text = minS)))]) ?_ ?_
  · repeat' (first | (with_reducible refine jn_in ?_) | (with_reducible refine cl_ok (by assumption) rfl ?_) | (with_reducible refine cl_okP (by assumption) rfl ?_) | (with_reducible refine br_if (fun hbr => ?_) (fun hbr => ?_)) | (with_reducible refine br_ifn (fun hbr => ?_) (fun hbr => ?_)) | (with_reducible refine br_nb (fun hbr => ?_) (fun hbr => ?_)) | (with_reducible refine br_b (fun hbr => ?_) (fun hbr => ?_)) | simp (disch := first | omega | (simp only [List.length_take, List.length_drop, List.length_append, List.map_cons, List.map_nil, List.length_map, List.length_cons, List.length_nil, List.length_set, List.length_replicate]; omega) | (simp only [List.length_cons, List.length_nil, Nat.zero_add, Nat.reduceAdd])) only [go_sem, ↓reduceIte, Nat.reduceAdd, Int.reduceNeg, Int.reduceAdd, Int.reduceSub, Int.reduceMul, Int.reduceLT, Int.reduceLE, Int.reduceEq, Int.reduceToNat, Nat.reduceBEq, e_sle, e_sge, e_shl1, e_orI, e_andI, e_shr, wrapu, wrap8, tn1, nat1, ix_s, ix_z, st_s, st_z, fl_s, fl_z, fl1_s, fl1_z, map_s, map_z, ix_Nod, encNod])
    all_goals simp [-List.getD_eq_getElem?_getD, *, minS]
  · rintro vs - rfl
    simp only [u_spec_l20Value_j0]
    simp (disch := first | omega | (simp only [List.length_take, List.length_drop, List.length_append, List.map_cons, List.map_nil, List.length_map, List.length_cons, List.length_nil, List.length_set, List.length_replicate]; omega) | (simp only [List.length_cons, List.length_nil, Nat.zero_add, Nat.reduceAdd])) only [go_sem, ↓reduceIte, Nat.reduceAdd, Int.reduceNeg, Int.reduceAdd, Int.reduceSub, Int.reduceMul, Int.reduceLT, Int.reduceLE, Int.reduceEq, Int.reduceToNat, Nat.reduceBEq, e_sle, e_sge, e_shl1, e_orI, e_andI, e_shr, wrapu, wrap8, tn1, nat1, ix_s, ix_z, st_s, st_z, fl_s, fl_z, fl1_s, fl1_z, map_s, map_z, true_and]
    unfold cstV
    refine br_if (fun hc => ?_) (fun hc => ?_)
    · rw [if_pos hc]
      have := hc.1
      repeat' (first | (with_reducible refine jn_in ?_) | (with_reducible refine cl_ok (by assumption) rfl ?_) | (with_reducible refine cl_okP (by assumption) rfl ?_) | (with_reducible refine br_if (fun hbr => ?_) (fun hbr => ?_)) | (with_reducible refine br_ifn (fun hbr => ?_) (fun hbr => ?_)) | (with_reducible refine br_nb (fun hbr => ?_) (fun hbr => ?_)) | (with_reducible refine br_b (fun hbr => ?_) (fun hbr => ?_)) | simp (disch := first | omega | (simp only [List.length_take, List.length_drop, List.length_append, List.map_cons, List.map_nil, List.length_map, List.length_cons, List.length_nil, List.length_set, List.length_replicate]; omega) | (simp only [List.length_cons, List.length_nil, Nat.zero_add, Nat.reduceAdd])) only [go_sem, ↓reduceIte, Nat.reduceAdd, Int.reduceNeg, Int.reduceAdd, Int.reduceSub, Int.reduceMul, Int.reduceLT, Int.reduceLE, Int.reduceEq, Int.reduceToNat, Nat.reduceBEq, e_sle, e_sge, e_shl1, e_orI, e_andI, e_shr, wrapu, wrap8, tn1, nat1, ix_s, ix_z, st_s, st_z, fl_s, fl_z, fl1_s, fl1_z, map_s, map_z, ix_Nod, encNod])
      rfl
    · rw [if_neg hc]
      by_cases h1 : (t.length : Int) = 1
      · rw [if_pos h1]
        repeat' (first | (with_reducible refine jn_in ?_) | (with_reducible refine cl_ok (by assumption) rfl ?_) | (with_reducible refine cl_okP (by assumption) rfl ?_) | (with_reducible refine br_if (fun hbr => ?_) (fun hbr => ?_)) | (with_reducible refine br_ifn (fun hbr => ?_) (fun hbr => ?_)) | (with_reducible refine br_nb (fun hbr => ?_) (fun hbr => ?_)) | (with_reducible refine br_b (fun hbr => ?_) (fun hbr => ?_)) | simp (disch := first | omega | (simp only [List.length_take, List.length_drop, List.length_append, List.map_cons, List.map_nil, List.length_map, List.length_cons, List.length_nil, List.length_set, List.length_replicate]; omega) | (simp only [List.length_cons, List.length_nil, Nat.zero_add, Nat.reduceAdd])) only [go_sem, ↓reduceIte, Nat.reduceAdd, Int.reduceNeg, Int.reduceAdd, Int.reduceSub, Int.reduceMul, Int.reduceLT, Int.reduceLE, Int.reduceEq, Int.reduceToNat, Nat.reduceBEq, e_sle, e_sge, e_shl1, e_orI, e_andI, e_shr, wrapu, wrap8, tn1, nat1, ix_s, ix_z, st_s, st_z, fl_s, fl_z, fl1_s, fl1_z, map_s, map_z, ix_Nod, encNod, fl_3])
        all_goals first
          | exact absurd h1 ‹¬ (t.length : Int) = 1›
          | (rw [if_pos ‹(t.getD 0 default).kind = 2›]; rfl)
          | (rw [if_neg ‹¬ (t.getD 0 default).kind = 2›, if_pos ‹(t.getD 0 default).kind = 3›]; rfl)
          | (rw [if_neg ‹¬ (t.getD 0 default).kind = 2›, if_neg ‹¬ (t.getD 0 default).kind = 3›, if_pos ‹(t.getD 0 default).kind = 4›]; rfl)
          | (rw [if_neg ‹¬ (t.getD 0 default).kind = 2›, if_neg ‹¬ (t.getD 0 default).kind = 3›, if_neg ‹¬ (t.getD 0 default).kind = 4›, if_pos ‹(t.getD 0 default).kind = 5›]; rfl)
          | (rw [if_neg ‹¬ (t.getD 0 default).kind = 2›, if_neg ‹¬ (t.getD 0 default).kind = 3›, if_neg ‹¬ (t.getD 0 default).kind = 4›, if_neg ‹¬ (t.getD 0 default).kind = 5›, decide_eq_true ‹(t.getD 0 default).kind = 6›]; rfl)
          | (rw [if_neg ‹¬ (t.getD 0 default).kind = 2›, if_neg ‹¬ (t.getD 0 default).kind = 3›, if_neg ‹¬ (t.getD 0 default).kind = 4›, if_neg ‹¬ (t.getD 0 default).kind = 5›, decide_eq_false ‹¬ (t.getD 0 default).kind = 6›]; rfl)
          | (rw [if_neg ‹¬ (t.getD 0 default).kind = 2›, if_neg ‹¬ (t.getD 0 default).kind = 3›, if_neg ‹¬ (t.getD 0 default).kind = 4›, if_neg ‹¬ (t.getD 0 default).kind = 5›]; rfl)
      · rw [if_neg h1]
        repeat' (first | (with_reducible refine jn_in ?_) | (with_reducible refine cl_ok (by assumption) rfl ?_) | (with_reducible refine cl_okP (by assumption) rfl ?_) | (with_reducible refine br_if (fun hbr => ?_) (fun hbr => ?_)) | (with_reducible refine br_ifn (fun hbr => ?_) (fun hbr => ?_)) | (with_reducible refine br_nb (fun hbr => ?_) (fun hbr => ?_)) | (with_reducible refine br_b (fun hbr => ?_) (fun hbr => ?_)) | simp (disch := first | omega | (simp only [List.length_take, List.length_drop, List.length_append, List.map_cons, List.map_nil, List.length_map, List.length_cons, List.length_nil, List.length_set, List.length_replicate]; omega) | (simp only [List.length_cons, List.length_nil, Nat.zero_add, Nat.reduceAdd])) only [go_sem, ↓reduceIte, Nat.reduceAdd, Int.reduceNeg, Int.reduceAdd, Int.reduceSub, Int.reduceMul, Int.reduceLT, Int.reduceLE, Int.reduceEq, Int.reduceToNat, Nat.reduceBEq, e_sle, e_sge, e_shl1, e_orI, e_andI, e_shr, wrapu, wrap8, tn1, nat1, ix_s, ix_z, st_s, st_z, fl_s, fl_z, fl1_s, fl1_z, map_s, map_z, true_and])
        all_goals first | rfl | exact absurd ‹_› h1
def cstOf (t : List Nod) : (Int × List It) × Bool := if treeB t = true then cstV t else ((0, []), false)
theorem implCst_m (t : List Nod) (ht : t.length ≤ 1048576) (hx : ∀ x ∈ t, x.text.size ≤ 1048576 ∧ x.labels.length ≤ 1048576 ∧ ∀ y ∈ x.labels, y.size ≤ 1048576) : Meets Try.prog 17 [(false, [encNods t])] (resF (cstOf t)) := by
  have h1 := implTree_m t ht hx
  have h2 := implCstV_m t ht
  refine meets_upf Try.func17 u_impl_ConstantOf_g rfl ?_; simp only [u_impl_ConstantOf_u]
  unfold cstOf
  cases hb : treeB t
  · rw [hb] at h1
    unfold resF encF
    simp only [encNods] at h1 ⊢
    repeat' (first | (with_reducible refine jn_in ?_) | (with_reducible refine cl_ok (by assumption) rfl ?_) | (with_reducible refine cl_okP (by assumption) rfl ?_) | (with_reducible refine br_if (fun hbr => ?_) (fun hbr => ?_)) | (with_reducible refine br_ifn (fun hbr => ?_) (fun hbr => ?_)) | (with_reducible refine br_nb (fun hbr => ?_) (fun hbr => ?_)) | (with_reducible refine br_b (fun hbr => ?_) (fun hbr => ?_)) | simp (disch := first | omega | (simp only [List.length_take, List.length_drop, List.length_append, List.map_cons, List.map_nil, List.length_map, List.length_cons, List.length_nil, List.length_set, List.length_replicate]; omega) | (simp only [List.length_cons, List.length_nil, Nat.zero_add, Nat.reduceAdd])) only [go_sem, ↓reduceIte, Nat.reduceAdd, Int.reduceNeg, Int.reduceAdd, Int.reduceSub, Int.reduceMul, Int.reduceLT, Int.reduceLE, Int.reduceEq, Int.reduceToNat, Nat.reduceBEq, e_sle, e_sge, e_shl1, e_orI, e_andI, e_shr, wrapu, wrap8, tn1, nat1, ix_s, ix_z, st_s, st_z, fl_s, fl_z, fl1_s, fl1_z, map_s, map_z, true_and])
    all_goals rfl
  · rw [hb] at h1
    unfold resF encF at *
    simp only [encNods, if_true] at h1 h2 ⊢
    repeat' (first | (with_reducible refine jn_in ?_) | (with_reducible refine cl_ok (by assumption) rfl ?_) | (with_reducible refine cl_okP (by assumption) rfl ?_) | (with_reducible refine br_if (fun hbr => ?_) (fun hbr => ?_)) | (with_reducible refine br_ifn (fun hbr => ?_) (fun hbr => ?_)) | (with_reducible refine br_nb (fun hbr => ?_) (fun hbr => ?_)) | (with_reducible refine br_b (fun hbr => ?_) (fun hbr => ?_)) | simp (disch := first | omega | (simp only [List.length_take, List.length_drop, List.length_append, List.map_cons, List.map_nil, List.length_map, List.length_cons, List.length_nil, List.length_set, List.length_replicate]; omega) | (simp only [List.length_cons, List.length_nil, Nat.zero_add, Nat.reduceAdd])) only [go_sem, ↓reduceIte, Nat.reduceAdd, Int.reduceNeg, Int.reduceAdd, Int.reduceSub, Int.reduceMul, Int.reduceLT, Int.reduceLE, Int.reduceEq, Int.reduceToNat, Nat.reduceBEq, e_sle, e_sge, e_shl1, e_orI, e_andI, e_shr, wrapu, wrap8, tn1, nat1, ix_s, ix_z, st_s, st_z, fl_s, fl_z, fl1_s, fl1_z, map_s, map_z, true_and])
    all_goals rfl
theorem specCst_m (t : List Nod) (ht : t.length ≤ 1048576) (hx : ∀ x ∈ t, x.text.size ≤ 1048576 ∧ x.labels.length ≤ 1048576 ∧ ∀ y ∈ x.labels, y.size ≤ 1048576) : Meets Try.prog 15 [(false, [encNods t])] (resF (cstOf t)) := by
  have h1 := specTree_m t ht hx
  have h2 := specCstV_m t ht
  refine meets_upf Try.func15 u_spec_ConstantOf_g rfl ?_; simp only [u_spec_ConstantOf_u]
  unfold cstOf
  cases hb : treeB t
  · rw [hb] at h1
    unfold resF encF
    simp only [encNods] at h1 ⊢
    repeat' (first | (with_reducible refine jn_in ?_) | (with_reducible refine cl_ok (by assumption) rfl ?_) | (with_reducible refine cl_okP (by assumption) rfl ?_) | (with_reducible refine br_if (fun hbr => ?_) (fun hbr => ?_)) | (with_reducible refine br_ifn (fun hbr => ?_) (fun hbr => ?_)) | (with_reducible refine br_nb (fun hbr => ?_) (fun hbr => ?_)) | (with_reducible refine br_b (fun hbr => ?_) (fun hbr => ?_)) | simp (disch := first | omega | (simp only [List.length_take, List.length_drop, List.length_append, List.map_cons, List.map_nil, List.length_map, List.length_cons, List.length_nil, List.length_set, List.length_replicate]; omega) | (simp only [List.length_cons, List.length_nil, Nat.zero_add, Nat.reduceAdd])) only [go_sem, ↓reduceIte, Nat.reduceAdd, Int.reduceNeg, Int.reduceAdd, Int.reduceSub, Int.reduceMul, Int.reduceLT, Int.reduceLE, Int.reduceEq, Int.reduceToNat, Nat.reduceBEq, e_sle, e_sge, e_shl1, e_orI, e_andI, e_shr, wrapu, wrap8, tn1, nat1, ix_s, ix_z, st_s, st_z, fl_s, fl_z, fl1_s, fl1_z, map_s, map_z, true_and])
    all_goals rfl
  · rw [hb] at h1
    unfold resF encF at *
    simp only [encNods, if_true] at h1 h2 ⊢
    repeat' (first | (with_reducible refine jn_in ?_) | (with_reducible refine cl_ok (by assumption) rfl ?_) | (with_reducible refine cl_okP (by assumption) rfl ?_) | (with_reducible refine br_if (fun hbr => ?_) (fun hbr => ?_)) | (with_reducible refine br_ifn (fun hbr => ?_) (fun hbr => ?_)) | (with_reducible refine br_nb (fun hbr => ?_) (fun hbr => ?_)) | (with_reducible refine br_b (fun hbr => ?_) (fun hbr => ?_)) | simp (disch := first | omega | (simp only [List.length_take, List.length_drop, List.length_append, List.map_cons, List.map_nil, List.length_map, List.length_cons, List.length_nil, List.length_set, List.length_replicate]; omega) | (simp only [List.length_cons, List.length_nil, Nat.zero_add, Nat.reduceAdd])) only [go_sem, ↓reduceIte, Nat.reduceAdd, Int.reduceNeg, Int.reduceAdd, Int.reduceSub, Int.reduceMul, Int.reduceLT, Int.reduceLE, Int.reduceEq, Int.reduceToNat, Nat.reduceBEq, e_sle, e_sge, e_shl1, e_orI, e_andI, e_shr, wrapu, wrap8, tn1, nat1, ix_s, ix_z, st_s, st_z, fl_s, fl_z, fl1_s, fl1_z, map_s, map_z, true_and])
    all_goals rfl
end Go.Proofs.Ytkcljmgjbjdccaa

namespace Go.Proofs.Ytkcljmgjbjdccaa
open Go.RowKit
set_option maxRecDepth 100000
def u_laws_eqVector_h : List Hint := []
def u_laws_eqVector_d : List (Nat × Nat × Bool × List Nat) := []
def u_laws_eqVector_u : UP := .po (.k (.bool false)) <| .po (.bin .neq false 16 8) <| .ite 0 (.po (.k (.bool false)) <| .po (.sc 0) <| .ret [(false, [0])]) <| .sel [2, 3, 4, 5, 6, 7, 8, 10, 11, 12, 13, 14, 15, 16] <| .cl 30 [(false, [13]), (false, [6])] [(false, [none], true)] <| .po (.un .not 0) <| .ite 0 (.po (.k (.bool false)) <| .po (.sc 0) <| .ret [(false, [0])]) <| .sel [2, 3, 4, 5, 6, 7, 9, 10, 11, 12, 13, 14] <| .cl 31 [(false, [11]), (false, [5])] [(false, [none], true)] <| .po (.un .not 0) <| .ite 0 (.po (.k (.bool false)) <| .po (.sc 0) <| .ret [(false, [0])]) <| .sel [2, 3, 4, 5, 6, 8, 9, 10, 11, 12] <| .cl 32 [(false, [9]), (false, [4])] [(false, [none], true)] <| .po (.un .not 0) <| .ite 0 (.po (.k (.bool false)) <| .po (.sc 0) <| .ret [(false, [0])]) <| .sel [2, 3, 4, 5, 7, 8, 9, 10] <| .cl 32 [(false, [7]), (false, [3])] [(false, [none], true)] <| .po (.un .not 0) <| .ite 0 (.po (.k (.bool false)) <| .po (.sc 0) <| .ret [(false, [0])]) <| .sel [2, 3, 4, 6, 7, 8] <| .cl 32 [(false, [5]), (false, [2])] [(false, [none], true)] <| .po (.un .not 0) <| .ite 0 (.po (.k (.bool false)) <| .po (.sc 0) <| .ret [(false, [0])]) <| .po (.bin .neq false 6 3) <| .ite 0 (.po (.k (.bool false)) <| .po (.sc 0) <| .ret [(false, [0])]) <| .po (.bin .neq false 6 3) <| .ite 0 (.po (.k (.bool false)) <| .po (.sc 0) <| .ret [(false, [0])]) <| .po (.k (.bool true)) <| .po (.sc 0) <| .ret [(false, [0])]
theorem u_laws_eqVector_g : toUPf Try.prog 10 Try.f10 owA u_laws_eqVector_h u_laws_eqVector_d = some ([(true, 8), (true, 8)], u_laws_eqVector_u) := by kernel_rfl
def u_laws_eqVectorS_h : List Hint := [⟨3000004, 1, ⟨[(5, .p false [.d 7]), (10, .p false [.d 5]), (4, .p false [.d 2]), (0, .p false [.d 0]), (1, .p false [.d 1])], [], 0, 0, 8, [(5, false), (2, false)]⟩, []⟩]
def u_laws_eqVectorS_d : List (Nat × Nat × Bool × List Nat) := [(6, 10, false, [])]
def u_laws_eqVectorS_l0 : UP := .po (.lenL 3) <| .po (.bin .lss false 1 0) <| .ite 0 (.po (.isI 2) <| .po (.idx 8 5 2) <| .po (.isI 10) <| .po (.idx 8 12 10) <| .sel [0, 1, 2, 3, 4, 5, 6, 7, 8, 9, 10, 11, 12, 13, 14, 15, 18] <| .cl 10 [(true, [15, 14, 13, 12, 11, 10, 9, 8]), (true, [7, 6, 5, 4, 3, 2, 1, 0])] [(false, [none], true)] <| .po (.un .not 0) <| .po (.sc 0) <| .ite 0 (.po (.k (.bool false)) <| .po (.sc 0) <| .ret [(false, [0])]) <| .po (.k (.int .i64 1)) <| .po (.bin .add false 19 0) <| .jump 0 [0]) <| .po (.k (.bool true)) <| .po (.sc 0) <| .ret [(false, [0])]
def u_laws_eqVectorS_u : UP := .po (.k (.bool false)) <| .po (.lenL 2) <| .po (.lenL 2) <| .po (.bin .neq false 1 0) <| .ite 0 (.po (.k (.bool false)) <| .po (.sc 0) <| .ret [(false, [0])]) <| .po (.k (.int .i64 0)) <| .sel [0, 5, 6] <| .loop [0] u_laws_eqVectorS_l0
theorem u_laws_eqVectorS_g : toUPf Try.prog 31 Try.f31 owA u_laws_eqVectorS_h u_laws_eqVectorS_d = some ([(false, 1), (false, 1)], u_laws_eqVectorS_u) := by kernel_rfl
def u_laws_heldVector_h : List Hint := []
def u_laws_heldVector_d : List (Nat × Nat × Bool × List Nat) := []
def u_laws_heldVector_u : UP := .po (.k (.int .i64 0)) <| .sel [1, 4, 5, 6, 7, 8] <| .cl 44 [(false, [5]), (false, [0])] [(false, [none], true)] <| .po (.k (.int .i64 0)) <| .po (.bin .lss false 1 0) <| .ite 0 (.po (.k (.int .i64 (-1))) <| .po (.sc 0) <| .ret [(false, [0])]) <| .sel [2, 4, 5, 6, 7] <| .cl 45 [(false, [4]), (false, [0])] [(false, [none], true)] <| .po (.k (.int .i64 0)) <| .po (.bin .lss false 1 0) <| .ite 0 (.po (.k (.int .i64 (-1))) <| .po (.sc 0) <| .ret [(false, [0])]) <| .sel [2, 4, 5, 6] <| .cl 37 [(false, [3]), (false, [0])] [(false, [none], true)] <| .po (.k (.int .i64 0)) <| .po (.bin .lss false 1 0) <| .ite 0 (.po (.k (.int .i64 (-1))) <| .po (.sc 0) <| .ret [(false, [0])]) <| .sel [2, 4, 5] <| .cl 37 [(false, [2]), (false, [0])] [(false, [none], true)] <| .po (.k (.int .i64 0)) <| .po (.bin .lss false 1 0) <| .ite 0 (.po (.k (.int .i64 (-1))) <| .po (.sc 0) <| .ret [(false, [0])]) <| .sel [2, 4] <| .cl 37 [(false, [1]), (false, [0])] [(false, [none], true)] <| .po (.k (.int .i64 0)) <| .po (.bin .lss false 1 0) <| .ite 0 (.po (.k (.int .i64 (-1))) <| .po (.sc 0) <| .ret [(false, [0])]) <| .po (.sc 2) <| .ret [(false, [2])]
theorem u_laws_heldVector_g : toUPf Try.prog 18 Try.f18 owA u_laws_heldVector_h u_laws_heldVector_d = some ([(true, 8), (false, 1)], u_laws_heldVector_u) := by kernel_rfl
def u_laws_heldVectorS_h : List Hint := [⟨3000002, 2, ⟨[(5, .p false [.d 4]), (4, .p false [.d 2]), (0, .p false [.d 0]), (1, .p false [.d 5])], [], 0, 0, 6, []⟩, []⟩]
def u_laws_heldVectorS_d : List (Nat × Nat × Bool × List Nat) := []
def u_laws_heldVectorS_l0 : UP := .po (.lenL 5) <| .po (.bin .lss false 2 0) <| .ite 0 (.po (.isI 3) <| .po (.idx 8 7 3) <| .po (.bin .neq false 7 10) <| .ite 0 (.po (.k (.int .i64 (-1))) <| .po (.sc 0) <| .ret [(false, [0])]) <| .po (.k (.int .i64 1)) <| .po (.bin .add false 12 0) <| .po (.isI 14) <| .po (.idx 8 18 14) <| .sel [6, 8, 22, 26] <| .cl 44 [(false, [0]), (false, [1])] [(false, [none], true)] <| .po (.k (.int .i64 0)) <| .po (.bin .lss false 1 0) <| .ite 0 (.po (.k (.int .i64 (-1))) <| .po (.sc 0) <| .ret [(false, [0])]) <| .po (.isI 5) <| .po (.idx 8 6 5) <| .sel [5, 10, 13, 14] <| .cl 45 [(false, [0]), (false, [1])] [(false, [none], true)] <| .po (.k (.int .i64 0)) <| .po (.bin .lss false 1 0) <| .ite 0 (.po (.k (.int .i64 (-1))) <| .po (.sc 0) <| .ret [(false, [0])]) <| .po (.isI 5) <| .po (.idx 8 6 5) <| .sel [4, 10, 13, 14] <| .cl 37 [(false, [0]), (false, [1])] [(false, [none], true)] <| .po (.k (.int .i64 0)) <| .po (.bin .lss false 1 0) <| .ite 0 (.po (.k (.int .i64 (-1))) <| .po (.sc 0) <| .ret [(false, [0])]) <| .po (.isI 5) <| .po (.idx 8 6 5) <| .sel [3, 10, 13, 14] <| .cl 37 [(false, [0]), (false, [1])] [(false, [none], true)] <| .po (.k (.int .i64 0)) <| .po (.bin .lss false 1 0) <| .ite 0 (.po (.k (.int .i64 (-1))) <| .po (.sc 0) <| .ret [(false, [0])]) <| .po (.isI 5) <| .po (.idx 8 6 5) <| .sel [2, 10, 13, 14] <| .cl 37 [(false, [0]), (false, [1])] [(false, [none], true)] <| .po (.k (.int .i64 0)) <| .po (.bin .lss false 1 0) <| .ite 0 (.po (.k (.int .i64 (-1))) <| .po (.sc 0) <| .ret [(false, [0])]) <| .po (.isI 5) <| .po (.idx 8 6 5) <| .po (.bin .neq false 1 10) <| .ite 0 (.po (.k (.int .i64 (-1))) <| .po (.sc 0) <| .ret [(false, [0])]) <| .po (.k (.int .i64 1)) <| .po (.bin .add false 12 0) <| .po (.isI 16) <| .po (.idx 8 17 16) <| .po (.bin .neq false 0 8) <| .ite 0 (.po (.k (.int .i64 (-1))) <| .po (.sc 0) <| .ret [(false, [0])]) <| .po (.k (.int .i64 1)) <| .po (.bin .add false 10 0) <| .po (.k (.int .i64 1)) <| .po (.bin .add false 28 0) <| .jump 0 [0, 2]) <| .po (.sc 2) <| .ret [(false, [2])]
def u_laws_heldVectorS_u : UP := .po (.k (.int .i64 0)) <| .po (.k (.int .i64 0)) <| .loop [0, 2] u_laws_heldVectorS_l0
theorem u_laws_heldVectorS_g : toUPf Try.prog 45 Try.f45 owA u_laws_heldVectorS_h u_laws_heldVectorS_d = some ([(false, 1), (false, 1)], u_laws_heldVectorS_u) := by kernel_rfl
end Go.Proofs.Ytkcljmgjbjdccaa

namespace Go.Proofs.Ytkcljmgjbjdccaa
open Go.RowKit
@[go_sem] theorem tagg_2 : tagg Try.prog 2 = some false := by kernel_rfl
@[go_sem] theorem tsz_2 : tsz Try.prog 2 = some 1 := by kernel_rfl
@[go_sem] theorem tby_2 : tby Try.prog 2 = some 8 := by kernel_rfl
@[go_sem] theorem und_2 : Try.prog.underlying 2 = some (.int .i64) := by kernel_rfl
@[go_sem] theorem zac_2 : zeroAC Try.prog 2 = some [.d (.sc (.int .i64 0))] := by kernel_rfl
@[go_sem] theorem tzero_2 : tzero Try.prog 2 = some [.int .i64 0] := by kernel_rfl
@[go_sem] theorem tagg_3 : tagg Try.prog 3 = some false := by kernel_rfl
@[go_sem] theorem tsz_3 : tsz Try.prog 3 = some 1 := by kernel_rfl
@[go_sem] theorem tby_3 : tby Try.prog 3 = some 8 := by kernel_rfl
@[go_sem] theorem und_3 : Try.prog.underlying 3 = some (.int .i64) := by kernel_rfl
@[go_sem] theorem zac_3 : zeroAC Try.prog 3 = some [.d (.sc (.int .i64 0))] := by kernel_rfl
@[go_sem] theorem tzero_3 : tzero Try.prog 3 = some [.int .i64 0] := by kernel_rfl
@[go_sem] theorem tagg_4 : tagg Try.prog 4 = some false := by kernel_rfl
@[go_sem] theorem tsz_4 : tsz Try.prog 4 = some 1 := by kernel_rfl
@[go_sem] theorem tby_4 : tby Try.prog 4 = some 1 := by kernel_rfl
@[go_sem] theorem und_4 : Try.prog.underlying 4 = some .bool := by kernel_rfl
@[go_sem] theorem zac_4 : zeroAC Try.prog 4 = some [.d (.sc (.bool false))] := by kernel_rfl
@[go_sem] theorem tzero_4 : tzero Try.prog 4 = some [.bool false] := by kernel_rfl
@[go_sem] theorem tagg_5 : tagg Try.prog 5 = some false := by kernel_rfl
@[go_sem] theorem tsz_5 : tsz Try.prog 5 = some 1 := by kernel_rfl
@[go_sem] theorem tby_5 : tby Try.prog 5 = some 1 := by kernel_rfl
@[go_sem] theorem und_5 : Try.prog.underlying 5 = some (.int .u8) := by kernel_rfl
@[go_sem] theorem zac_5 : zeroAC Try.prog 5 = some [.d (.sc (.int .u8 0))] := by kernel_rfl
@[go_sem] theorem tzero_5 : tzero Try.prog 5 = some [.int .u8 0] := by kernel_rfl
@[go_sem] theorem tagg_6 : tagg Try.prog 6 = some false := by kernel_rfl
@[go_sem] theorem tsz_6 : tsz Try.prog 6 = some 1 := by kernel_rfl
@[go_sem] theorem tby_6 : tby Try.prog 6 = some 1 := by kernel_rfl
@[go_sem] theorem und_6 : Try.prog.underlying 6 = some (.int .u8) := by kernel_rfl
@[go_sem] theorem zac_6 : zeroAC Try.prog 6 = some [.d (.sc (.int .u8 0))] := by kernel_rfl
@[go_sem] theorem tzero_6 : tzero Try.prog 6 = some [.int .u8 0] := by kernel_rfl
@[go_sem] theorem tagg_7 : tagg Try.prog 7 = some true := by kernel_rfl
@[go_sem] theorem tsz_7 : tsz Try.prog 7 = some 4 := by kernel_rfl
@[go_sem] theorem tby_7 : tby Try.prog 7 = some 24 := by kernel_rfl
@[go_sem] theorem zac_7 : zeroAC Try.prog 7 = some [.d (.sc (.int .i64 0)), .d (.sc (.int .i64 0)), .d (.sc (.bool false)), .d (.sc (.int .u8 0))] := by kernel_rfl
@[go_sem] theorem tzero_7 : tzero Try.prog 7 = some [.int .i64 0, .int .i64 0, .bool false, .int .u8 0] := by kernel_rfl
@[go_sem] theorem tpl_7 : tpl Try.prog 7 = true := by kernel_rfl
@[go_sem] theorem tfl_7_0 : tfl Try.prog 7 0 = some (0, 1, false) := by kernel_rfl
@[go_sem] theorem tfl_7_1 : tfl Try.prog 7 1 = some (1, 1, false) := by kernel_rfl
@[go_sem] theorem tfl_7_2 : tfl Try.prog 7 2 = some (2, 1, false) := by kernel_rfl
@[go_sem] theorem tfl_7_3 : tfl Try.prog 7 3 = some (3, 1, false) := by kernel_rfl
@[go_sem] theorem tagg_8 : tagg Try.prog 8 = some true := by kernel_rfl
@[go_sem] theorem tsz_8 : tsz Try.prog 8 = some 4 := by kernel_rfl
@[go_sem] theorem tby_8 : tby Try.prog 8 = some 24 := by kernel_rfl
@[go_sem] theorem zac_8 : zeroAC Try.prog 8 = some [.d (.sc (.int .i64 0)), .d (.sc (.int .i64 0)), .d (.sc (.bool false)), .d (.sc (.int .u8 0))] := by kernel_rfl
@[go_sem] theorem tzero_8 : tzero Try.prog 8 = some [.int .i64 0, .int .i64 0, .bool false, .int .u8 0] := by kernel_rfl
@[go_sem] theorem tpl_8 : tpl Try.prog 8 = true := by kernel_rfl
@[go_sem] theorem tfl_8_0 : tfl Try.prog 8 0 = some (0, 1, false) := by kernel_rfl
@[go_sem] theorem tfl_8_1 : tfl Try.prog 8 1 = some (1, 1, false) := by kernel_rfl
@[go_sem] theorem tfl_8_2 : tfl Try.prog 8 2 = some (2, 1, false) := by kernel_rfl
@[go_sem] theorem tfl_8_3 : tfl Try.prog 8 3 = some (3, 1, false) := by kernel_rfl
@[go_sem] theorem tagg_9 : tagg Try.prog 9 = some false := by kernel_rfl
@[go_sem] theorem tsz_9 : tsz Try.prog 9 = some 1 := by kernel_rfl
@[go_sem] theorem tby_9 : tby Try.prog 9 = some 16 := by kernel_rfl
@[go_sem] theorem und_9 : Try.prog.underlying 9 = some .string := by kernel_rfl
@[go_sem] theorem zac_9 : zeroAC Try.prog 9 = some [.d (.sc (.string ByteArray.empty))] := by kernel_rfl
@[go_sem] theorem tzero_9 : tzero Try.prog 9 = some [.string ByteArray.empty] := by kernel_rfl
@[go_sem] theorem tagg_10 : tagg Try.prog 10 = some false := by kernel_rfl
@[go_sem] theorem tsz_10 : tsz Try.prog 10 = some 1 := by kernel_rfl
@[go_sem] theorem tby_10 : tby Try.prog 10 = some 16 := by kernel_rfl
@[go_sem] theorem und_10 : Try.prog.underlying 10 = some .string := by kernel_rfl
@[go_sem] theorem zac_10 : zeroAC Try.prog 10 = some [.d (.sc (.string ByteArray.empty))] := by kernel_rfl
@[go_sem] theorem tzero_10 : tzero Try.prog 10 = some [.string ByteArray.empty] := by kernel_rfl
@[go_sem] theorem tagg_11 : tagg Try.prog 11 = some false := by kernel_rfl
@[go_sem] theorem tsz_11 : tsz Try.prog 11 = some 1 := by kernel_rfl
@[go_sem] theorem tby_11 : tby Try.prog 11 = some 16 := by kernel_rfl
@[go_sem] theorem und_11 : Try.prog.underlying 11 = some .string := by kernel_rfl
@[go_sem] theorem zac_11 : zeroAC Try.prog 11 = some [.d (.sc (.string ByteArray.empty))] := by kernel_rfl
@[go_sem] theorem tzero_11 : tzero Try.prog 11 = some [.string ByteArray.empty] := by kernel_rfl
@[go_sem] theorem tagg_12 : tagg Try.prog 12 = some false := by kernel_rfl
@[go_sem] theorem tsz_12 : tsz Try.prog 12 = some 1 := by kernel_rfl
@[go_sem] theorem tby_12 : tby Try.prog 12 = some 8 := by kernel_rfl
@[go_sem] theorem und_12 : Try.prog.underlying 12 = some (.int .u64) := by kernel_rfl
@[go_sem] theorem zac_12 : zeroAC Try.prog 12 = some [.d (.sc (.int .u64 0))] := by kernel_rfl
@[go_sem] theorem tzero_12 : tzero Try.prog 12 = some [.int .u64 0] := by kernel_rfl
@[go_sem] theorem tagg_13 : tagg Try.prog 13 = some true := by kernel_rfl
@[go_sem] theorem tsz_13 : tsz Try.prog 13 = some 2 := by kernel_rfl
@[go_sem] theorem tby_13 : tby Try.prog 13 = some 24 := by kernel_rfl
@[go_sem] theorem zac_13 : zeroAC Try.prog 13 = some [.d (.sc (.string ByteArray.empty)), .d (.sc (.int .u64 0))] := by kernel_rfl
@[go_sem] theorem tzero_13 : tzero Try.prog 13 = some [.string ByteArray.empty, .int .u64 0] := by kernel_rfl
@[go_sem] theorem tpl_13 : tpl Try.prog 13 = true := by kernel_rfl
@[go_sem] theorem tfl_13_0 : tfl Try.prog 13 0 = some (0, 1, false) := by kernel_rfl
@[go_sem] theorem tfl_13_1 : tfl Try.prog 13 1 = some (1, 1, false) := by kernel_rfl
@[go_sem] theorem tagg_14 : tagg Try.prog 14 = some true := by kernel_rfl
@[go_sem] theorem tsz_14 : tsz Try.prog 14 = some 2 := by kernel_rfl
@[go_sem] theorem tby_14 : tby Try.prog 14 = some 24 := by kernel_rfl
@[go_sem] theorem zac_14 : zeroAC Try.prog 14 = some [.d (.sc (.string ByteArray.empty)), .d (.sc (.int .u64 0))] := by kernel_rfl
@[go_sem] theorem tzero_14 : tzero Try.prog 14 = some [.string ByteArray.empty, .int .u64 0] := by kernel_rfl
@[go_sem] theorem tpl_14 : tpl Try.prog 14 = true := by kernel_rfl
@[go_sem] theorem tfl_14_0 : tfl Try.prog 14 0 = some (0, 1, false) := by kernel_rfl
@[go_sem] theorem tfl_14_1 : tfl Try.prog 14 1 = some (1, 1, false) := by kernel_rfl
@[go_sem] theorem tagg_18 : tagg Try.prog 18 = some true := by kernel_rfl
@[go_sem] theorem tsz_18 : tsz Try.prog 18 = some 1 := by kernel_rfl
@[go_sem] theorem tby_18 : tby Try.prog 18 = some 8 := by kernel_rfl
@[go_sem] theorem tagg_19 : tagg Try.prog 19 = some true := by kernel_rfl
@[go_sem] theorem tsz_19 : tsz Try.prog 19 = some 1 := by kernel_rfl
@[go_sem] theorem tby_19 : tby Try.prog 19 = some 8 := by kernel_rfl
@[go_sem] theorem tagg_21 : tagg Try.prog 21 = some false := by kernel_rfl
@[go_sem] theorem tsz_21 : tsz Try.prog 21 = some 1 := by kernel_rfl
@[go_sem] theorem tby_21 : tby Try.prog 21 = some 4 := by kernel_rfl
@[go_sem] theorem und_21 : Try.prog.underlying 21 = some (.int .i32) := by kernel_rfl
@[go_sem] theorem zac_21 : zeroAC Try.prog 21 = some [.d (.sc (.int .i32 0))] := by kernel_rfl
@[go_sem] theorem tzero_21 : tzero Try.prog 21 = some [.int .i32 0] := by kernel_rfl
@[go_sem] theorem tagg_22 : tagg Try.prog 22 = some false := by kernel_rfl
@[go_sem] theorem tsz_22 : tsz Try.prog 22 = some 1 := by kernel_rfl
@[go_sem] theorem tby_22 : tby Try.prog 22 = some 24 := by kernel_rfl
@[go_sem] theorem zac_22 : zeroAC Try.prog 22 = some [.nil] := by kernel_rfl
@[go_sem] theorem tzero_22 : tzero Try.prog 22 = some [.slice none 0 0] := by kernel_rfl
@[go_sem] theorem tel_22 : tel Try.prog 22 = some (71, 3) := by kernel_rfl
@[go_sem] theorem tagg_23 : tagg Try.prog 23 = some false := by kernel_rfl
@[go_sem] theorem tsz_23 : tsz Try.prog 23 = some 1 := by kernel_rfl
@[go_sem] theorem tby_23 : tby Try.prog 23 = some 24 := by kernel_rfl
@[go_sem] theorem zac_23 : zeroAC Try.prog 23 = some [.nil] := by kernel_rfl
@[go_sem] theorem tzero_23 : tzero Try.prog 23 = some [.slice none 0 0] := by kernel_rfl
@[go_sem] theorem tel_23 : tel Try.prog 23 = some (26, 8) := by kernel_rfl
@[go_sem] theorem tagg_24 : tagg Try.prog 24 = some false := by kernel_rfl
@[go_sem] theorem tsz_24 : tsz Try.prog 24 = some 1 := by kernel_rfl
@[go_sem] theorem tby_24 : tby Try.prog 24 = some 24 := by kernel_rfl
@[go_sem] theorem zac_24 : zeroAC Try.prog 24 = some [.nil] := by kernel_rfl
@[go_sem] theorem tzero_24 : tzero Try.prog 24 = some [.slice none 0 0] := by kernel_rfl
@[go_sem] theorem tel_24 : tel Try.prog 24 = some (9, 1) := by kernel_rfl
@[go_sem] theorem tagg_25 : tagg Try.prog 25 = some true := by kernel_rfl
@[go_sem] theorem tsz_25 : tsz Try.prog 25 = some 8 := by kernel_rfl
@[go_sem] theorem tby_25 : tby Try.prog 25 = some 144 := by kernel_rfl
@[go_sem] theorem zac_25 : zeroAC Try.prog 25 = some [.d (.sc (.int .i64 0)), .nil, .nil, .nil, .nil, .nil, .d (.sc (.int .i64 0)), .d (.sc (.int .i64 0))] := by kernel_rfl
@[go_sem] theorem tzero_25 : tzero Try.prog 25 = some [.int .i64 0, .slice none 0 0, .slice none 0 0, .slice none 0 0, .slice none 0 0, .slice none 0 0, .int .i64 0, .int .i64 0] := by kernel_rfl
@[go_sem] theorem tpl_25 : tpl Try.prog 25 = true := by kernel_rfl
@[go_sem] theorem tfl_25_0 : tfl Try.prog 25 0 = some (0, 1, false) := by kernel_rfl
@[go_sem] theorem tfl_25_1 : tfl Try.prog 25 1 = some (1, 1, false) := by kernel_rfl
@[go_sem] theorem tfl_25_2 : tfl Try.prog 25 2 = some (2, 1, false) := by kernel_rfl
@[go_sem] theorem tfl_25_3 : tfl Try.prog 25 3 = some (3, 1, false) := by kernel_rfl
@[go_sem] theorem tfl_25_4 : tfl Try.prog 25 4 = some (4, 1, false) := by kernel_rfl
@[go_sem] theorem tfl_25_5 : tfl Try.prog 25 5 = some (5, 1, false) := by kernel_rfl
@[go_sem] theorem tfl_25_6 : tfl Try.prog 25 6 = some (6, 1, false) := by kernel_rfl
@[go_sem] theorem tfl_25_7 : tfl Try.prog 25 7 = some (7, 1, false) := by kernel_rfl
@[go_sem] theorem tagg_26 : tagg Try.prog 26 = some true := by kernel_rfl
@[go_sem] theorem tsz_26 : tsz Try.prog 26 = some 8 := by kernel_rfl
@[go_sem] theorem tby_26 : tby Try.prog 26 = some 144 := by kernel_rfl
@[go_sem] theorem zac_26 : zeroAC Try.prog 26 = some [.d (.sc (.int .i64 0)), .nil, .nil, .nil, .nil, .nil, .d (.sc (.int .i64 0)), .d (.sc (.int .i64 0))] := by kernel_rfl
@[go_sem] theorem tzero_26 : tzero Try.prog 26 = some [.int .i64 0, .slice none 0 0, .slice none 0 0, .slice none 0 0, .slice none 0 0, .slice none 0 0, .int .i64 0, .int .i64 0] := by kernel_rfl
@[go_sem] theorem tpl_26 : tpl Try.prog 26 = true := by kernel_rfl
@[go_sem] theorem tfl_26_0 : tfl Try.prog 26 0 = some (0, 1, false) := by kernel_rfl
@[go_sem] theorem tfl_26_1 : tfl Try.prog 26 1 = some (1, 1, false) := by kernel_rfl
@[go_sem] theorem tfl_26_2 : tfl Try.prog 26 2 = some (2, 1, false) := by kernel_rfl
@[go_sem] theorem tfl_26_3 : tfl Try.prog 26 3 = some (3, 1, false) := by kernel_rfl
@[go_sem] theorem tfl_26_4 : tfl Try.prog 26 4 = some (4, 1, false) := by kernel_rfl
@[go_sem] theorem tfl_26_5 : tfl Try.prog 26 5 = some (5, 1, false) := by kernel_rfl
@[go_sem] theorem tfl_26_6 : tfl Try.prog 26 6 = some (6, 1, false) := by kernel_rfl
@[go_sem] theorem tfl_26_7 : tfl Try.prog 26 7 = some (7, 1, false) := by kernel_rfl
@[go_sem] theorem tagg_28 : tagg Try.prog 28 = some false := by kernel_rfl
@[go_sem] theorem tsz_28 : tsz Try.prog 28 = some 1 := by kernel_rfl
@[go_sem] theorem tby_28 : tby Try.prog 28 = some 24 := by kernel_rfl
@[go_sem] theorem zac_28 : zeroAC Try.prog 28 = some [.nil] := by kernel_rfl
@[go_sem] theorem tzero_28 : tzero Try.prog 28 = some [.slice none 0 0] := by kernel_rfl
@[go_sem] theorem tel_28 : tel Try.prog 28 = some (52, 5) := by kernel_rfl
@[go_sem] theorem tagg_31 : tagg Try.prog 31 = some false := by kernel_rfl
@[go_sem] theorem tsz_31 : tsz Try.prog 31 = some 1 := by kernel_rfl
@[go_sem] theorem tby_31 : tby Try.prog 31 = some 24 := by kernel_rfl
@[go_sem] theorem zac_31 : zeroAC Try.prog 31 = some [.nil] := by kernel_rfl
@[go_sem] theorem tzero_31 : tzero Try.prog 31 = some [.slice none 0 0] := by kernel_rfl
@[go_sem] theorem tel_31 : tel Try.prog 31 = some (54, 3) := by kernel_rfl
@[go_sem] theorem tagg_32 : tagg Try.prog 32 = some false := by kernel_rfl
@[go_sem] theorem tsz_32 : tsz Try.prog 32 = some 1 := by kernel_rfl
@[go_sem] theorem tby_32 : tby Try.prog 32 = some 24 := by kernel_rfl
@[go_sem] theorem zac_32 : zeroAC Try.prog 32 = some [.nil] := by kernel_rfl
@[go_sem] theorem tzero_32 : tzero Try.prog 32 = some [.slice none 0 0] := by kernel_rfl
@[go_sem] theorem tel_32 : tel Try.prog 32 = some (34, 8) := by kernel_rfl
@[go_sem] theorem tagg_33 : tagg Try.prog 33 = some true := by kernel_rfl
@[go_sem] theorem tsz_33 : tsz Try.prog 33 = some 8 := by kernel_rfl
@[go_sem] theorem tby_33 : tby Try.prog 33 = some 144 := by kernel_rfl
@[go_sem] theorem zac_33 : zeroAC Try.prog 33 = some [.d (.sc (.int .i64 0)), .nil, .nil, .nil, .nil, .nil, .d (.sc (.int .i64 0)), .d (.sc (.int .i64 0))] := by kernel_rfl
@[go_sem] theorem tzero_33 : tzero Try.prog 33 = some [.int .i64 0, .slice none 0 0, .slice none 0 0, .slice none 0 0, .slice none 0 0, .slice none 0 0, .int .i64 0, .int .i64 0] := by kernel_rfl
@[go_sem] theorem tpl_33 : tpl Try.prog 33 = true := by kernel_rfl
@[go_sem] theorem tfl_33_0 : tfl Try.prog 33 0 = some (0, 1, false) := by kernel_rfl
@[go_sem] theorem tfl_33_1 : tfl Try.prog 33 1 = some (1, 1, false) := by kernel_rfl
@[go_sem] theorem tfl_33_2 : tfl Try.prog 33 2 = some (2, 1, false) := by kernel_rfl
@[go_sem] theorem tfl_33_3 : tfl Try.prog 33 3 = some (3, 1, false) := by kernel_rfl
@[go_sem] theorem tfl_33_4 : tfl Try.prog 33 4 = some (4, 1, false) := by kernel_rfl
@[go_sem] theorem tfl_33_5 : tfl Try.prog 33 5 = some (5, 1, false) := by kernel_rfl
@[go_sem] theorem tfl_33_6 : tfl Try.prog 33 6 = some (6, 1, false) := by kernel_rfl
@[go_sem] theorem tfl_33_7 : tfl Try.prog 33 7 = some (7, 1, false) := by kernel_rfl
@[go_sem] theorem tagg_34 : tagg Try.prog 34 = some true := by kernel_rfl
@[go_sem] theorem tsz_34 : tsz Try.prog 34 = some 8 := by kernel_rfl
@[go_sem] theorem tby_34 : tby Try.prog 34 = some 144 := by kernel_rfl
@[go_sem] theorem zac_34 : zeroAC Try.prog 34 = some [.d (.sc (.int .i64 0)), .nil, .nil, .nil, .nil, .nil, .d (.sc (.int .i64 0)), .d (.sc (.int .i64 0))] := by kernel_rfl
@[go_sem] theorem tzero_34 : tzero Try.prog 34 = some [.int .i64 0, .slice none 0 0, .slice none 0 0, .slice none 0 0, .slice none 0 0, .slice none 0 0, .int .i64 0, .int .i64 0] := by kernel_rfl
@[go_sem] theorem tpl_34 : tpl Try.prog 34 = true := by kernel_rfl
@[go_sem] theorem tfl_34_0 : tfl Try.prog 34 0 = some (0, 1, false) := by kernel_rfl
@[go_sem] theorem tfl_34_1 : tfl Try.prog 34 1 = some (1, 1, false) := by kernel_rfl
@[go_sem] theorem tfl_34_2 : tfl Try.prog 34 2 = some (2, 1, false) := by kernel_rfl
@[go_sem] theorem tfl_34_3 : tfl Try.prog 34 3 = some (3, 1, false) := by kernel_rfl
@[go_sem] theorem tfl_34_4 : tfl Try.prog 34 4 = some (4, 1, false) := by kernel_rfl
@[go_sem] theorem tfl_34_5 : tfl Try.prog 34 5 = some (5, 1, false) := by kernel_rfl
@[go_sem] theorem tfl_34_6 : tfl Try.prog 34 6 = some (6, 1, false) := by kernel_rfl
@[go_sem] theorem tfl_34_7 : tfl Try.prog 34 7 = some (7, 1, false) := by kernel_rfl
@[go_sem] theorem tagg_41 : tagg Try.prog 41 = some false := by kernel_rfl
@[go_sem] theorem tsz_41 : tsz Try.prog 41 = some 1 := by kernel_rfl
@[go_sem] theorem tby_41 : tby Try.prog 41 = some 24 := by kernel_rfl
@[go_sem] theorem zac_41 : zeroAC Try.prog 41 = some [.nil] := by kernel_rfl
@[go_sem] theorem tzero_41 : tzero Try.prog 41 = some [.slice none 0 0] := by kernel_rfl
@[go_sem] theorem tel_41 : tel Try.prog 41 = some (67, 5) := by kernel_rfl
@[go_sem] theorem tagg_51 : tagg Try.prog 51 = some true := by kernel_rfl
@[go_sem] theorem tsz_51 : tsz Try.prog 51 = some 5 := by kernel_rfl
@[go_sem] theorem tby_51 : tby Try.prog 51 = some 64 := by kernel_rfl
@[go_sem] theorem zac_51 : zeroAC Try.prog 51 = some [.d (.sc (.int .i64 0)), .d (.sc (.int .i64 0)), .d (.sc (.string ByteArray.empty)), .nil, .d (.sc (.int .i64 0))] := by kernel_rfl
@[go_sem] theorem tzero_51 : tzero Try.prog 51 = some [.int .i64 0, .int .i64 0, .string ByteArray.empty, .slice none 0 0, .int .i64 0] := by kernel_rfl
@[go_sem] theorem tpl_51 : tpl Try.prog 51 = true := by kernel_rfl
@[go_sem] theorem tfl_51_0 : tfl Try.prog 51 0 = some (0, 1, false) := by kernel_rfl
@[go_sem] theorem tfl_51_1 : tfl Try.prog 51 1 = some (1, 1, false) := by kernel_rfl
@[go_sem] theorem tfl_51_2 : tfl Try.prog 51 2 = some (2, 1, false) := by kernel_rfl
@[go_sem] theorem tfl_51_3 : tfl Try.prog 51 3 = some (3, 1, false) := by kernel_rfl
@[go_sem] theorem tfl_51_4 : tfl Try.prog 51 4 = some (4, 1, false) := by kernel_rfl
@[go_sem] theorem tagg_52 : tagg Try.prog 52 = some true := by kernel_rfl
@[go_sem] theorem tsz_52 : tsz Try.prog 52 = some 5 := by kernel_rfl
@[go_sem] theorem tby_52 : tby Try.prog 52 = some 64 := by kernel_rfl
@[go_sem] theorem zac_52 : zeroAC Try.prog 52 = some [.d (.sc (.int .i64 0)), .d (.sc (.int .i64 0)), .d (.sc (.string ByteArray.empty)), .nil, .d (.sc (.int .i64 0))] := by kernel_rfl
@[go_sem] theorem tzero_52 : tzero Try.prog 52 = some [.int .i64 0, .int .i64 0, .string ByteArray.empty, .slice none 0 0, .int .i64 0] := by kernel_rfl
@[go_sem] theorem tpl_52 : tpl Try.prog 52 = true := by kernel_rfl
@[go_sem] theorem tfl_52_0 : tfl Try.prog 52 0 = some (0, 1, false) := by kernel_rfl
@[go_sem] theorem tfl_52_1 : tfl Try.prog 52 1 = some (1, 1, false) := by kernel_rfl
@[go_sem] theorem tfl_52_2 : tfl Try.prog 52 2 = some (2, 1, false) := by kernel_rfl
@[go_sem] theorem tfl_52_3 : tfl Try.prog 52 3 = some (3, 1, false) := by kernel_rfl
@[go_sem] theorem tfl_52_4 : tfl Try.prog 52 4 = some (4, 1, false) := by kernel_rfl
@[go_sem] theorem tagg_53 : tagg Try.prog 53 = some true := by kernel_rfl
@[go_sem] theorem tsz_53 : tsz Try.prog 53 = some 3 := by kernel_rfl
@[go_sem] theorem tby_53 : tby Try.prog 53 = some 32 := by kernel_rfl
@[go_sem] theorem zac_53 : zeroAC Try.prog 53 = some [.d (.sc (.int .i64 0)), .d (.sc (.int .i64 0)), .d (.sc (.string ByteArray.empty))] := by kernel_rfl
@[go_sem] theorem tzero_53 : tzero Try.prog 53 = some [.int .i64 0, .int .i64 0, .string ByteArray.empty] := by kernel_rfl
@[go_sem] theorem tpl_53 : tpl Try.prog 53 = true := by kernel_rfl
@[go_sem] theorem tfl_53_0 : tfl Try.prog 53 0 = some (0, 1, false) := by kernel_rfl
@[go_sem] theorem tfl_53_1 : tfl Try.prog 53 1 = some (1, 1, false) := by kernel_rfl
@[go_sem] theorem tfl_53_2 : tfl Try.prog 53 2 = some (2, 1, false) := by kernel_rfl
@[go_sem] theorem tagg_54 : tagg Try.prog 54 = some true := by kernel_rfl
@[go_sem] theorem tsz_54 : tsz Try.prog 54 = some 3 := by kernel_rfl
@[go_sem] theorem tby_54 : tby Try.prog 54 = some 32 := by kernel_rfl
@[go_sem] theorem zac_54 : zeroAC Try.prog 54 = some [.d (.sc (.int .i64 0)), .d (.sc (.int .i64 0)), .d (.sc (.string ByteArray.empty))] := by kernel_rfl
@[go_sem] theorem tzero_54 : tzero Try.prog 54 = some [.int .i64 0, .int .i64 0, .string ByteArray.empty] := by kernel_rfl
@[go_sem] theorem tpl_54 : tpl Try.prog 54 = true := by kernel_rfl
@[go_sem] theorem tfl_54_0 : tfl Try.prog 54 0 = some (0, 1, false) := by kernel_rfl
@[go_sem] theorem tfl_54_1 : tfl Try.prog 54 1 = some (1, 1, false) := by kernel_rfl
@[go_sem] theorem tfl_54_2 : tfl Try.prog 54 2 = some (2, 1, false) := by kernel_rfl
@[go_sem] theorem tagg_67 : tagg Try.prog 67 = some true := by kernel_rfl
@[go_sem] theorem tsz_67 : tsz Try.prog 67 = some 5 := by kernel_rfl
@[go_sem] theorem tby_67 : tby Try.prog 67 = some 64 := by kernel_rfl
@[go_sem] theorem zac_67 : zeroAC Try.prog 67 = some [.d (.sc (.int .i64 0)), .d (.sc (.int .i64 0)), .d (.sc (.string ByteArray.empty)), .nil, .d (.sc (.int .i64 0))] := by kernel_rfl
@[go_sem] theorem tzero_67 : tzero Try.prog 67 = some [.int .i64 0, .int .i64 0, .string ByteArray.empty, .slice none 0 0, .int .i64 0] := by kernel_rfl
@[go_sem] theorem tpl_67 : tpl Try.prog 67 = true := by kernel_rfl
@[go_sem] theorem tfl_67_0 : tfl Try.prog 67 0 = some (0, 1, false) := by kernel_rfl
@[go_sem] theorem tfl_67_1 : tfl Try.prog 67 1 = some (1, 1, false) := by kernel_rfl
@[go_sem] theorem tfl_67_2 : tfl Try.prog 67 2 = some (2, 1, false) := by kernel_rfl
@[go_sem] theorem tfl_67_3 : tfl Try.prog 67 3 = some (3, 1, false) := by kernel_rfl
@[go_sem] theorem tfl_67_4 : tfl Try.prog 67 4 = some (4, 1, false) := by kernel_rfl
@[go_sem] theorem tagg_71 : tagg Try.prog 71 = some true := by kernel_rfl
@[go_sem] theorem tsz_71 : tsz Try.prog 71 = some 3 := by kernel_rfl
@[go_sem] theorem tby_71 : tby Try.prog 71 = some 32 := by kernel_rfl
@[go_sem] theorem zac_71 : zeroAC Try.prog 71 = some [.d (.sc (.int .i64 0)), .d (.sc (.int .i64 0)), .d (.sc (.string ByteArray.empty))] := by kernel_rfl
@[go_sem] theorem tzero_71 : tzero Try.prog 71 = some [.int .i64 0, .int .i64 0, .string ByteArray.empty] := by kernel_rfl
@[go_sem] theorem tpl_71 : tpl Try.prog 71 = true := by kernel_rfl
@[go_sem] theorem tfl_71_0 : tfl Try.prog 71 0 = some (0, 1, false) := by kernel_rfl
@[go_sem] theorem tfl_71_1 : tfl Try.prog 71 1 = some (1, 1, false) := by kernel_rfl
@[go_sem] theorem tfl_71_2 : tfl Try.prog 71 2 = some (2, 1, false) := by kernel_rfl
@[go_sem] theorem tagg_76 : tagg Try.prog 76 = some false := by kernel_rfl
@[go_sem] theorem tsz_76 : tsz Try.prog 76 = some 1 := by kernel_rfl
@[go_sem] theorem tby_76 : tby Try.prog 76 = some 24 := by kernel_rfl
@[go_sem] theorem zac_76 : zeroAC Try.prog 76 = some [.nil] := by kernel_rfl
@[go_sem] theorem tzero_76 : tzero Try.prog 76 = some [.slice none 0 0] := by kernel_rfl
@[go_sem] theorem tel_76 : tel Try.prog 76 = some (5, 1) := by kernel_rfl
@[go_sem] theorem tagg_77 : tagg Try.prog 77 = some false := by kernel_rfl
@[go_sem] theorem tsz_77 : tsz Try.prog 77 = some 1 := by kernel_rfl
@[go_sem] theorem tby_77 : tby Try.prog 77 = some 24 := by kernel_rfl
@[go_sem] theorem zac_77 : zeroAC Try.prog 77 = some [.nil] := by kernel_rfl
@[go_sem] theorem tzero_77 : tzero Try.prog 77 = some [.slice none 0 0] := by kernel_rfl
@[go_sem] theorem tel_77 : tel Try.prog 77 = some (3, 1) := by kernel_rfl
@[go_sem] theorem tagg_97 : tagg Try.prog 97 = some true := by kernel_rfl
@[go_sem] theorem tsz_97 : tsz Try.prog 97 = some 4 := by kernel_rfl
@[go_sem] theorem tby_97 : tby Try.prog 97 = some 40 := by kernel_rfl
@[go_sem] theorem tagg_98 : tagg Try.prog 98 = some true := by kernel_rfl
@[go_sem] theorem tsz_98 : tsz Try.prog 98 = some 4 := by kernel_rfl
@[go_sem] theorem tby_98 : tby Try.prog 98 = some 40 := by kernel_rfl
@[go_sem] theorem tagg_100 : tagg Try.prog 100 = some true := by kernel_rfl
@[go_sem] theorem tsz_100 : tsz Try.prog 100 = some 0 := by kernel_rfl
@[go_sem] theorem tby_100 : tby Try.prog 100 = some 0 := by kernel_rfl
@[go_sem] theorem zac_100 : zeroAC Try.prog 100 = some [] := by kernel_rfl
@[go_sem] theorem tzero_100 : tzero Try.prog 100 = some [] := by kernel_rfl
@[go_sem] theorem tagg_101 : tagg Try.prog 101 = some true := by kernel_rfl
@[go_sem] theorem tsz_101 : tsz Try.prog 101 = some 0 := by kernel_rfl
@[go_sem] theorem tby_101 : tby Try.prog 101 = some 0 := by kernel_rfl
@[go_sem] theorem zac_101 : zeroAC Try.prog 101 = some [] := by kernel_rfl
@[go_sem] theorem tzero_101 : tzero Try.prog 101 = some [] := by kernel_rfl
@[go_sem] theorem tagg_103 : tagg Try.prog 103 = some false := by kernel_rfl
@[go_sem] theorem tsz_103 : tsz Try.prog 103 = some 1 := by kernel_rfl
@[go_sem] theorem tby_103 : tby Try.prog 103 = some 4 := by kernel_rfl
@[go_sem] theorem und_103 : Try.prog.underlying 103 = some (.int .u32) := by kernel_rfl
@[go_sem] theorem zac_103 : zeroAC Try.prog 103 = some [.d (.sc (.int .u32 0))] := by kernel_rfl
@[go_sem] theorem tzero_103 : tzero Try.prog 103 = some [.int .u32 0] := by kernel_rfl
@[go_sem] theorem tagg_104 : tagg Try.prog 104 = some false := by kernel_rfl
@[go_sem] theorem tsz_104 : tsz Try.prog 104 = some 1 := by kernel_rfl
@[go_sem] theorem tby_104 : tby Try.prog 104 = some 1 := by kernel_rfl
@[go_sem] theorem und_104 : Try.prog.underlying 104 = some (.int .u8) := by kernel_rfl
@[go_sem] theorem zac_104 : zeroAC Try.prog 104 = some [.d (.sc (.int .u8 0))] := by kernel_rfl
@[go_sem] theorem tzero_104 : tzero Try.prog 104 = some [.int .u8 0] := by kernel_rfl
@[go_sem] theorem tagg_105 : tagg Try.prog 105 = some false := by kernel_rfl
@[go_sem] theorem tsz_105 : tsz Try.prog 105 = some 1 := by kernel_rfl
@[go_sem] theorem tby_105 : tby Try.prog 105 = some 1 := by kernel_rfl
@[go_sem] theorem und_105 : Try.prog.underlying 105 = some (.int .u8) := by kernel_rfl
@[go_sem] theorem zac_105 : zeroAC Try.prog 105 = some [.d (.sc (.int .u8 0))] := by kernel_rfl
@[go_sem] theorem tzero_105 : tzero Try.prog 105 = some [.int .u8 0] := by kernel_rfl
@[go_sem] theorem tagg_108 : tagg Try.prog 108 = some false := by kernel_rfl
@[go_sem] theorem tsz_108 : tsz Try.prog 108 = some 1 := by kernel_rfl
@[go_sem] theorem tby_108 : tby Try.prog 108 = some 4 := by kernel_rfl
@[go_sem] theorem und_108 : Try.prog.underlying 108 = some (.int .i32) := by kernel_rfl
@[go_sem] theorem zac_108 : zeroAC Try.prog 108 = some [.d (.sc (.int .i32 0))] := by kernel_rfl
@[go_sem] theorem tzero_108 : tzero Try.prog 108 = some [.int .i32 0] := by kernel_rfl
@[go_sem] theorem tagg_109 : tagg Try.prog 109 = some false := by kernel_rfl
@[go_sem] theorem tsz_109 : tsz Try.prog 109 = some 1 := by kernel_rfl
@[go_sem] theorem tby_109 : tby Try.prog 109 = some 4 := by kernel_rfl
@[go_sem] theorem und_109 : Try.prog.underlying 109 = some (.int .i32) := by kernel_rfl
@[go_sem] theorem zac_109 : zeroAC Try.prog 109 = some [.d (.sc (.int .i32 0))] := by kernel_rfl
@[go_sem] theorem tzero_109 : tzero Try.prog 109 = some [.int .i32 0] := by kernel_rfl
@[go_sem] theorem tagg_110 : tagg Try.prog 110 = some true := by kernel_rfl
@[go_sem] theorem tsz_110 : tsz Try.prog 110 = some 11 := by kernel_rfl
@[go_sem] theorem tby_110 : tby Try.prog 110 = some 48 := by kernel_rfl
@[go_sem] theorem tagg_111 : tagg Try.prog 111 = some true := by kernel_rfl
@[go_sem] theorem tsz_111 : tsz Try.prog 111 = some 11 := by kernel_rfl
@[go_sem] theorem tby_111 : tby Try.prog 111 = some 48 := by kernel_rfl
end Go.Proofs.Ytkcljmgjbjdccaa

namespace Go.Proofs.Ytkcljmgjbjdccaa
open Go.RowKit
set_option maxRecDepth 100000
def u_laws_markText_h : List Hint := [⟨3000004, 2, ⟨[(3, .p false [.d 5]), (5, .p false [.d 3]), (2, .p false [.d 1]), (0, .p false [.d 6])], [], 0, 0, 7, [(3, false)]⟩, []⟩]
def u_laws_markText_d : List (Nat × Nat × Bool × List Nat) := []
def u_laws_markText_l0 : UP := .po (.k (.int .i64 0)) <| .po (.bin .gtr false 1 0) <| .ite 0 (.po (.k (.int .i64 10)) <| .po (.bin .rem false 3 0) <| .po (.k (.int .i64 48)) <| .po (.bin .add false 0 1) <| .po (.cvI .u8 0) <| .po (.sc 0) <| .po (.mk 5 1 [[0]]) <| .po (.cvB 0) <| .po (.bin .add false 0 10) <| .po (.k (.int .i64 10)) <| .po (.bin .quo false 11 0) <| .jump 0 [2, 0]) <| .po (.k (.string ⟨#[109]⟩)) <| .po (.bin .add false 0 4) <| .po (.sc 0) <| .ret [(false, [0])]
def u_laws_markText_u : UP := .po (.k (.string ⟨#[]⟩)) <| .po (.k (.int .i64 0)) <| .po (.bin .leq false 2 0) <| .ite 0 (.po (.k (.string ⟨#[109, 48]⟩)) <| .po (.sc 0) <| .ret [(false, [0])]) <| .po (.k (.string ⟨#[]⟩)) <| .loop [0, 4] u_laws_markText_l0
theorem u_laws_markText_g : toUPf Try.prog 36 Try.f36 owA u_laws_markText_h u_laws_markText_d = some ([(false, 1)], u_laws_markText_u) := by kernel_rfl
end Go.Proofs.Ytkcljmgjbjdccaa

namespace Go.Proofs.Ytkcljmgjbjdccaa
open Go.RowKit
set_option maxRecDepth 100000
def encU (n : Nat) : List DV := [.sc (.int .u8 (n : Int))]
def ofN (l : List Nat) : ByteArray := strOfNums (l.map fun n : Nat => (n : Int))
theorem ofN_data (l : List Nat) : (ofN l).data.toList = l.map UInt8.ofNat := by
  unfold ofN; rw [strOfNums_data, List.map_map]; rfl
theorem ofN_app (l m : List Nat) : ofN (l ++ m) = ofN l ++ ofN m := by
  apply ByteArray.ext
  apply Array.ext'
  rw [ByteArray.data_append, Array.toList_append, ofN_data, ofN_data, ofN_data, List.map_append]
theorem ofN_size (l : List Nat) : (ofN l).size = l.length := by
  unfold ofN; rw [strOfNums_size, List.length_map]
theorem nums_encU (l : List Nat) : numsOf (l.map encU) = some (l.map fun n : Nat => (n : Int)) := by
  induction l with
  | nil => rfl
  | cons n l ih => simp only [List.map_cons, encU, numsOf]; rw [ih]
theorem cvB_u {t : Nat} {l : List Nat} : eCvB (some (.sl t 1 (l.map encU))) = some [.sc (.string (ofN l))] := e_cvB (nums_encU l)
def dgs (m : Nat) : List Nat := if h : m = 0 then [] else dgs (m / 10) ++ [48 + m % 10]
termination_by m
decreasing_by omega
theorem dgs_zero : dgs 0 = [] := by rw [dgs]; simp
theorem dgs_pos {m : Nat} (h : m ≠ 0) : dgs m = dgs (m / 10) ++ [48 + m % 10] := by rw [dgs, dif_neg h]
theorem dgs_len (k : Nat) : ∀ m, m < 10 ^ k → (dgs m).length ≤ k := by
  induction k with
  | zero => intro m h; have : m = 0 := by simpa using h
            subst this; rw [dgs_zero]; exact Nat.zero_le _
  | succ k ih =>
    intro m h
    by_cases h0 : m = 0
    · subst h0; rw [dgs_zero]; exact Nat.zero_le _
    · rw [dgs_pos h0, List.length_append, List.length_singleton]
      have := ih (m / 10) (by rw [Nat.pow_succ] at h; omega)
      omega
theorem dgs_len19 {m : Nat} (h : m ≤ 9223372036854775808) : (dgs m).length ≤ 19 := dgs_len 19 m (Nat.lt_of_le_of_lt h (by decide))
end Go.Proofs.Ytkcljmgjbjdccaa

namespace Go.Proofs.Ytkcljmgjbjdccaa
open Go.RowKit
set_option maxRecDepth 100000
def markT (k : Nat) : ByteArray := ofN (109 :: dgs k)
theorem markText_m (k : Nat) (h0 : 0 < k) (h1 : k ≤ 4611686018427387904) : Meets Try.prog 36 [(false, [.sc (.int .i64 k)])] [(false, [.sc (.string (markT k))], true)] := by
  have hlen := dgs_len19 (m := k) (by omega)
  refine meets_upf Try.func36 u_laws_markText_g rfl ?_; simp only [u_laws_markText_u]
  simp (disch := first | omega | (simp only [List.length_take, List.length_drop, List.length_append, List.map_cons, List.map_nil, List.length_map, List.length_cons, List.length_nil, List.length_set, List.length_replicate]; omega) | (simp only [List.length_cons, List.length_nil, Nat.zero_add, Nat.reduceAdd])) only [go_sem, ↓reduceIte, Nat.reduceAdd, Int.reduceNeg, Int.reduceAdd, Int.reduceSub, Int.reduceMul, Int.reduceLT, Int.reduceLE, Int.reduceEq, Int.reduceToNat, Nat.reduceBEq, e_sle, e_sge, e_shl1, e_orI, e_andI, e_shr, wrapu, wrap8, tn1, nat1, ix_s, ix_z, st_s, st_z, fl_s, fl_z, fl1_s, fl1_z, map_s, map_z, true_and]
  refine br_if (fun h => absurd h (by omega)) (fun h => ?_)
  simp (disch := first | omega | (simp only [List.length_take, List.length_drop, List.length_append, List.map_cons, List.map_nil, List.length_map, List.length_cons, List.length_nil, List.length_set, List.length_replicate]; omega) | (simp only [List.length_cons, List.length_nil, Nat.zero_add, Nat.reduceAdd])) only [go_sem, ↓reduceIte, Nat.reduceAdd, Int.reduceNeg, Int.reduceAdd, Int.reduceSub, Int.reduceMul, Int.reduceLT, Int.reduceLE, Int.reduceEq, Int.reduceToNat, Nat.reduceBEq, e_sle, e_sge, e_shl1, e_orI, e_andI, e_shr, wrapu, wrap8, tn1, nat1, ix_s, ix_z, st_s, st_z, fl_s, fl_z, fl1_s, fl1_z, map_s, map_z, true_and]
  refine lp (fun s : Nat × List Nat => [.sc (.string (ofN s.2)), .sc (.int .i64 (s.1 : Nat))]) (fun s => s.1 ≤ k ∧ dgs s.1 ++ s.2 = dgs k) (fun s => s.1) (k, []) rfl ⟨Nat.le_refl _, by simp⟩ ?_
  rintro ⟨x, acc⟩ ⟨g1, g2⟩
  simp only at g1 g2 ⊢
  simp only [u_laws_markText_l0]
  have hal : acc.length ≤ 19 := by have := congrArg List.length g2; rw [List.length_append] at this; omega
  by_cases hx : x = 0
  · subst hx
    rw [dgs_zero, List.nil_append] at g2
    have e1 : (⟨#[109]⟩ : ByteArray).size + (ofN acc).size ≤ maxLen := by
      have e : (⟨#[109]⟩ : ByteArray).size = 1 := rfl
      rw [ofN_size]; unfold maxLen; omega
    repeat' (first | (with_reducible refine jn_in ?_) | (with_reducible refine cl_ok (by assumption) rfl ?_) | (with_reducible refine cl_okP (by assumption) rfl ?_) | (with_reducible refine br_if (fun hbr => ?_) (fun hbr => ?_)) | (with_reducible refine br_ifn (fun hbr => ?_) (fun hbr => ?_)) | (with_reducible refine br_nb (fun hbr => ?_) (fun hbr => ?_)) | (with_reducible refine br_b (fun hbr => ?_) (fun hbr => ?_)) | simp (disch := first | omega | (simp only [List.length_take, List.length_drop, List.length_append, List.map_cons, List.map_nil, List.length_map, List.length_cons, List.length_nil, List.length_set, List.length_replicate]; omega) | (simp only [List.length_cons, List.length_nil, Nat.zero_add, Nat.reduceAdd])) only [go_sem, ↓reduceIte, Nat.reduceAdd, Int.reduceNeg, Int.reduceAdd, Int.reduceSub, Int.reduceMul, Int.reduceLT, Int.reduceLE, Int.reduceEq, Int.reduceToNat, Nat.reduceBEq, e_sle, e_sge, e_shl1, e_orI, e_andI, e_shr, wrapu, wrap8, tn1, nat1, ix_s, ix_z, st_s, st_z, fl_s, fl_z, fl1_s, fl1_z, map_s, map_z, e_cat e1])
    refine ret_s ?_
    unfold markT; rw [g2]; exact ofN_app [109] _
  · have hd := dgs_pos hx
    have d1 : (x : Int).tmod 10 = ((x % 10 : Nat) : Int) := rfl
    have d2 : (x : Int).tdiv 10 = ((x / 10 : Nat) : Int) := rfl
    have d3 : (48 : Int) + ((x % 10 : Nat) : Int) = ((48 + x % 10 : Nat) : Int) := rfl
    have d4 : IntKind.u8.wrap ((48 + x % 10 : Nat) : Int) = ((48 + x % 10 : Nat) : Int) := wrap8 (by omega) (by omega)
    have d5 : eCvB (some (.sl 5 1 [[.sc (.int .u8 ((48 + x % 10 : Nat) : Int))]])) = some [.sc (.string (ofN [48 + x % 10]))] := cvB_u (l := [48 + x % 10])
    have e1 : (ofN [48 + x % 10]).size + (ofN acc).size ≤ maxLen := by rw [ofN_size, ofN_size]; unfold maxLen; simp; omega
    have happ : ofN [48 + x % 10] ++ ofN acc = ofN ((48 + x % 10) :: acc) := (ofN_app [48 + x % 10] acc).symm
    repeat' (first | (with_reducible refine jn_in ?_) | (with_reducible refine cl_ok (by assumption) rfl ?_) | (with_reducible refine cl_okP (by assumption) rfl ?_) | (with_reducible refine br_if (fun hbr => ?_) (fun hbr => ?_)) | (with_reducible refine br_ifn (fun hbr => ?_) (fun hbr => ?_)) | (with_reducible refine br_nb (fun hbr => ?_) (fun hbr => ?_)) | (with_reducible refine br_b (fun hbr => ?_) (fun hbr => ?_)) | simp (disch := first | omega | (simp only [List.length_take, List.length_drop, List.length_append, List.map_cons, List.map_nil, List.length_map, List.length_cons, List.length_nil, List.length_set, List.length_replicate]; omega) | (simp only [List.length_cons, List.length_nil, Nat.zero_add, Nat.reduceAdd])) only [go_sem, ↓reduceIte, Nat.reduceAdd, Int.reduceNeg, Int.reduceAdd, Int.reduceSub, Int.reduceMul, Int.reduceLT, Int.reduceLE, Int.reduceEq, Int.reduceToNat, Nat.reduceBEq, e_sle, e_sge, e_shl1, e_orI, e_andI, e_shr, wrapu, wrap8, tn1, nat1, ix_s, ix_z, st_s, st_z, fl_s, fl_z, fl1_s, fl1_z, map_s, map_z, d1, d2, d3, d4, d5, e_cat e1, happ])
    all_goals first | omega | exact ⟨(x / 10, (48 + x % 10) :: acc), rfl, ⟨by simp only; omega, by rw [← g2, hd]; simp⟩, by simp only; omega⟩
theorem argR_i {w : World} {B : Nat → Prop} {k : Int} : ArgR w B (.int .i64 k) (false, [.sc (.int .i64 k)]) := .sc trivial .nil
theorem markText_x (x : Int) (K : Nat) (w : World) (hx : x = K) (h0 : 0 < K) (h1 : K ≤ 4611686018427387904) :
    Calls Try.prog 36 #[.int .i64 x] w fun e w' => e = .returned (.string (markT K)) ∧ Below w.heap.size w w' := by
  subst hx
  exact run_law (markText_m K h0 h1) (ArgsR.cons argR_i ArgsR.nil)
theorem own_flat_nil {w : World} {base : Nat} {vals : List Value} {ds : List DV} {g : List Nat} (h : OwnL w base vals ds g) (hf : Flat ds) : g = [] := by
  induction h with
  | nil => rfl
  | sc _ _ ih => exact ih (fun d hd => hf d (List.mem_cons_of_mem _ hd))
  | sl => obtain ⟨v, hv⟩ := hf _ (List.mem_cons_self ..); cases hv
theorem wrote_grown {w w' : World} {v : Value} (h : w.grownBy w' v.ownBlock) : Wrote w w' ([v.ownBlock.toList] : List (List Nat)).flatten :=
  ⟨h.os, h.tape, h.output, h.size, fun b hb hn => h.block b hb (fun e => hn (by simp [← e]))⟩
end Go.Proofs.Ytkcljmgjbjdccaa

namespace Go.Proofs.Ytkcljmgjbjdccaa
open Go.RowKit
def itFlat (l : List It) : List Value := l.flatMap itCells
def itEnts (l : List It) : List (Ent It) := l.map fun x => ⟨x, [], itCells x⟩
theorem itEnts_c (l : List It) : (itEnts l).flatMap Ent.c = itFlat l := by simp [itEnts, itFlat, List.flatMap_map]
theorem itEnts_f (l : List It) : (itEnts l).flatMap Ent.f = [] := by simp [itEnts, List.flatMap_map]
theorem itEnts_x (l : List It) : (itEnts l).map Ent.x = l := by simp [itEnts, Function.comp_def]
theorem itFlat_len (l : List It) : (itFlat l).length = l.length * 3 := by
  rw [← itEnts_c, flat_len (size := 3) (by intro e he; simp [itEnts] at he; obtain ⟨x, _, rfl⟩ := he; rfl)]; simp [itEnts]
def OwI (w : World) (base : Nat) (v : Value) (l : List It) : Prop := w.ownsRow base 54 3 v l.length (itFlat l) ∧ ∀ x ∈ l, ItOk x
theorem OwI.ownN {w : World} {base : Nat} {v : Value} {l : List It} (h : OwI w base v l) : OwnN Lay.item w base 54 v (itEnts l) := by
  refine ⟨by rw [itEnts_c, show (itEnts l).length = l.length from by simp [itEnts]]; exact h.1, ?_, by rw [itEnts_f]; exact Ow.nil _ _, by rw [itEnts_f]; intro b hb; cases hb⟩
  intro x hx
  simp [itEnts] at hx
  obtain ⟨y, hy, rfl⟩ := hx
  exact ⟨rfl, rfl, h.2 y hy⟩
theorem OwI.read {w : World} {base : Nat} {v : Value} {l : List It} (h : OwI w base v l) : ∃ A c fp, v = .slice A l.length c ∧ SlR Lay.item w fp l A l.length c ∧ Ow w base fp := by
  have := h.ownN.read
  rw [itEnts_x] at this
  simpa [itEnts] using this
theorem OwI.keep {w w' : World} {base : Nat} {v : Value} {l : List It} (h : OwI w base v l) (hb : Below w.heap.size w w') : OwI w' base v l := ⟨own_below h.1 hb (Nat.le_refl _), h.2⟩
theorem OwI.mono {w : World} {base base' : Nat} {v : Value} {l : List It} (h : OwI w base v l) (hb : base' ≤ base) : OwI w base' v l := ⟨own_mono h.1 hb, h.2⟩
theorem itFlat_set (l : List It) (k : Nat) (x : It) (hk : k < l.length) : (((itFlat l).set (k * 3) (.int .i64 x.num)).set (k * 3 + 1) (.int .i64 x.den)).set (k * 3 + 2) (.string x.text) = itFlat (l.set k x) := by
  have h1 : putAt (itFlat l) (k * 3) (itCells x) = itFlat (l.set k x) := by
    rw [putAt_eq _ _ _ (by rw [itFlat_len]; simp [itCells]; omega), ← itEnts_c, ← itEnts_c]
    have := flat_set (size := 3) (⟨x, [], itCells x⟩ : Ent It) (itEnts l) k (by intro e he; simp [itEnts] at he; obtain ⟨x, _, rfl⟩ := he; rfl) rfl (by simpa [itEnts] using hk)
    rw [show itEnts (l.set k x) = (itEnts l).set k ⟨x, [], itCells x⟩ from by simp [itEnts, List.map_set], this]
    rfl
  rw [← h1]; rfl
def markIt (k : Nat) : It := ⟨k, k + 1, markT (k + 2)⟩
def marksIt (k n : Nat) : List It := (List.range n).map fun i => markIt (k + 3 * i)
theorem marksIt_len (k n : Nat) : (marksIt k n).length = n := by simp [marksIt]
theorem marksIt_get {k n i : Nat} (h : i < n) : (marksIt k n)[i]? = some (markIt (k + 3 * i)) := by simp [marksIt, h]
theorem marksIt_step (l : List It) (k0 k : Nat) (hk : k < l.length) : (marksIt k0 k ++ l.drop k).set k (markIt (k0 + 3 * k)) = marksIt k0 (k + 1) ++ l.drop (k + 1) := by
  have hl := marksIt_len k0 k
  rw [List.set_append_right _ _ (by omega), hl, Nat.sub_self, List.drop_eq_getElem_cons hk, List.set_cons_zero]
  have : marksIt k0 (k + 1) = marksIt k0 k ++ [markIt (k0 + 3 * k)] := by simp [marksIt, List.range_succ]
  rw [this, List.append_assoc]; rfl
def MarkIRel (k0 n : Nat) (w : World) (base : Nat) (A : Option Addr) (c : Nat) (l : List It) (v1 v5 : Value) (wr : World) : Prop :=
  ∃ k : Nat, k ≤ n ∧ v5 = .int .i64 k ∧ v1 = .int .i64 ((k0 + 3 * k : Nat) : Int) ∧ wr.ownsRow base 54 3 (.slice A n c) n (itFlat (marksIt k0 k ++ l.drop k)) ∧ w.grownBy wr (Value.slice A n c).ownBlock
theorem markI_step {k0 n : Nat} {w wr w2 : World} {base g c : Nat} {l : List It} {k : Nat} (hk : k < n) (hl : l.length = n)
    (hown : wr.ownsRow base 54 3 (.slice (some ⟨g, 0, none⟩) n c) n (itFlat (marksIt k0 k ++ l.drop k))) (hg : w.grownBy wr (Value.slice (some ⟨g, 0, none⟩) n c).ownBlock)
    (hb : Below ((wr.setCell ⟨g, k * 3, none⟩ (.int .i64 ((k0 + 3 * k : Nat) : Int))).setCell ⟨g, k * 3 + 1, none⟩ (.int .i64 ((k0 + 3 * k + 1 : Nat) : Int))).heap.size ((wr.setCell ⟨g, k * 3, none⟩ (.int .i64 ((k0 + 3 * k : Nat) : Int))).setCell ⟨g, k * 3 + 1, none⟩ (.int .i64 ((k0 + 3 * k + 1 : Nat) : Int))) w2) :
    MarkIRel k0 n w base (some ⟨g, 0, none⟩) c l (.int .i64 ((k0 + 3 * k + 3 : Nat) : Int)) (.int .i64 ((k : Int) + 1)) (w2.setCell ⟨g, k * 3 + 2, none⟩ (.string (markT (k0 + 3 * k + 2)))) := by
  have h1 := hown.stored (k * 3) (.int .i64 ((k0 + 3 * k : Nat) : Int))
  have h2 := h1.1.stored (k * 3 + 1) (.int .i64 ((k0 + 3 * k + 1 : Nat) : Int))
  have h3 := own_below h2.1 hb (Nat.le_refl _)
  have h4 := h3.stored (k * 3 + 2) (.string (markT (k0 + 3 * k + 2)))
  have hgb : (wr.setCell ⟨g, k * 3, none⟩ (.int .i64 ((k0 + 3 * k : Nat) : Int))).setCell ⟨g, k * 3 + 1, none⟩ (.int .i64 ((k0 + 3 * k + 1 : Nat) : Int)) |>.grownBy w2 (some g) := ⟨hb.os, hb.tape, hb.output, hb.size, fun i hi _ => hb.block i hi⟩
  refine ⟨k + 1, hk, rfl, by congr 2, ?_, ((hg.trans h1.2).trans h2.2).trans (hgb.trans h4.2)⟩
  have h5 := h4.1
  have e := itFlat_set (marksIt k0 k ++ l.drop k) k (markIt (k0 + 3 * k)) (by simp [marksIt_len]; omega)
  rw [marksIt_step l k0 k (by omega)] at e
  rw [← e]
  exact h5
theorem markItemS_any (A : Option Addr) (n c base k0 : Nat) (l : List It) (w : World) (ha : w.ownsRow base 54 3 (.slice A n c) n (itFlat l)) (hl : l.length = n) (h0 : 0 < k0) (h1 : k0 + 3 * n ≤ 4611686018427387904) :
    Calls Try.prog 33 #[.slice A n c, .int .i64 k0] w fun e w' => e = .returned (.int .i64 ((k0 + 3 * n : Nat) : Int)) ∧ w'.ownsRow base 54 3 (.slice A n c) n (itFlat (marksIt k0 n)) ∧ w.grownBy w' (Value.slice A n c).ownBlock := by
  have HL := Lib.hid hl; clear hl
  go_enter Try.func33, Try.ntmps33
  go_wp2
  go_loopw [1, 5] (MarkIRel k0 n w base A c l) (fun _ i _ => n - (intOf i).toNat)
  case atStart => exact ⟨0, Nat.zero_le _, rfl, rfl, by simpa [marksIt] using ha, World.grownBy.refl w _⟩
  case round =>
    obtain ⟨k, hk, rfl, rfl, hown, hg⟩ := hrel
    by_cases hlt : k < n
    · obtain ⟨g, cap, hv, -, -⟩ := hown.form (by omega)
      injection hv with e1 e2 e3
      subst e1 e3
      have R := fun w2 => markI_step (w2 := w2) hlt HL.out hown hg
      have hfl : (itFlat (marksIt k0 k ++ l.drop k)).length = n * 3 := by have := HL.out; rw [itFlat_len]; simp [marksIt_len]; omega
      obtain ⟨z0, c0⟩ : ∃ z, wr.cell? ⟨g, k * 3, none⟩ = some z := ⟨_, (hown.cellAt (k * 3) (by omega)).trans (List.getElem?_eq_getElem (by omega))⟩
      obtain ⟨z1, c1⟩ : ∃ z, wr.cell? ⟨g, k * 3 + 1, none⟩ = some z := ⟨_, (hown.cellAt (k * 3 + 1) (by omega)).trans (List.getElem?_eq_getElem (by omega))⟩
      obtain ⟨z2, c2⟩ : ∃ z, wr.cell? ⟨g, k * 3 + 2, none⟩ = some z := ⟨_, (hown.cellAt (k * 3 + 2) (by omega)).trans (List.getElem?_eq_getElem (by omega))⟩
      have f0 := hown.frozenAt (k * 3)
      have f1 := hown.frozenAt (k * 3 + 1)
      have f2 := hown.frozenAt (k * 3 + 2)
      have hgl := (own_blk hown rfl).2
      have HR := Lib.hid R
      clear hown hg ha hfl R
      generalize hK : k0 + 3 * k = K at HR ⊢
      have hKb : K + 3 ≤ 4611686018427387904 := by omega
      have HKK := Lib.hid hK; clear hK
      go_wp2_with fail
      refine (markText_x _ (K + 2) _ (by omega) (by omega) (by omega)).mono ?_
      rintro e w2 ⟨rfl, hb⟩
      have R := HR.out w2 hb
      obtain ⟨hc, hf⟩ := bcell hb
      have hz : g < w2.heap.size := by have := hb.size; simp at this; omega
      clear hb HR
      go_wp2
      go_roundw
      case rel => exact R
      case measure => simp [intOf]; omega
    · go_wp2
      go_ret
      obtain rfl : k = n := by omega
      rw [List.drop_of_length_le (by rw [HL.out]; omega), List.append_nil] at hown
      exact ⟨ret_i rfl, hown, hg⟩
end Go.Proofs.Ytkcljmgjbjdccaa

namespace Go.Proofs.Ytkcljmgjbjdccaa
open Go.RowKit
set_option maxRecDepth 100000
def encIts (l : List It) : DV := .sl 54 3 (l.map encIt)
theorem eqItem_m (x : It) : Meets Try.prog 53 [(true, encIt x), (true, encIt x)] [(false, [.sc (.bool true)], true)] := by
  refine meets_of Try.func53 rfl (by kernel_rfl) (by simp) Try.ntmps53 (congrArg Array.toList Try.results53) ?_
  simp only [go_sem, ↓reduceIte, Nat.reduceAdd, Nat.reduceSub, Nat.reduceMul, Nat.reduceLT, Nat.reduceLeDiff, Nat.reduceEqDiff, Int.reduceLT, Int.reduceLE, Int.reduceEq, Nat.reduceBEq, reduceCtorEq, reduceCtorEq, encIt]
  refine Or.inl ?_; repeat' (first | exact gives_nil | exact trivial | with_reducible apply gives_sc | with_reducible apply gives_nilS (by decide) | with_reducible apply gives_own | with_reducible apply Exists.intro | with_reducible apply And.intro | (show (_ : Option Ob) = _; simp only [go_sem, ↓reduceIte, Nat.reduceAdd, Nat.reduceSub, Nat.reduceMul, Nat.reduceLT, Nat.reduceLeDiff, Nat.reduceEqDiff, Int.reduceLT, Int.reduceLE, Int.reduceEq, Nat.reduceBEq, reduceCtorEq, reduceCtorEq, true_and]))
theorem eqItemS_m (l : List It) (hn : l.length ≤ 4611686018427387903) : Meets Try.prog 30 [(false, [encIts l]), (false, [encIts l])] [(false, [.sc (.bool true)], true)] := by
  refine meets_of Try.func30 rfl (by kernel_rfl) (by simp) Try.ntmps30 (congrArg Array.toList Try.results30) ?_
  simp only [go_sem, ↓reduceIte, Nat.reduceAdd, Nat.reduceSub, Nat.reduceMul, Nat.reduceLT, Nat.reduceLeDiff, Nat.reduceEqDiff, Int.reduceLT, Int.reduceLE, Int.reduceEq, Nat.reduceBEq, reduceCtorEq, reduceCtorEq, encIts, List.length_map]
  refine awp_loop (fun s m => ∃ k : Nat, k ≤ l.length ∧ m = l.length - k ∧ s.n = 0 ∧ s.sl 0 = .p false [.d (encIts l)] ∧ s.sl 1 = .p false [.d (encIts l)] ∧ s.sl 5 = .p false [.d (.sc (.int .i64 k))]) l.length ?_ ?_
  · exact ⟨0, Nat.zero_le _, rfl, rfl, rfl, rfl, rfl⟩
  · rintro s m ⟨k, hk, rfl, hn0, g0, g1, g5⟩
    by_cases hlt : k < l.length
    · have hx := List.getElem?_eq_getElem hlt
      generalize l[k] = x at hx
      have hd : decide ((k : Int) < (l.length : Int)) = true := by simpa using hlt
      have hw2 : IntKind.i64.wrap ((k : Int) + 1) = (k + 1 : Nat) := wrapN (k + 1) (by omega)
      simp only [go_sem, ↓reduceIte, Nat.reduceAdd, Nat.reduceSub, Nat.reduceMul, Nat.reduceLT, Nat.reduceLeDiff, Nat.reduceEqDiff, Int.reduceLT, Int.reduceLE, Int.reduceEq, Nat.reduceBEq, reduceCtorEq, reduceCtorEq, g0, g1, g5, hn0, encIts, List.length_map, hd]
      refine awp_drawn (n := 10) true (by kernel_rfl) (by kernel_rfl) ?_
      simp only [go_sem, ↓reduceIte, Nat.reduceAdd, Nat.reduceSub, Nat.reduceMul, Nat.reduceLT, Nat.reduceLeDiff, Nat.reduceEqDiff, Int.reduceLT, Int.reduceLE, Int.reduceEq, Nat.reduceBEq, reduceCtorEq, reduceCtorEq, g0, g1, g5, hn0, encIts, List.getElem?_map, hx, Option.map_some, encIt]
      refine hcall rfl (eqItem_m x) rfl (by simp only [go_sem, ↓reduceIte, Nat.reduceAdd, Nat.reduceSub, Nat.reduceMul, Nat.reduceLT, Nat.reduceLeDiff, Nat.reduceEqDiff, Int.reduceLT, Int.reduceLE, Int.reduceEq, Nat.reduceBEq, reduceCtorEq, reduceCtorEq, encIt]) (fun _ => rfl) ?_
      simp only [go_sem, ↓reduceIte, Nat.reduceAdd, Nat.reduceSub, Nat.reduceMul, Nat.reduceLT, Nat.reduceLeDiff, Nat.reduceEqDiff, Int.reduceLT, Int.reduceLE, Int.reduceEq, Nat.reduceBEq, reduceCtorEq, reduceCtorEq, g5, hw2, hn0]
      exact ⟨0, l.length - (k + 1), by omega, by omega, k + 1, by omega, rfl, rfl, g0, g1, rfl⟩
    · have hd : decide ((k : Int) < (l.length : Int)) = false := by simpa using hlt
      simp only [go_sem, ↓reduceIte, Nat.reduceAdd, Nat.reduceSub, Nat.reduceMul, Nat.reduceLT, Nat.reduceLeDiff, Nat.reduceEqDiff, Int.reduceLT, Int.reduceLE, Int.reduceEq, Nat.reduceBEq, reduceCtorEq, reduceCtorEq, g0, g1, g5, hn0, encIts, List.length_map, hd]
      refine Or.inl ?_; repeat' (first | exact gives_nil | exact trivial | with_reducible apply gives_sc | with_reducible apply gives_nilS (by decide) | with_reducible apply gives_own | with_reducible apply Exists.intro | with_reducible apply And.intro | (show (_ : Option Ob) = _; simp only [go_sem, ↓reduceIte, Nat.reduceAdd, Nat.reduceSub, Nat.reduceMul, Nat.reduceLT, Nat.reduceLeDiff, Nat.reduceEqDiff, Int.reduceLT, Int.reduceLE, Int.reduceEq, Nat.reduceBEq, reduceCtorEq, reduceCtorEq, true_and]))
theorem heldItemS_m (k0 n : Nat) (h0 : 0 < k0) (h1 : k0 + 3 * n ≤ 4611686018427387904) : Meets Try.prog 44 [(false, [encIts (marksIt k0 n)]), (false, [.sc (.int .i64 k0)])] [(false, [.sc (.int .i64 ((k0 + 3 * n : Nat) : Int))], true)] := by
  have hl := marksIt_len k0 n
  refine meets_of Try.func44 rfl (by kernel_rfl) (by simp) Try.ntmps44 (congrArg Array.toList Try.results44) ?_
  simp only [go_sem, ↓reduceIte, Nat.reduceAdd, Nat.reduceSub, Nat.reduceMul, Nat.reduceLT, Nat.reduceLeDiff, Nat.reduceEqDiff, Int.reduceLT, Int.reduceLE, Int.reduceEq, Nat.reduceBEq, reduceCtorEq, reduceCtorEq, encIts, List.length_map]
  refine awp_loop (fun s m => ∃ k : Nat, k ≤ n ∧ m = n - k ∧ s.n = 0 ∧ s.sl 0 = .p false [.d (encIts (marksIt k0 n))] ∧ s.sl 1 = .p false [.d (.sc (.int .i64 ((k0 + 3 * k : Nat) : Int)))] ∧ s.sl 5 = .p false [.d (.sc (.int .i64 k))]) n ?_ ?_
  · exact ⟨0, Nat.zero_le _, rfl, rfl, rfl, rfl, rfl⟩
  · rintro s m ⟨k, hk, rfl, hn0, g0, g1, g5⟩
    by_cases hlt : k < n
    · have hx := marksIt_get (k := k0) hlt
      have hd : decide ((k : Int) < (n : Int)) = true := by simpa using hlt
      have hw2 : IntKind.i64.wrap ((k : Int) + 1) = (k + 1 : Nat) := wrapN (k + 1) (by omega)
      have hK : k0 + 3 * (k + 1) = k0 + 3 * k + 3 := by omega
      have hK2 : k0 + 3 * k + 3 ≤ 4611686018427387904 := by omega
      have hK1 : 0 < k0 + 3 * k + 2 := by omega
      generalize k0 + 3 * k = K at *
      have a1 : ((K : Int) + 1) = ((K + 1 : Nat) : Int) := rfl
      have a2 : (((K + 1 : Nat) : Int) + 1) = ((K + 2 : Nat) : Int) := rfl
      have a3 : (((K + 2 : Nat) : Int) + 1) = ((K + 3 : Nat) : Int) := rfl
      have e1 := wrapN (K + 1) (by omega)
      have e2 := wrapN (K + 2) (by omega)
      have e3 := wrapN (K + 3) (by omega)
      simp only [go_sem, ↓reduceIte, Nat.reduceAdd, Nat.reduceSub, Nat.reduceMul, Nat.reduceLT, Nat.reduceLeDiff, Nat.reduceEqDiff, Int.reduceLT, Int.reduceLE, Int.reduceEq, Nat.reduceBEq, reduceCtorEq, reduceCtorEq, g0, g1, g5, hn0, encIts, List.length_map, hl, hd, List.getElem?_map, hx, Option.map_some, encIt, markIt, a1, a2, e1, e2]
      refine awp_drawn (n := 8) true (by kernel_rfl) (by kernel_rfl) ?_
      simp only [go_sem, ↓reduceIte, Nat.reduceAdd, Nat.reduceSub, Nat.reduceMul, Nat.reduceLT, Nat.reduceLeDiff, Nat.reduceEqDiff, Int.reduceLT, Int.reduceLE, Int.reduceEq, Nat.reduceBEq, reduceCtorEq, reduceCtorEq, g0, g5, encIts, List.getElem?_map, hx, Option.map_some, encIt, markIt]
      refine hcall rfl (markText_m (K + 2) (by omega) (by omega)) rfl (by simp only [go_sem, ↓reduceIte, Nat.reduceAdd, Nat.reduceSub, Nat.reduceMul, Nat.reduceLT, Nat.reduceLeDiff, Nat.reduceEqDiff, Int.reduceLT, Int.reduceLE, Int.reduceEq, Nat.reduceBEq, reduceCtorEq, reduceCtorEq, true_and]) (fun _ => rfl) ?_
      simp only [go_sem, ↓reduceIte, Nat.reduceAdd, Nat.reduceSub, Nat.reduceMul, Nat.reduceLT, Nat.reduceLeDiff, Nat.reduceEqDiff, Int.reduceLT, Int.reduceLE, Int.reduceEq, Nat.reduceBEq, reduceCtorEq, reduceCtorEq, g5, hw2, a3, e3, hn0]
      exact ⟨0, n - (k + 1), by omega, by omega, k + 1, by omega, rfl, rfl, g0, by rw [hK], rfl⟩
    · have hd : decide ((k : Int) < (n : Int)) = false := by simpa using hlt
      obtain rfl : k = n := by omega
      simp only [go_sem, ↓reduceIte, Nat.reduceAdd, Nat.reduceSub, Nat.reduceMul, Nat.reduceLT, Nat.reduceLeDiff, Nat.reduceEqDiff, Int.reduceLT, Int.reduceLE, Int.reduceEq, Nat.reduceBEq, reduceCtorEq, reduceCtorEq, g0, g1, g5, hn0, encIts, List.length_map, hl, hd]
      refine Or.inl ?_; repeat' (first | exact gives_nil | exact trivial | with_reducible apply gives_sc | with_reducible apply gives_nilS (by decide) | with_reducible apply gives_own | with_reducible apply Exists.intro | with_reducible apply And.intro | (show (_ : Option Ob) = _; simp only [go_sem, ↓reduceIte, Nat.reduceAdd, Nat.reduceSub, Nat.reduceMul, Nat.reduceLT, Nat.reduceLeDiff, Nat.reduceEqDiff, Int.reduceLT, Int.reduceLE, Int.reduceEq, Nat.reduceBEq, reduceCtorEq, reduceCtorEq, true_and]))
end Go.Proofs.Ytkcljmgjbjdccaa

namespace Go.Proofs.Ytkcljmgjbjdccaa
open Go.RowKit Go.ChangeShapes Go.WideShapes Go.Deep
set_option maxRecDepth 100000
theorem encIts_scs (l : List It) : (l.map encIt).flatten = scs (itFlat l) := by
  induction l with
  | nil => rfl
  | cons x l ih => rw [List.map_cons, List.flatten_cons, ih]; simp [itFlat, scs, encIt, itCells]
theorem own_its {w : World} {base : Nat} {v : Value} {l : List It} {f : List Nat} (h : OwnL w base [v] [encIts l] f) : w.ownsRow base 54 3 v l.length (itFlat l) ∧ f = v.ownBlock.toList := by
  cases h with
  | @sl _ _ _ _ cells g vs ds f' h1 h2 h3 h4 h5 h6 =>
    cases h5
    have hg := own_flat_nil h4 (encIts_flat l)
    subst hg
    have hc := h4.rep
    rw [encIts_scs] at hc
    have := rep_scs hc
    subst this
    rw [List.length_map] at h1
    exact ⟨h1, by simp⟩
theorem its_own {w : World} {base : Nat} {v : Value} {l : List It} (h : w.ownsRow base 54 3 v l.length (itFlat l)) : OwnL w base [v] [encIts l] v.ownBlock.toList := by
  have hf : OwnL w base (itFlat l) (l.map encIt).flatten [] := by
    rw [encIts_scs]
    refine own_scs fun u hu => ?_
    obtain ⟨x, _, hx⟩ := List.mem_flatMap.1 hu
    simp [itCells] at hx
    rcases hx with rfl | rfl | rfl <;> trivial
  have := OwnL.sl (t := 54) (k := 3) (es := l.map encIt) (vs := []) (ds := []) (f := []) (by rw [List.length_map]; exact h) (by decide) (by simp [encIt]) hf .nil (by cases v.ownBlock <;> simp)
  simpa [encIts] using this
end Go.Proofs.Ytkcljmgjbjdccaa

namespace Go.Proofs.Ytkcljmgjbjdccaa
open Go.RowKit
set_option maxRecDepth 100000
def u_laws_heldStringS_h : List Hint := [⟨3000002, 2, ⟨[(5, .p false [.d 4]), (4, .p false [.d 2]), (0, .p false [.d 0]), (1, .p false [.d 5])], [], 0, 0, 6, []⟩, []⟩]
def u_laws_heldStringS_d : List (Nat × Nat × Bool × List Nat) := [(4, 7, false, [])]
def u_laws_heldStringS_l0 : UP := .po (.lenL 5) <| .po (.bin .lss false 2 0) <| .ite 0 (.po (.isI 3) <| .po (.idx 1 7 3) <| .po (.sc 0) <| .sel [0, 3, 4] <| .cl 36 [(false, [1])] [(false, [none], true)] <| .po (.bin .neq false 1 0) <| .po (.sc 0) <| .ite 0 (.po (.k (.int .i64 (-1))) <| .po (.sc 0) <| .ret [(false, [0])]) <| .po (.k (.int .i64 1)) <| .po (.bin .add false 4 0) <| .po (.k (.int .i64 1)) <| .po (.bin .add false 7 0) <| .jump 0 [0, 2]) <| .po (.sc 2) <| .ret [(false, [2])]
def u_laws_heldStringS_u : UP := .po (.k (.int .i64 0)) <| .po (.k (.int .i64 0)) <| .loop [0, 2] u_laws_heldStringS_l0
theorem u_laws_heldStringS_g : toUPf Try.prog 37 Try.f37 owA u_laws_heldStringS_h u_laws_heldStringS_d = some ([(false, 1), (false, 1)], u_laws_heldStringS_u) := by kernel_rfl
end Go.Proofs.Ytkcljmgjbjdccaa

namespace Go.Proofs.Ytkcljmgjbjdccaa
open Go.RowKit
set_option maxRecDepth 100000
def cellsS (l : List ByteArray) : List Value := l.map Value.string
def marksS (k n : Nat) : List ByteArray := (List.range n).map fun i => markT (k + i)
theorem marksS_len (k n : Nat) : (marksS k n).length = n := by simp [marksS]
theorem marks_step {α β : Type} (f : α → β) (g : Nat → α) (l : List α) (k : Nat) (h : k < l.length) : (((List.range k).map g ++ l.drop k).map f).set k (f (g k)) = ((List.range (k + 1)).map g ++ l.drop (k + 1)).map f := by
  rw [List.map_append, List.set_append_right _ _ (by simp), List.length_map, List.length_map, List.length_range, Nat.sub_self, List.drop_eq_getElem_cons h, List.map_cons, List.set_cons_zero, List.range_succ]
  simp
def MRel (n : Nat) (w : World) (base : Nat) (t : TypeId) (A : Option Addr) (c k0 : Nat) (cells : Nat → List Value) (v1 v5 : Value) (wr : World) : Prop :=
  ∃ k : Nat, k ≤ n ∧ v5 = .int .i64 k ∧ v1 = .int .i64 ((k0 + k : Nat) : Int) ∧ wr.ownsRow base t 1 (.slice A n c) n (cells k) ∧ w.grownBy wr (Value.slice A n c).ownBlock
theorem markStringS_any (A : Option Addr) (n c base k0 : Nat) (l : List ByteArray) (w : World) (ha : w.ownsRow base 9 1 (.slice A n c) n (cellsS l)) (hl : l.length = n) (h0 : 0 < k0) (h1 : k0 + n ≤ 4611686018427387904) :
    Calls Try.prog 35 #[.slice A n c, .int .i64 k0] w fun e w' => e = .returned (.int .i64 ((k0 + n : Nat) : Int)) ∧ w'.ownsRow base 9 1 (.slice A n c) n (cellsS (marksS k0 n)) ∧ w.grownBy w' (Value.slice A n c).ownBlock := by
  have HL := Lib.hid hl; clear hl
  go_enter Try.func35, Try.ntmps35
  go_wp2
  go_loopw [1, 5] (MRel n w base 9 A c k0 (fun k => cellsS (marksS k0 k ++ l.drop k))) (fun _ i _ => n - (intOf i).toNat)
  case atStart => exact ⟨0, Nat.zero_le _, rfl, rfl, by simpa [marksS] using ha, World.grownBy.refl w _⟩
  case round =>
    obtain ⟨k, hk, rfl, rfl, hown, hg⟩ := hrel
    by_cases hlt : k < n
    · obtain ⟨g, cap, hv, -, -⟩ := hown.form (by omega)
      injection hv with e1 e2 e3
      subst e1 e3
      have hown : wr.ownsRow base 9 1 (.slice (some ⟨g, 0, none⟩) n c) n (cellsS (marksS k0 k ++ l.drop k)) := hown
      have hgl := (own_blk hown rfl).2
      have HO := Lib.hid hown
      have HG := Lib.hid hg
      clear hown hg ha
      go_wp2_with fail
      refine (markText_x _ (k0 + k) _ (by omega) (by omega) (by omega)).mono ?_
      rintro e w2 ⟨rfl, hb⟩
      have hown2 := own_below HO.out hb (Nat.le_refl _)
      have hst := hown2.stored k (.string (markT (k0 + k)))
      have hfl : (cellsS (marksS k0 k ++ l.drop k)).length = n := by have := HL.out; simp [cellsS, marksS_len]; omega
      obtain ⟨z0, c0⟩ : ∃ z, w2.cell? ⟨g, k, none⟩ = some z := ⟨_, (hown2.cellAt k (by omega)).trans (List.getElem?_eq_getElem (by omega))⟩
      have f0 := hown2.frozenAt k
      have hgb : wr.grownBy w2 (some g) := ⟨hb.os, hb.tape, hb.output, hb.size, fun i hi _ => hb.block i hi⟩
      have HS := Lib.hid hst
      have HB := Lib.hid hgb
      clear hown2 hst hb hfl hgb
      go_wp2
      refine ⟨⟨k + 1, hlt, rfl, rfl, ?_, (HG.out.trans HB.out).trans HS.out.2⟩, by simp [intOf]; omega⟩
      have hsp := marks_step Value.string (fun i => markT (k0 + i)) l k (by rw [HL.out]; omega)
      have := HS.out.1
      unfold cellsS marksS at this
      rw [hsp] at this
      exact this
    · go_wp2
      go_ret
      obtain rfl : k = n := by omega
      have hown : wr.ownsRow base 9 1 (.slice A k c) k (cellsS (marksS k0 k ++ l.drop k)) := hown
      rw [List.drop_of_length_le (by rw [HL.out]; omega), List.append_nil] at hown
      exact ⟨ret_i rfl, hown, hg⟩
theorem own_row {w : World} {base t k : Nat} {es : List (List DV)} {cells : List Value} {v : Value} {f : List Nat} (hf : es.flatten = cells.map .sc) (h : OwnL w base [v] [.sl t k es] f) : w.ownsRow base t k v es.length cells ∧ f = v.ownBlock.toList := by
  cases h with
  | @sl _ _ _ _ cs g vs ds f' h1 h2 h3 h4 h5 h6 =>
    cases h5
    have hfl : Flat es.flatten := by rw [hf]; intro d hd; obtain ⟨x, _, rfl⟩ := List.mem_map.1 hd; exact ⟨x, rfl⟩
    have hg := own_flat_nil h4 hfl
    subst hg
    have hc := h4.rep
    rw [hf] at hc
    have : cs = cells := by
      have key : ∀ {A : Nat → Prop} {a b : List Value}, RepL w A a (b.map .sc) → a = b := by
        intro A a b
        induction b generalizing a with
        | nil => intro h; cases h; rfl
        | cons x b ih => intro h; cases h with | sc _ h2 => rw [ih h2]
      exact key hc
    subst this
    exact ⟨h1, by simp⟩
theorem row_own {w : World} {base t k : Nat} {es : List (List DV)} {cells : List Value} {v : Value} (hf : es.flatten = cells.map .sc) (hs : ∀ u ∈ cells, Sc u) (hk : 0 < k) (he : ∀ e ∈ es, e.length = k) (h : w.ownsRow base t k v es.length cells) : OwnL w base [v] [.sl t k es] v.ownBlock.toList := by
  have hf2 : OwnL w base cells es.flatten [] := by
    rw [hf]
    clear h hf
    induction cells with
    | nil => exact .nil
    | cons x b ih => exact .sc (hs x (List.mem_cons_self ..)) (ih fun v hv => hs v (List.mem_cons_of_mem _ hv))
  have := OwnL.sl (t := t) (k := k) (es := es) (vs := []) (ds := []) (f := []) h hk he hf2 .nil (by cases v.ownBlock <;> simp)
  simpa using this
theorem flatS (l : List ByteArray) : (l.map encS).flatten = (cellsS l).map .sc := by
  induction l with
  | nil => rfl
  | cons x l ih => rw [List.map_cons, List.flatten_cons, ih]; rfl
theorem markStringS_k (l : List ByteArray) (k0 : Nat) (h0 : 0 < k0) (h1 : k0 + l.length ≤ 4611686018427387904) : Marks Try.prog 35 false [encSs l] k0 [encSs (marksS k0 l.length)] ((k0 + l.length : Nat) : Int) := by
  refine ⟨by kernel_rfl, fun w base v vals fs hv ho hnd => ?_⟩
  have hv : vals = [v] := hv
  subst hv
  obtain ⟨_, _, f, _, e, rfl, o0, ho⟩ := ownP_cons ho
  injection e with e1 e2
  subst e1 e2
  obtain ⟨-, rfl⟩ := ownP_nil ho
  obtain ⟨h2, rfl⟩ := own_row (flatS l) o0
  rw [List.length_map] at h2
  obtain ⟨A, c, rfl, -, -⟩ := own_shape h2
  refine (markStringS_any A l.length c base k0 l w h2 rfl h0 h1).mono ?_
  rintro e w' ⟨rfl, h3, h4⟩
  exact ⟨rfl, ⟨row_own (flatS _) (by intro u hu; obtain ⟨x, _, rfl⟩ := List.mem_map.1 hu; trivial) (by decide) (by simp [encS]) (by rw [List.length_map, marksS_len]; exact h3), trivial⟩, wrote_grown h4⟩
theorem marksS_get {k n i : Nat} (h : i < n) : (marksS k n).getD i default = markT (k + i) := by
  rw [List.getD_eq_getElem?_getD]; simp [marksS, h]
theorem heldStringS_m (k0 n : Nat) (h0 : 0 < k0) (h1 : k0 + n ≤ 4611686018427387904) : Meets Try.prog 37 [(false, [encSs (marksS k0 n)]), (false, [.sc (.int .i64 k0)])] [(false, [.sc (.int .i64 ((k0 + n : Nat) : Int))], true)] := by
  have hl := marksS_len k0 n
  refine meets_upf Try.func37 u_laws_heldStringS_g rfl ?_; simp only [u_laws_heldStringS_u]
  simp only [encSs]
  simp (disch := first | omega | (simp only [List.length_take, List.length_drop, List.length_append, List.map_cons, List.map_nil, List.length_map, List.length_cons, List.length_nil, List.length_set, List.length_replicate]; omega) | (simp only [List.length_cons, List.length_nil, Nat.zero_add, Nat.reduceAdd])) only [go_sem, ↓reduceIte, Nat.reduceAdd, Int.reduceNeg, Int.reduceAdd, Int.reduceSub, Int.reduceMul, Int.reduceLT, Int.reduceLE, Int.reduceEq, Int.reduceToNat, Nat.reduceBEq, e_sle, e_sge, e_shl1, e_orI, e_andI, e_shr, wrapu, wrap8, tn1, nat1, ix_s, ix_z, st_s, st_z, fl_s, fl_z, fl1_s, fl1_z, map_s, map_z, true_and]
  refine lp_n n (fun i => [.sc (.int .i64 i), .sc (.int .i64 ((k0 + i : Nat) : Int))]) rfl fun i hi => ?_
  simp only [u_laws_heldStringS_l0]
  by_cases hlt : i < n
  · have hg := marksS_get (k := k0) hlt
    have hm := markText_m (k0 + i) (by omega) (by omega)
    have hk : ((k0 + i : Nat) : Int) + 1 = ((k0 + (i + 1) : Nat) : Int) := by omega
    repeat' (first | (with_reducible refine jn_in ?_) | (with_reducible refine cl_ok (by assumption) rfl ?_) | (with_reducible refine cl_okP (by assumption) rfl ?_) | (with_reducible refine br_if (fun hbr => ?_) (fun hbr => ?_)) | (with_reducible refine br_ifn (fun hbr => ?_) (fun hbr => ?_)) | (with_reducible refine br_nb (fun hbr => ?_) (fun hbr => ?_)) | (with_reducible refine br_b (fun hbr => ?_) (fun hbr => ?_)) | simp (disch := first | omega | (simp only [List.length_take, List.length_drop, List.length_append, List.map_cons, List.map_nil, List.length_map, List.length_cons, List.length_nil, List.length_set, List.length_replicate]; omega) | (simp only [List.length_cons, List.length_nil, Nat.zero_add, Nat.reduceAdd])) only [go_sem, ↓reduceIte, Nat.reduceAdd, Int.reduceNeg, Int.reduceAdd, Int.reduceSub, Int.reduceMul, Int.reduceLT, Int.reduceLE, Int.reduceEq, Int.reduceToNat, Nat.reduceBEq, e_sle, e_sge, e_shl1, e_orI, e_andI, e_shr, wrapu, wrap8, tn1, nat1, ix_s, ix_z, st_s, st_z, fl_s, fl_z, fl1_s, fl1_z, map_s, map_z, hl, hg, eq_self, hk])
    all_goals first | omega | exact ⟨rfl, hlt⟩
  · obtain rfl : i = n := by omega
    repeat' (first | (with_reducible refine jn_in ?_) | (with_reducible refine cl_ok (by assumption) rfl ?_) | (with_reducible refine cl_okP (by assumption) rfl ?_) | (with_reducible refine br_if (fun hbr => ?_) (fun hbr => ?_)) | (with_reducible refine br_ifn (fun hbr => ?_) (fun hbr => ?_)) | (with_reducible refine br_nb (fun hbr => ?_) (fun hbr => ?_)) | (with_reducible refine br_b (fun hbr => ?_) (fun hbr => ?_)) | simp (disch := first | omega | (simp only [List.length_take, List.length_drop, List.length_append, List.map_cons, List.map_nil, List.length_map, List.length_cons, List.length_nil, List.length_set, List.length_replicate]; omega) | (simp only [List.length_cons, List.length_nil, Nat.zero_add, Nat.reduceAdd])) only [go_sem, ↓reduceIte, Nat.reduceAdd, Int.reduceNeg, Int.reduceAdd, Int.reduceSub, Int.reduceMul, Int.reduceLT, Int.reduceLE, Int.reduceEq, Int.reduceToNat, Nat.reduceBEq, e_sle, e_sge, e_shl1, e_orI, e_andI, e_shr, wrapu, wrap8, tn1, nat1, ix_s, ix_z, st_s, st_z, fl_s, fl_z, fl1_s, fl1_z, map_s, map_z, hl])
    all_goals first | omega | rfl
end Go.Proofs.Ytkcljmgjbjdccaa

namespace Go.Proofs.Ytkcljmgjbjdccaa
open Go.RowKit
set_option maxRecDepth 100000
def Rel0 (k : Int) (w : World) (v1 v5 : Value) (wr : World) : Prop := v5 = .int .i64 0 ∧ v1 = .int .i64 k ∧ wr = w
theorem markStr0_any (A : Option Addr) (c : Nat) (k : Int) (w : World) : Calls Try.prog 35 #[.slice A 0 c, .int .i64 k] w fun e w' => e = .returned (.int .i64 k) ∧ w' = w := by
  go_enter Try.func35, Try.ntmps35
  go_wp2
  go_loopw [1, 5] (Rel0 k w) (fun _ _ _ => 0)
  case atStart => exact ⟨rfl, rfl, rfl⟩
  case round =>
    obtain ⟨rfl, rfl, rfl⟩ := hrel
    go_wp2
    go_ret
    exact ⟨rfl, rfl⟩
theorem markVec0_any (A : Option Addr) (c : Nat) (k : Int) (w : World) : Calls Try.prog 34 #[.slice A 0 c, .int .i64 k] w fun e w' => e = .returned (.int .i64 k) ∧ w' = w := by
  go_enter Try.func34, Try.ntmps34
  go_wp2
  go_loopw [1, 5] (Rel0 k w) (fun _ _ _ => 0)
  case atStart => exact ⟨rfl, rfl, rfl⟩
  case round =>
    obtain ⟨rfl, rfl, rfl⟩ := hrel
    go_wp2
    go_ret
    exact ⟨rfl, rfl⟩
theorem own_nil {w : World} {base t k : Nat} {u : Value} {f : List Nat} (h : OwnL w base [u] [.sl t k []] f) : ∃ A c, u = .slice A 0 c := by
  cases h with
  | sl h1 h2 h3 h4 h5 h6 =>
    obtain ⟨A, c, e, -, -⟩ := own_shape h1
    exact ⟨A, c, e⟩
theorem cell_of_heap {w w' : World} {b : Nat} (h : w'.heap[b]? = w.heap[b]?) (o : Nat) : w'.cell? ⟨b, o, none⟩ = w.cell? ⟨b, o, none⟩ := by
  unfold World.cell?
  simp only [h]
theorem markVector_k (k : Int) (l : List It) (k0 : Nat) (h0 : 0 < k0) (h1 : k0 + 3 * l.length ≤ 4611686018427387904) : Marks Try.prog 11 true (encF k l) k0 (encF k (marksIt k0 l.length)) ((k0 + 3 * l.length : Nat) : Int) := by
  refine ⟨by kernel_rfl, fun w base v vals fs hv ho hnd => ?_⟩
  have hv : v = .agg vals.toArray := hv
  subst hv
  unfold encF at ho
  obtain ⟨v0, _, f0, _, rfl, rfl, o0, ho⟩ := ownP_cons ho
  obtain ⟨v1, _, f1, _, rfl, rfl, o1, ho⟩ := ownP_cons ho
  obtain ⟨v2, _, f2, _, rfl, rfl, o2, ho⟩ := ownP_cons ho
  obtain ⟨v3, _, f3, _, rfl, rfl, o3, ho⟩ := ownP_cons ho
  obtain ⟨v4, _, f4, _, rfl, rfl, o4, ho⟩ := ownP_cons ho
  obtain ⟨v5, _, f5, _, rfl, rfl, o5, ho⟩ := ownP_cons ho
  obtain ⟨v6, _, f6, _, rfl, rfl, o6, ho⟩ := ownP_cons ho
  obtain ⟨v7, _, f7, _, rfl, rfl, o7, ho⟩ := ownP_cons ho
  obtain ⟨rfl, rfl⟩ := ownP_nil ho
  obtain ⟨rfl, -⟩ := RepL.scOf o0.rep
  obtain ⟨rfl, -⟩ := RepL.scOf o6.rep
  obtain ⟨rfl, -⟩ := RepL.scOf o7.rep
  obtain ⟨h2, rfl⟩ := own_its o1
  obtain ⟨A, cp, rfl, -, -⟩ := own_shape h2
  obtain ⟨A2, c2, rfl⟩ := own_nil o2
  obtain ⟨A3, c3, rfl⟩ := own_nil o3
  obtain ⟨A4, c4, rfl⟩ := own_nil o4
  obtain ⟨A5, c5, rfl⟩ := own_nil o5
  have e0 := own_flat_nil o0 (by intro d hd; simp at hd; exact ⟨_, hd⟩)
  have e6 := own_flat_nil o6 (by intro d hd; simp at hd; exact ⟨_, hd⟩)
  have e7 := own_flat_nil o7 (by intro d hd; simp at hd; exact ⟨_, hd⟩)
  subst e0 e6 e7
  have hb1 : ∀ b, (Value.slice A l.length cp).ownBlock = some b → b < w.heap.size := fun b hb => (o1.blocks b (by rw [hb]; exact List.mem_singleton.2 rfl)).2
  have HB := Lib.hid hb1
  clear hb1
  have HN := Lib.hid hnd
  have HO := Lib.hid h2
  have O0 := Lib.hid o0
  have O2 := Lib.hid o2
  have O3 := Lib.hid o3
  have O4 := Lib.hid o4
  have O5 := Lib.hid o5
  have O6 := Lib.hid o6
  have O7 := Lib.hid o7
  clear h2 hnd ho o0 o1 o2 o3 o4 o5 o6 o7
  go_enter Try.func11, Try.ntmps11
  go_wp2_with fail
  refine (markItemS_any A l.length cp base k0 l _ (HO.out.alloc _) rfl h0 h1).mono ?_
  rintro e w1 ⟨rfl, hown, hg⟩
  have hg2 : w.grownBy w1 (Value.slice A l.length cp).ownBlock := (World.grownBy_alloc w _ _).trans hg
  have hk := hg.block w.heap.size (by simp) (fun e => absurd (HB.out _ e.symm) (Nat.lt_irrefl _))
  have hc := cell_of_heap hk
  have hz : w.heap.size < w1.heap.size := by have := hg.size; simp at this; omega
  have HG := Lib.hid hg2
  have HW := Lib.hid hown
  clear hg hg2 hown hk
  go_wp2_with fail
  refine (markVec0_any A2 c2 _ _).mono ?_
  rintro e w2 ⟨rfl, rfl⟩
  go_wp2_with fail
  refine (markStr0_any A3 c3 _ _).mono ?_
  rintro e w2 ⟨rfl, rfl⟩
  go_wp2_with fail
  refine (markStr0_any A4 c4 _ _).mono ?_
  rintro e w2 ⟨rfl, rfl⟩
  go_wp2_with fail
  refine (markStr0_any A5 c5 _ _).mono ?_
  rintro e w2 ⟨rfl, rfl⟩
  go_wp2
  go_ret
  have hnd := HN.out
  simp only [List.flatten_cons, List.flatten_nil, List.append_nil, List.nil_append] at hnd
  obtain ⟨-, -, hnd⟩ := List.nodup_append.1 hnd
  have key : ∀ {u : Value} {t kk : Nat} {f : List Nat}, OwnL w base [u] [.sl t kk []] f → (∀ b ∈ f, b ∈ f2 ++ (f3 ++ (f4 ++ f5))) → OwnL w2 base [u] [.sl t kk []] f := fun h hd => h.keep fun b hb => HG.out.block b (h.blocks b hb).2 fun e => hnd b (by rw [← e]; exact List.mem_singleton.2 rfl) b (hd b hb) rfl
  refine ⟨ret_i (by simp), ⟨O0.out.keep (by simp), its_own (by rw [marksIt_len]; exact HW.out), key O2.out (fun b hb => by simp [hb]), key O3.out (fun b hb => by simp [hb]), key O4.out (fun b hb => by simp [hb]), key O5.out (fun b hb => by simp [hb]), O6.out.keep (by simp), O7.out.keep (by simp), trivial⟩, ?_⟩
  have hw := wrote_grown HG.out
  exact ⟨hw.os, hw.tape, hw.output, hw.size, fun b hb hn => hw.block b hb fun hx => hn (by simp at hx ⊢; exact Or.inl hx)⟩
theorem eqVec0_m : Meets Try.prog 31 [(false, [.sl 34 8 []]), (false, [.sl 34 8 []])] [(false, [.sc (.bool true)], true)] := by
  refine meets_upf Try.func31 u_laws_eqVectorS_g rfl ?_; simp only [u_laws_eqVectorS_u]
  simp (disch := first | omega | (simp only [List.length_take, List.length_drop, List.length_append, List.map_cons, List.map_nil, List.length_map, List.length_cons, List.length_nil, List.length_set, List.length_replicate]; omega) | (simp only [List.length_cons, List.length_nil, Nat.zero_add, Nat.reduceAdd])) only [go_sem, ↓reduceIte, Nat.reduceAdd, Int.reduceNeg, Int.reduceAdd, Int.reduceSub, Int.reduceMul, Int.reduceLT, Int.reduceLE, Int.reduceEq, Int.reduceToNat, Nat.reduceBEq, e_sle, e_sge, e_shl1, e_orI, e_andI, e_shr, wrapu, wrap8, tn1, nat1, ix_s, ix_z, st_s, st_z, fl_s, fl_z, fl1_s, fl1_z, map_s, map_z, true_and]
  refine lp_n 0 (fun _ => [.sc (.int .i64 0)]) rfl fun i hi => ?_
  simp only [u_laws_eqVectorS_l0]
  repeat' (first | (with_reducible refine jn_in ?_) | (with_reducible refine cl_ok (by assumption) rfl ?_) | (with_reducible refine cl_okP (by assumption) rfl ?_) | (with_reducible refine br_if (fun hbr => ?_) (fun hbr => ?_)) | (with_reducible refine br_ifn (fun hbr => ?_) (fun hbr => ?_)) | (with_reducible refine br_nb (fun hbr => ?_) (fun hbr => ?_)) | (with_reducible refine br_b (fun hbr => ?_) (fun hbr => ?_)) | simp (disch := first | omega | (simp only [List.length_take, List.length_drop, List.length_append, List.map_cons, List.map_nil, List.length_map, List.length_cons, List.length_nil, List.length_set, List.length_replicate]; omega) | (simp only [List.length_cons, List.length_nil, Nat.zero_add, Nat.reduceAdd])) only [go_sem, ↓reduceIte, Nat.reduceAdd, Int.reduceNeg, Int.reduceAdd, Int.reduceSub, Int.reduceMul, Int.reduceLT, Int.reduceLE, Int.reduceEq, Int.reduceToNat, Nat.reduceBEq, e_sle, e_sge, e_shl1, e_orI, e_andI, e_shr, wrapu, wrap8, tn1, nat1, ix_s, ix_z, st_s, st_z, fl_s, fl_z, fl1_s, fl1_z, map_s, map_z, true_and])
  all_goals rfl
theorem eqStr0_m : Meets Try.prog 32 [(false, [.sl 9 1 []]), (false, [.sl 9 1 []])] [(false, [.sc (.bool true)], true)] := eqSs_m [] (by simp)
theorem eqVector_m (k : Int) (l : List It) (hl : l.length ≤ 1000000) : Meets Try.prog 10 [(true, encF k l), (true, encF k l)] [(false, [.sc (.bool true)], true)] := by
  have h1 := eqItemS_m l (by omega)
  have h2 := eqVec0_m
  have h3 := eqStr0_m
  refine meets_upf Try.func10 u_laws_eqVector_g rfl ?_; simp only [u_laws_eqVector_u]
  unfold encF
  simp only [encIts] at h1
  repeat' (first | (with_reducible refine jn_in ?_) | (with_reducible refine cl_ok (by assumption) rfl ?_) | (with_reducible refine cl_okP (by assumption) rfl ?_) | (with_reducible refine br_if (fun hbr => ?_) (fun hbr => ?_)) | (with_reducible refine br_ifn (fun hbr => ?_) (fun hbr => ?_)) | (with_reducible refine br_nb (fun hbr => ?_) (fun hbr => ?_)) | (with_reducible refine br_b (fun hbr => ?_) (fun hbr => ?_)) | simp (disch := first | omega | (simp only [List.length_take, List.length_drop, List.length_append, List.map_cons, List.map_nil, List.length_map, List.length_cons, List.length_nil, List.length_set, List.length_replicate]; omega) | (simp only [List.length_cons, List.length_nil, Nat.zero_add, Nat.reduceAdd])) only [go_sem, ↓reduceIte, Nat.reduceAdd, Int.reduceNeg, Int.reduceAdd, Int.reduceSub, Int.reduceMul, Int.reduceLT, Int.reduceLE, Int.reduceEq, Int.reduceToNat, Nat.reduceBEq, e_sle, e_sge, e_shl1, e_orI, e_andI, e_shr, wrapu, wrap8, tn1, nat1, ix_s, ix_z, st_s, st_z, fl_s, fl_z, fl1_s, fl1_z, map_s, map_z, eq_self])
  all_goals rfl
theorem heldVec0_m (k : Int) : Meets Try.prog 45 [(false, [.sl 34 8 []]), (false, [.sc (.int .i64 k)])] [(false, [.sc (.int .i64 k)], true)] := by
  refine meets_upf Try.func45 u_laws_heldVectorS_g rfl ?_; simp only [u_laws_heldVectorS_u]
  simp (disch := first | omega | (simp only [List.length_take, List.length_drop, List.length_append, List.map_cons, List.map_nil, List.length_map, List.length_cons, List.length_nil, List.length_set, List.length_replicate]; omega) | (simp only [List.length_cons, List.length_nil, Nat.zero_add, Nat.reduceAdd])) only [go_sem, ↓reduceIte, Nat.reduceAdd, Int.reduceNeg, Int.reduceAdd, Int.reduceSub, Int.reduceMul, Int.reduceLT, Int.reduceLE, Int.reduceEq, Int.reduceToNat, Nat.reduceBEq, e_sle, e_sge, e_shl1, e_orI, e_andI, e_shr, wrapu, wrap8, tn1, nat1, ix_s, ix_z, st_s, st_z, fl_s, fl_z, fl1_s, fl1_z, map_s, map_z, true_and]
  refine lp_n 0 (fun _ => [.sc (.int .i64 0), .sc (.int .i64 k)]) rfl fun i hi => ?_
  simp only [u_laws_heldVectorS_l0]
  repeat' (first | (with_reducible refine jn_in ?_) | (with_reducible refine cl_ok (by assumption) rfl ?_) | (with_reducible refine cl_okP (by assumption) rfl ?_) | (with_reducible refine br_if (fun hbr => ?_) (fun hbr => ?_)) | (with_reducible refine br_ifn (fun hbr => ?_) (fun hbr => ?_)) | (with_reducible refine br_nb (fun hbr => ?_) (fun hbr => ?_)) | (with_reducible refine br_b (fun hbr => ?_) (fun hbr => ?_)) | simp (disch := first | omega | (simp only [List.length_take, List.length_drop, List.length_append, List.map_cons, List.map_nil, List.length_map, List.length_cons, List.length_nil, List.length_set, List.length_replicate]; omega) | (simp only [List.length_cons, List.length_nil, Nat.zero_add, Nat.reduceAdd])) only [go_sem, ↓reduceIte, Nat.reduceAdd, Int.reduceNeg, Int.reduceAdd, Int.reduceSub, Int.reduceMul, Int.reduceLT, Int.reduceLE, Int.reduceEq, Int.reduceToNat, Nat.reduceBEq, e_sle, e_sge, e_shl1, e_orI, e_andI, e_shr, wrapu, wrap8, tn1, nat1, ix_s, ix_z, st_s, st_z, fl_s, fl_z, fl1_s, fl1_z, map_s, map_z, true_and])
  all_goals rfl
theorem heldStr0_m (k : Nat) (h0 : 0 < k) (h1 : k ≤ 4611686018427387904) : Meets Try.prog 37 [(false, [.sl 9 1 []]), (false, [.sc (.int .i64 k)])] [(false, [.sc (.int .i64 k)], true)] := by
  have := heldStringS_m k 0 h0 (by omega)
  simpa [marksS, encSs] using this
theorem heldVector_m (k : Int) (k0 n : Nat) (h0 : 0 < k0) (h1 : k0 + 3 * n ≤ 4611686018427387904) : Meets Try.prog 18 [(true, encF k (marksIt k0 n)), (false, [.sc (.int .i64 k0)])] [(false, [.sc (.int .i64 ((k0 + 3 * n : Nat) : Int))], true)] := by
  have g1 := heldItemS_m k0 n h0 h1
  have g2 := heldVec0_m ((k0 + 3 * n : Nat) : Int)
  have g3 := heldStr0_m (k0 + 3 * n) (by omega) (by omega)
  refine meets_upf Try.func18 u_laws_heldVector_g rfl ?_; simp only [u_laws_heldVector_u]
  unfold encF
  simp only [encIts] at g1
  repeat' (first | (with_reducible refine jn_in ?_) | (with_reducible refine cl_ok (by assumption) rfl ?_) | (with_reducible refine cl_okP (by assumption) rfl ?_) | (with_reducible refine br_if (fun hbr => ?_) (fun hbr => ?_)) | (with_reducible refine br_ifn (fun hbr => ?_) (fun hbr => ?_)) | (with_reducible refine br_nb (fun hbr => ?_) (fun hbr => ?_)) | (with_reducible refine br_b (fun hbr => ?_) (fun hbr => ?_)) | simp (disch := first | omega | (simp only [List.length_take, List.length_drop, List.length_append, List.map_cons, List.map_nil, List.length_map, List.length_cons, List.length_nil, List.length_set, List.length_replicate]; omega) | (simp only [List.length_cons, List.length_nil, Nat.zero_add, Nat.reduceAdd])) only [go_sem, ↓reduceIte, Nat.reduceAdd, Int.reduceNeg, Int.reduceAdd, Int.reduceSub, Int.reduceMul, Int.reduceLT, Int.reduceLE, Int.reduceEq, Int.reduceToNat, Nat.reduceBEq, e_sle, e_sge, e_shl1, e_orI, e_andI, e_shr, wrapu, wrap8, tn1, nat1, ix_s, ix_z, st_s, st_z, fl_s, fl_z, fl1_s, fl1_z, map_s, map_z, eq_self])
  all_goals first | rfl | omega
end Go.Proofs.Ytkcljmgjbjdccaa

namespace Go.Proofs.Ytkcljmgjbjdccaa
open Go.RowKit
section
variable {w w' : World} {base : Nat} {vs : List Value} {ds : List DV} {f : List Nat}
theorem OwnL.setSc (h : OwnL w base vs ds f) : ∀ {p : Nat} {x u : Value}, ds[p]? = some (.sc x) → Sc u → OwnL w base (vs.set p u) (ds.set p (.sc u)) f := by
  induction h with
  | nil => intro p x u hp; simp at hp
  | @sc v vs ds f h1 h2 ih =>
    intro p x u hp hu
    cases p with
    | zero => exact .sc hu h2
    | succ p => exact .sc h1 (ih (by simpa using hp) hu)
  | sl h1 h2 h3 h4 h5 h6 _ ih =>
    intro p x u hp hu
    cases p with
    | zero => simp at hp
    | succ p => exact .sl h1 h2 h3 h4 (ih (by simpa using hp) hu) h6
theorem OwnL.one_at (h : OwnL w base vs ds f) : ∀ {p : Nat} {d : DV}, ds[p]? = some d → ∃ u f2, vs[p]? = some u ∧ OwnL w base [u] [d] f2 ∧ (∀ b ∈ f2, b ∈ f) ∧
    ∀ (w' : World) (d' : DV), (∀ b ∈ f, b ∉ f2 → w'.heap[b]? = w.heap[b]?) → OwnL w' base [u] [d'] f2 → OwnL w' base vs (ds.set p d') f := by
  induction h with
  | nil => intro p d hp; simp at hp
  | @sc v vs ds f h1 h2 ih =>
    intro p d hp
    cases p with
    | zero =>
      simp at hp; subst hp
      refine ⟨v, [], rfl, .sc h1 .nil, by simp, fun w' d' hk ho => ?_⟩
      have := ho.app (h2.keep fun b hb => hk b hb (by simp)) (by simp)
      simpa using this
    | succ p =>
      obtain ⟨u, f2, a1, a2, a3, a4⟩ := ih (by simpa using hp)
      exact ⟨u, f2, by simpa using a1, a2, a3, fun w' d' hk ho => .sc h1 (a4 w' d' hk ho)⟩
  | @sl v t k es cells g vs ds f h1 h2 h3 h4 h5 h6 ih1 ih2 =>
    intro p d hp
    rw [← List.append_assoc] at h6
    obtain ⟨n1, n2, n3⟩ := List.nodup_append.1 h6
    cases p with
    | zero =>
      simp at hp; subst hp
      refine ⟨v, v.ownBlock.toList ++ g, rfl, ?_, fun b hb => ?_, fun w' d' hk ho => ?_⟩
      · have := OwnL.sl (vs := []) (ds := []) (f := []) h1 h2 h3 h4 .nil (by simpa using n1)
        simpa using this
      · rw [← List.append_assoc]; exact List.mem_append_left _ hb
      · have hk2 : OwnL w' base vs ds f := h5.keep fun b hb => hk b (by rw [← List.append_assoc]; exact List.mem_append_right _ hb) (fun hc => n3 b hc b hb rfl)
        have := ho.app hk2 (fun b hb hc => n3 b hb b hc rfl)
        simpa using this
    | succ p =>
      obtain ⟨u, f2, a1, a2, a3, a4⟩ := ih2 (by simpa using hp)
      refine ⟨u, f2, by simpa using a1, a2, fun b hb => by rw [← List.append_assoc]; exact List.mem_append_right _ (a3 b hb), fun w' d' hk ho => ?_⟩
      have hx : ∀ b, b ∈ v.ownBlock.toList ++ g → w'.heap[b]? = w.heap[b]? := fun b hb => hk b (by rw [← List.append_assoc]; exact List.mem_append_left _ hb) (fun hc => n3 b hb b (a3 b hc) rfl)
      refine .sl (own_keep h1 fun b hb => hx b (by simp [hb])) h2 h3 (h4.keep fun b hb => hx b (by simp [hb])) (a4 w' d' (fun b hb hn => hk b (by rw [← List.append_assoc]; exact List.mem_append_right _ hb) hn) ho) (by rw [← List.append_assoc]; exact h6)
theorem flat_set1 {α : Type} {k : Nat} {d : α} : ∀ {es : List (List α)} {j off : Nat} {e : List α}, (∀ e ∈ es, e.length = k) → es[j]? = some e → off < k → (es.set j (e.set off d)).flatten = es.flatten.set (j * k + off) d
  | [], j, off, e, _, h, _ => by simp at h
  | a :: es, 0, off, e, hk, h, ho => by
    simp at h; subst h
    have := hk a (List.mem_cons_self ..)
    simp only [List.set_cons_zero, List.flatten_cons, Nat.zero_mul, Nat.zero_add]
    rw [List.set_append_left _ _ (by omega)]
  | a :: es, j + 1, off, e, hk, h, ho => by
    have ha := hk a (List.mem_cons_self ..)
    have ih := flat_set1 (d := d) (es := es) (j := j) (off := off) (e := e) (fun e he => hk e (List.mem_cons_of_mem _ he)) (by simpa using h) ho
    simp only [List.set_cons_succ, List.flatten_cons, ih]
    rw [List.set_append_right _ _ (by rw [Nat.succ_mul]; omega)]
    congr 2
    rw [Nat.succ_mul]; omega
theorem flat_get1 {α : Type} {k : Nat} {es : List (List α)} {j off : Nat} {e : List α} {d : α} (hk : ∀ e ∈ es, e.length = k) (h : es[j]? = some e) (ho : e[off]? = some d) : es.flatten[j * k + off]? = some d := by
  have h1 := flat_at hk h
  have hlt : off < e.length := (List.getElem?_eq_some_iff.1 ho).1
  have : ((es.flatten.drop (j * k)).take k)[off]? = some d := by rw [h1]; exact ho
  rw [List.getElem?_take, if_pos (by rw [← hk e (List.mem_of_getElem? h)]; exact hlt), List.getElem?_drop] at this
  exact this
variable {t k : Nat} {es : List (List DV)} {g n c : Nat}
theorem own_lens (h : OwnL w base [.slice (some ⟨g, 0, none⟩) n c] [.sl t k es] f) : n = es.length ∧ 0 < k ∧ (∀ e ∈ es, e.length = k) ∧ g ∈ f ∧ base ≤ g ∧ g < w.heap.size := by
  cases h with
  | sl h1 h2 h3 h4 h5 h6 =>
    obtain ⟨a, c', e, _⟩ := own_shape h1
    injection e with _ e _
    have := own_blk h1 rfl
    exact ⟨e, h2, h3, by simp [Value.ownBlock], this.1, this.2⟩
theorem own_store (h : OwnL w base [.slice (some ⟨g, 0, none⟩) n c] [.sl t k es] f) {j off : Nat} {e : List DV} {x u : Value} (he : es[j]? = some e) (ho : e[off]? = some (.sc x)) (hu : Sc u) :
    OwnL (w.setCell ⟨g, j * k + off, none⟩ u) base [.slice (some ⟨g, 0, none⟩) n c] [.sl t k (es.set j (e.set off (.sc u)))] f ∧ (∃ z, w.cell? ⟨g, j * k + off, none⟩ = some z) ∧ w.frozen? ⟨g, j * k + off, none⟩ = false := by
  cases h with
  | @sl v t k es cells f1 vs ds f2 h1 h2 h3 h4 h5 h6 =>
    cases h5
    obtain ⟨_, _, en, _⟩ := own_shape h1
    injection en with _ en _
    subst en
    have hcl : cells.length = es.length * k := h1.1
    have hek : e.length = k := h3 e (List.mem_of_getElem? he)
    have hlt : off < k := by rw [← hek]; exact (List.getElem?_eq_some_iff.1 ho).1
    have hp := flat_get1 h3 he ho
    have hlen : (es.set j (e.set off (.sc u))).length = es.length := by simp
    have hst := h1.stored (j * k + off) u
    have hset := h4.setSc hp hu
    rw [← flat_set1 h3 he hlt] at hset
    have hnd : ∀ b ∈ f1, b ≠ g := by
      intro b hb e
      subst e
      have := (List.nodup_append.1 h6).2.2 b (by simp [Value.ownBlock]) b (by simp [hb])
      exact this rfl
    have hpc : j * k + off < cells.length := by rw [h4.rep.len]; exact (List.getElem?_eq_some_iff.1 hp).1
    refine ⟨?_, ⟨_, (h1.cellAt (j * k + off) (by omega)).trans (List.getElem?_eq_getElem hpc)⟩, h1.frozenAt _⟩
    · refine .sl (by rw [hlen]; exact hst.1) h2 (fun e' he' => ?_) (hset.keep fun b hb => ?_) .nil h6
      · rcases List.mem_or_eq_of_mem_set he' with h | h
        · exact h3 e' h
        · subst h; simpa using hek
      · exact Below.heap_setCell w ⟨g, j * k + off, none⟩ u b (fun e => hnd b hb e)
theorem own_sub (h : OwnL w base [.slice (some ⟨g, 0, none⟩) n c] [.sl t k es] f) {j off : Nat} {e : List DV} {d : DV} (he : es[j]? = some e) (ho : e[off]? = some d) :
    ∃ u f2, w.cell? ⟨g, j * k + off, none⟩ = some u ∧ OwnL w base [u] [d] f2 ∧ (∀ b ∈ f2, b ∈ f ∧ b ≠ g) ∧
      ∀ (w' : World) (d' : DV), (∀ b ∈ f, b ∉ f2 → w'.heap[b]? = w.heap[b]?) → OwnL w' base [u] [d'] f2 → OwnL w' base [.slice (some ⟨g, 0, none⟩) n c] [.sl t k (es.set j (e.set off d'))] f := by
  cases h with
  | @sl v t k es cells f1 vs ds f2 h1 h2 h3 h4 h5 h6 =>
    cases h5
    obtain ⟨_, _, en, _⟩ := own_shape h1
    injection en with _ en _
    subst en
    have hcl : cells.length = es.length * k := h1.1
    have hek : e.length = k := h3 e (List.mem_of_getElem? he)
    have hlt : off < k := by rw [← hek]; exact (List.getElem?_eq_some_iff.1 ho).1
    have hp := flat_get1 h3 he ho
    have hnd : ∀ b ∈ f1, b ≠ g := by
      intro b hb e
      subst e
      exact (List.nodup_append.1 h6).2.2 b (by simp [Value.ownBlock]) b (by simp [hb]) rfl
    obtain ⟨u, f3, a1, a2, a3, a4⟩ := h4.one_at hp
    refine ⟨u, f3, (h1.cellAt (j * k + off) (by rw [← hcl]; exact (List.getElem?_eq_some_iff.1 a1).1)).trans a1, a2, fun b hb => ⟨by simp [a3 b hb], hnd b (a3 b hb)⟩, fun w' d' hk ho' => ?_⟩
    have hc := a4 w' d' (fun b hb hn => hk b (by simp [hb]) hn) ho'
    rw [← flat_set1 h3 he hlt] at hc
    have hkg : w'.heap[g]? = w.heap[g]? := hk g (by simp [Value.ownBlock]) (fun hx => hnd _ (a3 _ hx) rfl)
    have ho1 : w'.ownsRow base t k (Value.slice (some ⟨g, 0, none⟩) es.length c) es.length cells := own_keep h1 fun b hb => by
      injection hb with hb
      subst hb
      exact hkg
    refine .sl (by rw [List.length_set]; exact ho1) h2 (fun e' he' => ?_) hc .nil h6
    rcases List.mem_or_eq_of_mem_set he' with h | h
    · exact h3 e' h
    · subst h; simpa using hek
end
end Go.Proofs.Ytkcljmgjbjdccaa

namespace Go.Proofs.Ytkcljmgjbjdccaa
open Go.RowKit
section
variable {w w1 w2 w3 : World} {f f2 : List Nat}
theorem Wrote.refl (w : World) (f : List Nat) : Wrote w w f := ⟨rfl, rfl, rfl, Nat.le_refl _, fun _ _ _ => rfl⟩
theorem Wrote.trans (h : Wrote w w1 f) (k : Wrote w1 w2 f) : Wrote w w2 f :=
  ⟨k.os.trans h.os, k.tape.trans h.tape, k.output.trans h.output, Nat.le_trans h.size k.size, fun b hb hn => (k.block b (Nat.lt_of_lt_of_le hb h.size) hn).trans (h.block b hb hn)⟩
theorem Wrote.mono (h : Wrote w w1 f2) (hs : ∀ b ∈ f2, b ∈ f) : Wrote w w1 f := ⟨h.os, h.tape, h.output, h.size, fun b hb hn => h.block b hb fun hx => hn (hs b hx)⟩
theorem Wrote.below (h : Below w.heap.size w w1) : Wrote w w1 f := ⟨h.os, h.tape, h.output, h.size, fun b hb _ => h.block b hb⟩
theorem Wrote.cell (w : World) {g o : Nat} {u : Value} (h : g ∈ f) (hg : g < w.heap.size) : Wrote w (w.setCell ⟨g, o, none⟩ u) f := by
  have hb := Below.setCell (Below.refl 0 w) (p := ⟨g, o, none⟩) (Nat.zero_le _) u
  refine ⟨hb.os, hb.tape, hb.output, hb.size, fun b hb hn => ?_⟩
  exact Below.heap_setCell w ⟨g, o, none⟩ u b (fun e => hn (e ▸ h))
end
section
variable {wr : World} {base n c t k g : Nat} {es : List (List DV)} {f : List Nat} {d0 d1 d2 d4 u0 u1 u2 u4 : Value} {d3 : DV}
theorem nod_cells (h : OwnL wr base [.slice (some ⟨g, 0, none⟩) n c] [.sl t 5 es] f) (he : es[k]? = some [.sc d0, .sc d1, .sc d2, d3, .sc d4]) :
    (∃ z, wr.cell? ⟨g, k * 5, none⟩ = some z) ∧ (∃ z, wr.cell? ⟨g, k * 5 + 1, none⟩ = some z) ∧ (∃ z, wr.cell? ⟨g, k * 5 + 2, none⟩ = some z) ∧ (∃ z, wr.cell? ⟨g, k * 5 + 4, none⟩ = some z) ∧
    wr.frozen? ⟨g, k * 5, none⟩ = false ∧ wr.frozen? ⟨g, k * 5 + 1, none⟩ = false ∧ wr.frozen? ⟨g, k * 5 + 2, none⟩ = false ∧ wr.frozen? ⟨g, k * 5 + 4, none⟩ = false ∧
    ∃ u, wr.cell? ⟨g, k * 5 + 3, none⟩ = some u := by
  obtain ⟨-, a1, a2⟩ := own_store h (off := 0) (u := .bool true) he rfl trivial
  obtain ⟨-, b1, b2⟩ := own_store h (off := 1) (u := .bool true) he rfl trivial
  obtain ⟨-, c1, c2⟩ := own_store h (off := 2) (u := .bool true) he rfl trivial
  obtain ⟨-, e1, e2⟩ := own_store h (off := 4) (u := .bool true) he rfl trivial
  obtain ⟨u, -, hu, -⟩ := own_sub h (off := 3) he rfl
  exact ⟨a1, b1, c1, e1, a2, b2, c2, e2, u, hu⟩
theorem adr_ne {g o o' : Nat} (h : o ≠ o') : (⟨g, o, none⟩ : Addr) ≠ ⟨g, o', none⟩ := fun e => h (by injection e)
theorem nod_step (h : OwnL wr base [.slice (some ⟨g, 0, none⟩) n c] [.sl t 5 es] f) (he : es[k]? = some [.sc d0, .sc d1, .sc d2, d3, .sc d4]) (s0 : Sc u0) (s1 : Sc u1) (s2 : Sc u2) (s4 : Sc u4) {u : Value} (hu : wr.cell? ⟨g, k * 5 + 3, none⟩ = some u)
    {w2 : World} (hb : Below ((wr.setCell ⟨g, k * 5, none⟩ u0).setCell ⟨g, k * 5 + 1, none⟩ u1).heap.size ((wr.setCell ⟨g, k * 5, none⟩ u0).setCell ⟨g, k * 5 + 1, none⟩ u1) w2) :
    ∃ f2, OwnL (w2.setCell ⟨g, k * 5 + 2, none⟩ u2) base [u] [d3] f2 ∧ ∀ (w4 : World) (d3' : DV), OwnL w4 base [u] [d3'] f2 → Wrote (w2.setCell ⟨g, k * 5 + 2, none⟩ u2) w4 f2 →
      (∃ z, w4.cell? ⟨g, k * 5 + 4, none⟩ = some z) ∧ w4.frozen? ⟨g, k * 5 + 4, none⟩ = false ∧
      OwnL (w4.setCell ⟨g, k * 5 + 4, none⟩ u4) base [.slice (some ⟨g, 0, none⟩) n c] [.sl t 5 (es.set k [.sc u0, .sc u1, .sc u2, d3', .sc u4])] f ∧ Wrote wr (w4.setCell ⟨g, k * 5 + 4, none⟩ u4) f := by
  have hk : k < es.length := (List.getElem?_eq_some_iff.1 he).1
  have hg := own_lens h
  obtain ⟨-, -, -, gf, -, gs⟩ := hg
  have a1 := (own_store h (off := 0) (u := u0) he rfl s0).1
  have e1 : (es.set k ([.sc d0, .sc d1, .sc d2, d3, .sc d4].set 0 (.sc u0)))[k]? = some [.sc u0, .sc d1, .sc d2, d3, .sc d4] := by rw [List.getElem?_set, if_pos rfl, if_pos hk]; rfl
  have a2 := (own_store a1 (off := 1) (u := u1) e1 rfl s1).1
  have e2 : ((es.set k ([.sc d0, .sc d1, .sc d2, d3, .sc d4].set 0 (.sc u0))).set k ([.sc u0, .sc d1, .sc d2, d3, .sc d4].set 1 (.sc u1)))[k]? = some [.sc u0, .sc u1, .sc d2, d3, .sc d4] := by rw [List.getElem?_set, if_pos rfl, if_pos (by simpa using hk)]; rfl
  have wA : Wrote wr ((wr.setCell ⟨g, k * 5, none⟩ u0).setCell ⟨g, k * 5 + 1, none⟩ u1) f := (Wrote.cell wr gf gs).trans (Wrote.cell _ gf (by simpa using gs))
  generalize hW : (wr.setCell ⟨g, k * 5, none⟩ u0).setCell ⟨g, k * 5 + 1, none⟩ u1 = W at *
  have a2 : OwnL W base [.slice (some ⟨g, 0, none⟩) n c] [.sl t 5 ((es.set k ([.sc d0, .sc d1, .sc d2, d3, .sc d4].set 0 (.sc u0))).set k ([.sc u0, .sc d1, .sc d2, d3, .sc d4].set 1 (.sc u1)))] f := a2
  have a3 := a2.keep fun b hbf => hb.block b (a2.blocks b hbf).2
  have gs2 := (own_lens a3).2.2.2.2.2
  have wB : Wrote wr w2 f := wA.trans (Wrote.below hb)
  have a4 := (own_store a3 (off := 2) (u := u2) e2 rfl s2).1
  have e4 : (((es.set k ([.sc d0, .sc d1, .sc d2, d3, .sc d4].set 0 (.sc u0))).set k ([.sc u0, .sc d1, .sc d2, d3, .sc d4].set 1 (.sc u1))).set k ([.sc u0, .sc u1, .sc d2, d3, .sc d4].set 2 (.sc u2)))[k]? = some [.sc u0, .sc u1, .sc u2, d3, .sc d4] := by rw [List.getElem?_set, if_pos rfl, if_pos (by simpa using hk)]; rfl
  have wC : Wrote wr (w2.setCell ⟨g, k * 5 + 2, none⟩ u2) f := wB.trans (Wrote.cell _ gf gs2)
  obtain ⟨u', f2, b1, b2, b3, b4⟩ := own_sub a4 (off := 3) e4 rfl
  have hu' : u' = u := by
    rw [World.cell?_setCell_other (h := adr_ne (by omega))] at b1
    have hgW : g < W.heap.size := (own_lens a2).2.2.2.2.2
    have : w2.cell? ⟨g, k * 5 + 3, none⟩ = W.cell? ⟨g, k * 5 + 3, none⟩ := (bcell hb).1 g _ hgW
    rw [this, ← hW, World.cell?_setCell_other (h := adr_ne (by omega)), World.cell?_setCell_other (h := adr_ne (by omega)), hu] at b1
    injection b1 with b1; exact b1.symm
  subst hu'
  refine ⟨f2, b2, fun w4 d3' ho hw => ?_⟩
  have a5 := b4 w4 d3' (fun b hbf hn => hw.block b (a4.blocks b hbf).2 hn) ho
  have e5 : ((((es.set k ([.sc d0, .sc d1, .sc d2, d3, .sc d4].set 0 (.sc u0))).set k ([.sc u0, .sc d1, .sc d2, d3, .sc d4].set 1 (.sc u1))).set k ([.sc u0, .sc u1, .sc d2, d3, .sc d4].set 2 (.sc u2))).set k ([.sc u0, .sc u1, .sc u2, d3, .sc d4].set 3 d3'))[k]? = some [.sc u0, .sc u1, .sc u2, d3', .sc d4] := by rw [List.getElem?_set, if_pos rfl, if_pos (by simpa using hk)]; rfl
  obtain ⟨a6, z6, f6⟩ := own_store a5 (off := 4) (u := u4) e5 rfl s4
  refine ⟨z6, f6, ?_, (wC.trans (hw.mono fun b hb => (b3 b hb).1)).trans (Wrote.cell _ gf (own_lens a5).2.2.2.2.2)⟩
  simpa using a6
end
def wNd (x : Nod) : Nat := 4 + x.labels.length
def mkNd (o : Nat) (x : Nod) : Nod := ⟨(o : Nat), (o + 1 : Nat), markT (o + 2), marksS (o + 3) x.labels.length, (o + 3 + x.labels.length : Nat)⟩
def offN (l : List Nod) (i : Nat) : Nat := sumOf wNd (l.take i)
def mixN (k0 : Nat) (l : List Nod) (i : Nat) : List Nod := ((List.range i).map fun j => mkNd (k0 + offN l j) (l.getD j default)) ++ l.drop i
def marksN (k0 : Nat) (l : List Nod) : List Nod := (List.range l.length).map fun j => mkNd (k0 + offN l j) (l.getD j default)
theorem offN_succ {l : List Nod} {i : Nat} (h : i < l.length) : offN l (i + 1) = offN l i + (4 + (l.getD i default).labels.length) := sumOf_take wNd h
theorem offN_le (l : List Nod) (i : Nat) : offN l i ≤ sumOf wNd l := sumOf_le wNd l i
theorem mixN_0 (k0 : Nat) (l : List Nod) : mixN k0 l 0 = l := by simp [mixN]
theorem mixN_end (k0 : Nat) (l : List Nod) : mixN k0 l l.length = marksN k0 l := by simp [mixN, marksN]
theorem mixN_len {k0 : Nat} {l : List Nod} {i : Nat} (h : i ≤ l.length) : (mixN k0 l i).length = l.length := by simp [mixN]; omega
theorem mixN_get {k0 : Nat} {l : List Nod} {i : Nat} (h : i < l.length) : ((mixN k0 l i).map encNod)[i]? = some (encNod (l.getD i default)) := by
  unfold mixN
  rw [List.getElem?_map, List.getElem?_append_right (by simp), List.length_map, List.length_range, Nat.sub_self, List.getElem?_drop, Nat.add_zero, List.getD_eq_getElem?_getD, List.getElem?_eq_getElem h]; rfl
theorem own_some {w : World} {base n c t k : Nat} {A : Option Addr} {es : List (List DV)} {f : List Nat} (h : OwnL w base [.slice A n c] [.sl t k es] f) (hn : 0 < es.length) : ∃ g, A = some ⟨g, 0, none⟩ := by
  cases h with
  | sl h1 h2 h3 h4 h5 h6 =>
    obtain ⟨g, cap, hv, -, -⟩ := h1.form hn
    injection hv with e1 e2 e3
    exact ⟨g, e1⟩
theorem mixN_set {k0 : Nat} {l : List Nod} {i : Nat} (h : i < l.length) : ((mixN k0 l i).map encNod).set i (encNod (mkNd (k0 + offN l i) (l.getD i default))) = (mixN k0 l (i + 1)).map encNod := marks_step encNod (fun j => mkNd (k0 + offN l j) (l.getD j default)) l i h
theorem own_cap {w : World} {base n c t k : Nat} {A : Option Addr} {es : List (List DV)} {f : List Nat} (h : OwnL w base [.slice A n c] [.sl t k es] f) : n ≤ 9223372036854775807 := by
  cases h with
  | sl h1 h2 h3 h4 h5 h6 =>
    obtain ⟨A, c', e, e1, e2⟩ := own_shape h1
    injection e with _ e _
    unfold maxLen at e2
    omega
theorem marks_x {P : Program} {fn : FuncId} {d d' : DV} {k k' : Int} (h : Marks P fn false [d] k [d'] k') {w : World} {base : Nat} {u : Value} {f2 : List Nat} (ho : OwnL w base [u] [d] f2) {x : Int} (hx : x = k) :
    Calls P fn #[u, .int .i64 x] w fun e w' => e = .returned (.int .i64 k') ∧ OwnL w' base [u] [d'] f2 ∧ Wrote w w' f2 := by
  subst hx
  refine (h.2 w base u [u] [f2] rfl ⟨ho, trivial⟩ (by simpa using ho.nodup)).mono ?_
  rintro e w' ⟨h1, ⟨h2, -⟩, h3⟩
  exact ⟨h1, h2, by simpa using h3⟩
def NRel (k0 n : Nat) (w : World) (base : Nat) (A : Option Addr) (c : Nat) (l : List Nod) (f : List Nat) (v1 v5 : Value) (wr : World) : Prop :=
  ∃ k : Nat, k ≤ n ∧ v5 = .int .i64 k ∧ v1 = .int .i64 ((k0 + offN l k : Nat) : Int) ∧ OwnL wr base [.slice A n c] [.sl 52 5 ((mixN k0 l k).map encNod)] f ∧ Wrote w wr f
set_option maxRecDepth 100000 in
theorem markNodeS_any (A : Option Addr) (n c base k0 : Nat) (l : List Nod) (f : List Nat) (w : World) (ha : OwnL w base [.slice A n c] [.sl 52 5 (l.map encNod)] f) (hl : l.length = n) (h0 : 0 < k0) (h1 : k0 + sumOf wNd l ≤ 4611686018427387904) :
    Calls Try.prog 12 #[.slice A n c, .int .i64 k0] w fun e w' => e = .returned (.int .i64 ((k0 + sumOf wNd l : Nat) : Int)) ∧ OwnL w' base [.slice A n c] [.sl 52 5 ((marksN k0 l).map encNod)] f ∧ Wrote w w' f := by
  have HL := Lib.hid hl; clear hl
  go_enter Try.func12, Try.ntmps12
  go_wp2
  go_loopw [1, 5] (NRel k0 n w base A c l f) (fun _ i _ => n - (intOf i).toNat)
  case atStart => exact ⟨0, Nat.zero_le _, rfl, by simp [offN, sumOf], by rw [mixN_0]; exact ha, Wrote.refl _ _⟩
  case round =>
    obtain ⟨k, hk, rfl, rfl, hown, hg⟩ := hrel
    by_cases hlt : k < n
    · have hkl : k < l.length := by have := HL.out; omega
      have he := mixN_get (k0 := k0) hkl
      obtain ⟨g, rfl⟩ := own_some hown (by rw [List.length_map, mixN_len (by omega)]; omega)
      obtain ⟨-, -, -, gf, -, gs⟩ := own_lens hown
      have hcp := own_cap hown
      have hof := offN_succ hkl
      have hol := offN_le l (k + 1)
      have hms := mixN_set (k0 := k0) hkl
      generalize l.getD k default = x at *
      generalize hes : (mixN k0 l k).map encNod = es at *
      obtain ⟨⟨z0, c0⟩, ⟨z1, c1⟩, ⟨z2, c2⟩, ⟨z4, c4⟩, q0, q1, q2, q4, u, c3⟩ := nod_cells hown he
      generalize hK : k0 + offN l k = K at *
      have hKb : K + 4 + x.labels.length ≤ 4611686018427387904 := by omega
      have NS := fun (w2 : World) hb => nod_step (u0 := .int .i64 K) (u1 := .int .i64 ((K : Int) + 1)) (u2 := .string (markT (K + 2))) (u4 := .int .i64 ((K + 3 + x.labels.length : Nat) : Int)) hown he trivial trivial trivial trivial c3 (w2 := w2) hb
      have HR := Lib.hid NS
      have HG := Lib.hid hg
      have HE := Lib.hid hes
      have HK := Lib.hid hK
      have HM := Lib.hid hms
      have HF := Lib.hid hof
      clear hown hg ha he NS hes hK hms hof hol
      go_wp2_with fail
      refine (markText_x _ (K + 2) _ (by omega) (by omega) (by omega)).mono ?_
      rintro e w2 ⟨rfl, hb⟩
      obtain ⟨f2, o3, HN⟩ := HR.out w2 hb
      obtain ⟨hc, hf⟩ := bcell hb
      have hz : g < w2.heap.size := by have := hb.size; simp at this; omega
      have HN := Lib.hid HN
      have HO := Lib.hid o3
      clear hb HR o3
      go_wp2_with fail
      refine (marks_x (markStringS_k x.labels (K + 3) (by omega) (by omega)) HO.out (by omega)).mono ?_
      rintro e w4 ⟨rfl, o4, wr4⟩
      obtain ⟨⟨z5, c5⟩, q5, o5, wr5⟩ := HN.out w4 _ o4 wr4
      have HW := Lib.hid wr5
      have HP := Lib.hid o5
      clear o4 wr4 o5 wr5 HN HO hc hf c0 c1 c2 c3 c4 q0 q1 q2 q4
      go_wp2
      go_roundw
      case rel =>
        refine ⟨k + 1, hlt, rfl, ?_, ?_, HG.out.trans HW.out⟩
        · congr 1; have := HF.out; have := HK.out; omega
        · rw [← HM.out]
          have := HP.out
          unfold mkNd encNod encSs
          exact this
      case measure => simp [intOf]; omega
    · go_wp2
      go_ret
      obtain rfl : k = n := by omega
      obtain rfl : l.length = k := HL.out
      have he : offN l l.length = sumOf wNd l := by unfold offN; rw [List.take_length]
      rw [mixN_end] at hown
      exact ⟨ret_i (by rw [he]), hown, hg⟩
theorem markNodeS_k (l : List Nod) (k0 : Nat) (h0 : 0 < k0) (h1 : k0 + sumOf wNd l ≤ 4611686018427387904) : Marks Try.prog 12 false [encNods l] k0 [encNods (marksN k0 l)] ((k0 + sumOf wNd l : Nat) : Int) := by
  refine ⟨by kernel_rfl, fun w base v vals fs hv ho hnd => ?_⟩
  have hv : vals = [v] := hv
  subst hv
  obtain ⟨_, _, f, _, e, rfl, o0, ho⟩ := ownP_cons ho
  injection e with e1 e2
  subst e1 e2
  obtain ⟨-, rfl⟩ := ownP_nil ho
  obtain ⟨A, n, c, rfl, hn⟩ : ∃ A n c, v = .slice A n c ∧ n = l.length := by
    unfold encNods at o0
    cases o0 with
    | sl h1 h2 h3 h4 h5 h6 =>
      obtain ⟨A, c, e, -, -⟩ := own_shape h1
      exact ⟨A, _, c, e, by rw [List.length_map]⟩
  refine (markNodeS_any A n c base k0 l f w o0 hn.symm h0 h1).mono ?_
  rintro e w' ⟨rfl, h3, h4⟩
  exact ⟨rfl, ⟨h3, trivial⟩, by simpa using h4⟩
end Go.Proofs.Ytkcljmgjbjdccaa

namespace Go.Proofs.Ytkcljmgjbjdccaa
open Go.RowKit
theorem sumOf_wNd : ∀ (l : List Nod), sumOf wNd l ≤ 4 * wtNods l
  | [] => by simp [sumOf]
  | x :: l => by
    have ih := sumOf_wNd l
    have h1 : x.labels.length ≤ wtSs x.labels := wtSs_len (Nat.le_refl _)
    have h2 : wtNod x = x.text.size + wtSs x.labels := rfl
    have h3 : wNd x = 4 + x.labels.length := rfl
    simp only [sumOf, wtNods, List.length_cons] at ih ⊢
    omega
end Go.Proofs.Ytkcljmgjbjdccaa

namespace Go.Proofs.Ytkcljmgjbjdccaa
open Go.RowKit
set_option maxRecDepth 100000
theorem cstOf_len (t : List Nod) : (cstOf t).1.2.length ≤ 1 := by
  have h1 : ∀ n : Int, (numV [n]).2.length ≤ 1 := fun n => by unfold numV; rw [if_neg (by simp)]; simp
  have h2 : ∀ n : Int, (logV [n]).2.length ≤ 1 := fun n => by unfold logV; rw [if_neg (by simp)]; simp
  have h3 : ∀ s : ByteArray, (txtV [s]).2.length ≤ 1 := fun n => by unfold txtV; rw [if_neg (by simp)]; split <;> simp
  unfold cstOf
  split
  · unfold cstV
    repeat' split
    all_goals first | exact h1 _ | exact h2 _ | exact h3 _ | simp
  · simp
set_option maxHeartbeats 8000000 in
theorem lawConstantOf_m (a0 : List Nod) (ok0 : OkNods a0) :
    Meets Try.prog 4 [(false, [encNodsL a0])] [(false, [.sc (.bool true)], true)] := by
  have hz0 := szNods_m a0 ((1048576 : Int)) ok0 (by omega) (by omega)
  by_cases hc0 : ((wtNods a0 : Nat) : Int) ≤ (1048576 : Int)
  rotate_left
  · rw [szF_gt (by omega)] at hz0
    refine meets_upf Try.func4 u_laws_FnExactConstantOf_g rfl ?_; simp only [u_laws_FnExactConstantOf_u]
    simp only [encNods, encNodsL, encSs, encZs] at hz0 ⊢
    repeat' (first | (with_reducible refine jn_in ?_) | (with_reducible refine cl_ok (by assumption) rfl ?_) | (with_reducible refine cl_okP (by assumption) rfl ?_) | (with_reducible refine br_if (fun hbr => ?_) (fun hbr => ?_)) | (with_reducible refine br_ifn (fun hbr => ?_) (fun hbr => ?_)) | (with_reducible refine br_nb (fun hbr => ?_) (fun hbr => ?_)) | (with_reducible refine br_b (fun hbr => ?_) (fun hbr => ?_)) | simp (disch := first | omega | (simp only [List.length_take, List.length_drop, List.length_append, List.map_cons, List.map_nil, List.length_map, List.length_cons, List.length_nil, List.length_set, List.length_replicate]; omega) | (simp only [List.length_cons, List.length_nil, Nat.zero_add, Nat.reduceAdd])) only [go_sem, ↓reduceIte, Nat.reduceAdd, Int.reduceNeg, Int.reduceAdd, Int.reduceSub, Int.reduceMul, Int.reduceLT, Int.reduceLE, Int.reduceEq, Int.reduceToNat, Nat.reduceBEq, eq_self])
    all_goals first | rfl | omega
  rw [szF_le hc0] at hz0
  have hd0 : decide ((1048576 : Int) - ((wtNods a0 : Nat) : Int) < 0) = false := decide_eq_false (by omega)
  have wa0 : wtNods a0 ≤ 1048576 := by omega
  have ht0 := toNods_m a0 (wa0)
  have hq0 := eqNods_m a0 (by omega)
  have hw0 := sumOf_wNd a0
  have hl0 : a0.length ≤ 1048576 := (wtNods_ok wa0).1
  have hx := (wtNods_ok wa0).2
  have h1 := specCst_m a0 hl0 hx
  have h2 := implCst_m a0 hl0 hx
  have hbd := cstOf_len a0
  generalize cstOf a0 = R at *
  obtain ⟨⟨k, its⟩, b⟩ := R
  simp only [resF] at h1 h2 hbd
  have hr0 := eqVector_m k its (by omega)
  have hmx0 : Marks Try.prog 12 false [encNods a0] 1 [encNods (marksN (1) a0)] ((1 + sumOf wNd a0 : Nat) : Int) := markNodeS_k a0 (1) (by omega) (by omega)
  have hkx : decide (((1 + sumOf wNd a0 : Nat) : Int) < 0) = false := decide_eq_false (by omega)
  have hmg0 : Marks Try.prog 11 true (encF k its) 1 (encF k (marksIt 1 its.length)) ((1 + 3 * its.length : Nat) : Int) := markVector_k k its 1 (by omega) (by omega)
  have hhg0 : Meets Try.prog 18 [(true, encF k (marksIt 1 its.length)), (false, [.sc (.int .i64 1)])] [(false, [.sc (.int .i64 ((1 + 3 * its.length : Nat) : Int))], true)] := heldVector_m k 1 its.length (by omega) (by omega)
  have hkg0 : decide (((1 + 3 * its.length : Nat) : Int) < 0) = false := decide_eq_false (by omega)
  refine meets_upf Try.func4 u_laws_FnExactConstantOf_g rfl ?_; simp only [u_laws_FnExactConstantOf_u]
  simp only [encNods, encNodsL, encSs, encZs, encF] at hz0 ht0 hq0 h1 h2 hr0 hmx0 hmg0 hhg0 ⊢
  repeat' (first | (with_reducible refine cl_ok (by assumption) rfl ?_) | (with_reducible refine cl_okP (by assumption) rfl ?_) | (refine mk_ok (by assumption) ?_ ?_; (· first | exact ⟨⟨_, rfl, rfl⟩, ⟨_, rfl, rfl⟩, trivial⟩ | exact ⟨⟨_, rfl, rfl⟩, ⟨_, rfl, rfl⟩, ⟨_, rfl, rfl⟩, trivial⟩ | exact trivial | exact ⟨⟨_, rfl, rfl⟩, trivial⟩)) | simp (disch := first | omega | (simp only [List.length_take, List.length_drop, List.length_append, List.map_cons, List.map_nil, List.length_map, List.length_cons, List.length_nil, List.length_set, List.length_replicate]; omega) | (simp only [List.length_cons, List.length_nil, Nat.zero_add, Nat.reduceAdd])) only [go_sem, ↓reduceIte, Nat.reduceAdd, Int.reduceNeg, Int.reduceAdd, Int.reduceSub, Int.reduceMul, Int.reduceLT, Int.reduceLE, Int.reduceEq, Int.reduceToNat, Nat.reduceBEq, hd0, hkx, hkg0])
  all_goals first | rfl | omega
end Go.Proofs.Ytkcljmgjbjdccaa

namespace Go.Proofs.Ytkcljmgjbjdccaa.fnExactConstantOf
open Go.ChangeShapes Go.WideShapes Go.ChangeAt Go.RowKit
open Go.ChangeMaps (open_string shut_string)
theorem own : ownKnob Try.prog.godebug = none := by kernel_rfl
theorem laidOut : laidOutB Try.prog = true := by kernel_rfl
set_option maxRecDepth 100000 in
set_option maxHeartbeats 2000000 in
theorem walk {H : Type} (enc : TypeId × Value → H) (v0 : Value) (d0 : DataW H) (p0 : List MemPlace) (base : Nat) (w : World)
    (ok0 : Value.okWide Try.prog w .any base 41 v0) (h0 : DataW.Trod enc Try.prog w 0 (fun _ => true) true 41 v0 d0 p0)
    (sz : (DataW.weightsEach Try.prog [41] [d0]).all (· ≤ reachBytes) = true) :
    Calls Try.prog 4 #[v0] w fun e w' => e = .returned (.bool true) ∧ Below w.heap.size w w' := by
  obtain ⟨a0, r0, i0⟩ := argD_sl (base := base) opD_Nods Try.underlying41 h0 ok0
  exact run_law (lawConstantOf_m a0 i0) (ArgsR.cons r0 ArgsR.nil)
set_option maxRecDepth 100000 in
theorem lifted (os : Os) (started : os.Started) (H : Type) (enc : TypeId × Value → H) :
    ReturnsInHanded {} Try.checked os 4 .any (Rows.fnExactConstantOfSpec.pre6 enc Try.prog Try.f4 Rows.fnExactConstantOfRow.domain false) (Rows.fnExactConstantOfSpec.post enc Try.prog Try.f4 false true false false) := by
  refine returnsInHanded_of_change_sized (C := Try.checked) own started (by kernel_rfl) Try.func4
    (ChangeSpec.witness6 (enc := enc) (C := Try.checked) false ⟨#[], #[.slice none 0 0], []⟩ 8 (by kernel_rfl) (by kernel_rfl) (by kernel_rfl) (by kernel_rfl)) ?_
  intro W base args ds gs before hval0 hW hcnd0 hsz0 hholds
  have hval : ∀ (j : Nat) t v, Try.f4.params[j]? = some t → args[j]? = some v → Value.okWide Try.prog W .any base t v := hval0
  have hsz : (DataW.weightsEach Try.prog (Try.f4.params.toList ++ Rows.fnExactConstantOfSpec.plain.varTypes Try.prog) (ds ++ gs)).all (· ≤ reachBytes) = true := hsz0
  have hW' := hW
  obtain ⟨p, q, hA0, hV, rfl, hfz, hnd⟩ := hW
  have hA : DataW.TrodAll enc Try.prog W 0 (fun _ => true) true Try.f4.params.toList args.toList ds p := hA0
  rw [Try.params4] at hA hval hsz
  obtain ⟨v0, vs0, d0, ds0, p0, q0, hargs, rfl, rfl, h0, r0⟩ := trodAll_cons hA
  obtain ⟨rfl, rfl, rfl⟩ := trodAll_nil r0
  obtain rfl : args = #[v0] := by cases args; simp_all
  obtain ⟨rfl, rfl⟩ := trodVars_none hV
  have lt0 : ∀ x ∈ p0, x.block < W.heap.size := by obtain ⟨m, hm⟩ := h0; exact DataW.trod_lt m _ _ _ hm
  refine (walk enc v0 d0 p0 base W (hval 0 41 v0 rfl rfl) h0 hsz).mono fun e W' ⟨he, bel⟩ => ?_
  subst he
  exact ⟨_, rfl, _, _, _, [], _, [], hW', trodAll_mk1 (shut_bool Try.underlying4 _), (trodAll_cons_mk (Below.trod laidOut (by kernel_rfl) (of_decide_eq_true (by kernel_rfl)) h0 bel lt0) trodAll_mk0), rfl, bel.frame _, fun h => by cases h⟩
theorem over : Rows.fnExactConstantOfRow.holds Try.pinned (OpenSpec.ofChange Rows.fnExactConstantOfSpec) :=
  OpenClaim.holds_of_wide 4 Try.f4 rfl rfl rfl rfl rfl rfl rfl ⟨rfl, rfl, rfl, rfl, rfl⟩ rfl rfl rfl rfl rfl (by kernel_rfl) Try.func4 (by kernel_rfl)
    (of_decide_eq_true (by kernel_rfl)) (by unfold Func.isWrapper; first | (rw [if_pos (by decide +kernel)]; kernel_rfl) | (rw [if_neg (by decide +kernel)]; exact ⟨rfl, rfl⟩))
    (fun os started H enc _ => lifted os started H enc)
theorem proved : Rows.FnExactConstantOfSaid := over
end Go.Proofs.Ytkcljmgjbjdccaa.fnExactConstantOf

