/- Proved: for every input the law 'FnExactFormulaOf' returns true and its arguments read behind the call as before: part 5 of its proof. No condition. -/
import Derived.WalkKit
import Derived.Lib.Hide
import Derived.WalkSpells
import Derived.Laws.OwnMore
import Derived.Deep.AppendLies
import Derived.Deep.Draws
import Derived.Maps.AppendAt
import Derived.RegionTactic
import Derived.OwnWalk
import Derived.Below
import Derived.Laws.AppendOwnNone
import Derived.Deep.QuietTactic
import Derived.BigQuiet
import Derived.StillTailTactics
import Derived.Laws.Cells
import Derived.Laws.IdiomCopy
import Derived.ChangeKeysEq
import Derived.Laws.BytesArg
import Derived.Laws.StructEq
import Derived.Laws.Tables
import Derived.Great.BuildSlice
import Derived.StillTail
import Derived.OrdersHeld
import Derived.Test.YtgmpajfhjnojiaaProg
import Derived.Deep.Slices
import Derived.Deep.Fields
import Derived.ChangeSame
import Derived.OpenShut
import Derived.Laws.IdiomStrings
import Derived.Test.YtgmpajfhjnojiaaRows
import Derived.ProofKit
import Derived.ShutString
import Derived.ChangeOld
import Derived.SizedLaws
import Derived.Test.YtgmpajfhjnojiaaExFormulaOfQ4
set_option linter.unusedVariables false
set_option linter.unusedSimpArgs false
namespace Go.Proofs.Ytgmpajfhjnojiaa
open Int (reduceNeg reduceSub reduceMul reduceLT reduceLE reduceEq reduceToNat)
open Go.RowKit
set_option maxRecDepth 100000
def nB (x : Nod) : Bool:=nodB x.kind x.num x.text x.labels x.kids
def badT (t : List Nod) (i : Nat) (s : List Int) : Bool:=!nB (t.getD i default) || (decide ((t.getD i default).kids > (s.length : Int)) || (decide ((t.getD i default).kind = 0) && decide ((i : Int) < (t.length : Int) - 1)))
def knd (t : List Nod) (s : List Int) (j : Nat) : Int:=(t.getD (s.getD j default).toNat default).kind
def empT (t : List Nod) (x : Nod) (s : List Int) (j : Nat) : Bool:=!(decide (knd t s (s.length - x.kids.toNat + j) = 1) && (decide (x.kind ≠ 8) || decide (j + 1 = x.kids.toNat)))
def stepT (t : List Nod) (i : Nat) (s : List Int) : Option (List Int) :=
  if badT t i s = true then none else if allB (empT t (t.getD i default) s) (t.getD i default).kids.toNat = true then some (s.take (s.length - (t.getD i default).kids.toNat) ++ [(i : Int)]) else none
def stkT (t : List Nod) : Nat→Option (List Int)
  | 0=>some []
  | i + 1=>match stkT t i with | none=>none | some s=>stepT t i s
def treeB (t : List Nod) : Bool:=decide (1≤t.length∧t.length≤200) && (match stkT t t.length with | none=>false | some s=>decide (s.length = 1) && !decide ((t.getD (t.length - 1) default).kind = 1))
theorem stkT_none {t : List Nod} {i : Nat} (h : stkT t i = none) : ∀ {j},i≤j→stkT t j = none:=by
  intro j hj
  induction j with
  | zero => obtain rfl : i = 0 := by omega
            exact h
  | succ j ih =>
    rcases Nat.lt_or_ge i (j + 1) with h1 | h1
    · simp only [stkT,ih (by omega)]
    · obtain rfl : i = j + 1:=by omega
      exact h
theorem tree_no {t : List Nod} {i : Nat} {s : List Int} (hi : i < t.length) (h : stkT t i = some s) (h2 : stepT t i s = none) : treeB t = false:=by
  have : stkT t (i + 1) = none:=by simp only [stkT,h];exact h2
  unfold treeB
  rw [stkT_none this hi];simp
theorem stkT_inv {t : List Nod} : ∀ {i : Nat} {s : List Int},stkT t i = some s→s.length≤i∧∀ e ∈ s,0≤e∧e < (i : Int)
  | 0,s,h=>by simp only [stkT] at h;injection h with h;subst h;simp
  | i + 1,s,h=>by
    simp only [stkT] at h
    split at h
    · cases h
    · rename_i s0 h0
      obtain ⟨g1,g2⟩:=stkT_inv h0
      unfold stepT at h
      split at h
      · cases h
      · split at h
        · injection h with h;subst h
          refine ⟨by simp;omega,fun e he=>?_⟩
          rcases List.mem_append.1 he with he | he
          · have:=g2 e (List.mem_of_mem_take he);omega
          · rw [List.mem_singleton.1 he];omega
        · cases h
theorem nB_kids {x : Nod} (h : nB x = true) : 0≤x.kids:=by
  unfold nB nodB at h
  simp only [Bool.and_eq_true] at h
  have h:=h.2.1
  unfold kidB at h
  split at h
  · exact of_decide_eq_true h
  · split at h
    · have:=of_decide_eq_true h;omega
    · split at h
      · have:=of_decide_eq_true h;omega
      · split at h
        · have:=of_decide_eq_true h;omega
        · split at h
          · have:=of_decide_eq_true h;omega
          · have:=of_decide_eq_true h;omega
theorem wtNods_ok {l : List Nod} (h : wtNods l≤1048576) : l.length≤1048576∧∀ x ∈ l,x.text.size≤1048576∧x.labels.length≤1048576∧∀ y ∈ x.labels,y.size≤1048576:=by
  unfold wtNods at h
  refine ⟨by omega,fun x hx=>?_⟩
  have h1:=sumOf_mem wtNod hx
  have h2 : wtNod x = x.text.size + wtSs x.labels:=rfl
  exact ⟨by omega,wtSs_len (by omega),wtSs_size (by omega)⟩
theorem mem_getD {l : List Int} {i : Nat} (h : i < l.length) : l.getD i default ∈ l:=getD_mem h
set_option maxHeartbeats 4000000 in
theorem specTree_m (t : List Nod) (ht : t.length≤1048576) (hx : ∀ x ∈ t,x.text.size≤1048576∧x.labels.length≤1048576∧∀ y ∈ x.labels,y.size≤1048576) : Meets Try.prog 48 [(false,[encNods t])] [(false,[.sc (.bool (treeB t))],true)]:=by
  have hI:=l1In_m (t.length : Int) 1 200
  have b1 : ∀ {a b : Bool},a = b→[DV.sc (.bool a)] = [.sc (.bool b)]:=fun h=>by rw [h]
  refine meets_upf Try.func48 u_spec_IsTree_g rfl ?_;simp only [u_spec_IsTree_u]
  simp only [encNods]
  simp (disch:=first | omega | (simp only [lnA];omega) | simp only [lnB,Nat.reduceAdd]) only [go_sem,↓reduceIte,Nat.reduceAdd,reduceNeg,Int.reduceAdd,reduceSub,reduceMul,reduceLT,reduceLE,reduceEq,reduceToNat,Nat.reduceBEq,nat1,true_and]
  refine cl_ok hI rfl ?_
  by_cases hn : 1≤(t.length : Int)∧(t.length : Int)≤200
  rotate_left
  · simp (disch:=first | omega | (simp only [lnA];omega) | simp only [lnB,Nat.reduceAdd]) only [go_sem,↓reduceIte,Nat.reduceAdd,reduceNeg,Int.reduceAdd,reduceSub,reduceMul,reduceLT,reduceLE,reduceEq,reduceToNat,Nat.reduceBEq,nat1,hn]
    exact ret_b (by unfold treeB;rw [decide_eq_false (by omega)];rfl)
  simp (disch:=first | omega | (simp only [lnA];omega) | simp only [lnB,Nat.reduceAdd]) only [go_sem,↓reduceIte,Nat.reduceAdd,reduceNeg,Int.reduceAdd,reduceSub,reduceMul,reduceLT,reduceLE,reduceEq,reduceToNat,Nat.reduceBEq,nat1,hn]
  refine lp (fun s : Nat × List Int=>[.sc (.int .i64 (s.1 : Nat)),.sl 3 1 (s.2.map encZ)]) (fun s=>s.1≤t.length∧stkT t s.1 = some s.2) (fun s=>t.length - s.1) (0,[]) rfl ⟨by simp,rfl⟩ ?_
  rintro ⟨i,s⟩ ⟨g1,g2⟩
  simp only at g1 g2 ⊢
  obtain ⟨v1,v2⟩:=stkT_inv g2
  simp only [u_spec_IsTree_l3]
  by_cases hlt : i < t.length
  · have hno:=tree_no hlt g2
    have hst : stkT t (i + 1) = stepT t i s:=by simp only [stkT,g2]
    unfold stepT at hno hst
    obtain ⟨z1,z2,z3⟩:=hx _ (getD_mem hlt)
    have hS:=specShape_m (t.getD i default).kind (t.getD i default).num (t.getD i default).kids (t.getD i default).text (t.getD i default).labels z1 z2 z3
    simp only [encNod,encSs] at hS
    simp (disch:=first | omega | (simp only [lnA];omega) | simp only [lnB,Nat.reduceAdd]) only [go_sem,↓reduceIte,Nat.reduceAdd,reduceNeg,Int.reduceAdd,reduceSub,reduceMul,reduceLT,reduceLE,reduceEq,reduceToNat,Nat.reduceBEq,nat1,ix_Nod,encNod,encSs]
    refine br_if (fun hbr=>?_) (fun hbr=>absurd hbr (by omega))
    simp (disch:=first | omega | (simp only [lnA];omega) | simp only [lnB,Nat.reduceAdd]) only [go_sem,↓reduceIte,Nat.reduceAdd,reduceNeg,Int.reduceAdd,reduceSub,reduceMul,reduceLT,reduceLE,reduceEq,reduceToNat,Nat.reduceBEq,nat1,ix_Nod,encNod,encSs]
    refine jn_eq [.sc (.bool (badT t i s))] ?_ ?_
    · refine cl_ok hS rfl ?_
      unfold badT nB
      cases hnb : nodB (t.getD i default).kind (t.getD i default).num (t.getD i default).text (t.getD i default).labels (t.getD i default).kids
      · repeat' (first | (with_reducible first | refine jn_in ?_ | refine cl_ok (by assumption) rfl ?_ | refine cl_okP (by assumption) rfl ?_ | refine br_x (fun hbr=>?_) fun hbr=>?_) | simp (disch:=first | omega | (simp only [lnA];omega) | simp only [lnB,Nat.reduceAdd]) only [go_sem,↓reduceIte,Nat.reduceAdd,reduceNeg,Int.reduceAdd,reduceSub,reduceMul,reduceLT,reduceLE,reduceEq,reduceToNat,Nat.reduceBEq,nat1,Bool.false_and])
        all_goals first | exact b1 (by simp [*];done) | skip
      · by_cases h200 : (t.getD i default).kids≤200
        · repeat' (first | (with_reducible first | refine jn_in ?_ | refine cl_ok (by assumption) rfl ?_ | refine cl_okP (by assumption) rfl ?_ | refine br_x (fun hbr=>?_) fun hbr=>?_) | simp (disch:=first | omega | (simp only [lnA];omega) | simp only [lnB,Nat.reduceAdd]) only [go_sem,↓reduceIte,Nat.reduceAdd,reduceNeg,Int.reduceAdd,reduceSub,reduceMul,reduceLT,reduceLE,reduceEq,reduceToNat,Nat.reduceBEq,nat1,h200])
          all_goals first
            | omega
            | exact b1 (by simp [-List.getD_eq_getElem?_getD, *];done)
            | skip
        · repeat' (first | (with_reducible first | refine jn_in ?_ | refine cl_ok (by assumption) rfl ?_ | refine cl_okP (by assumption) rfl ?_ | refine br_x (fun hbr=>?_) fun hbr=>?_) | simp (disch:=first | omega | (simp only [lnA];omega) | simp only [lnB,Nat.reduceAdd]) only [go_sem,↓reduceIte,Nat.reduceAdd,reduceNeg,Int.reduceAdd,reduceSub,reduceMul,reduceLT,reduceLE,reduceEq,reduceToNat,Nat.reduceBEq,nat1,h200])
          all_goals first
            | omega
            | exact b1 (by rw [decide_eq_true (p:=(t.getD i default).kids > (s.length : Int)) (by omega)];simp)
            | skip
    simp only [u_spec_IsTree_j2]
    cases hbad : badT t i s
    rotate_left
    · rw [hbad] at hno
      have hno:=hno rfl
      repeat' (first | (with_reducible first | refine jn_in ?_ | refine cl_ok (by assumption) rfl ?_ | refine cl_okP (by assumption) rfl ?_ | refine br_x (fun hbr=>?_) fun hbr=>?_) | simp (disch:=first | omega | (simp only [lnA];omega) | simp only [lnB,Nat.reduceAdd]) only [go_sem,↓reduceIte,Nat.reduceAdd,reduceNeg,Int.reduceAdd,reduceSub,reduceMul,reduceLT,reduceLE,reduceEq,reduceToNat,Nat.reduceBEq,nat1,true_and])
      exact ret_b hno
    rw [hbad] at hno hst
    simp only [Bool.false_eq_true,if_false] at hno hst
    unfold badT at hbad
    simp only [Bool.or_eq_false_iff,Bool.not_eq_false',decide_eq_false_iff_not] at hbad
    obtain ⟨hb1,hb2,-⟩:=hbad
    have hk0:=nB_kids hb1
    generalize hxx : t.getD i default = x at *
    obtain ⟨kN,hkN⟩:=Int.eq_ofNat_of_zero_le hk0
    rw [hkN,Int.toNat_natCast] at hst hno
    rw [hkN] at hb2
    have e1 : (s.length : Int) - (kN : Int) = ((s.length - kN : Nat) : Int):=by omega
    simp (disch:=first | omega | (simp only [lnA];omega) | simp only [lnB,Nat.reduceAdd]) only [go_sem,↓reduceIte,Nat.reduceAdd,reduceNeg,Int.reduceAdd,reduceSub,reduceMul,reduceLT,reduceLE,reduceEq,reduceToNat,Nat.reduceBEq,nat1,hkN,e1]
    refine lp (fun j : Nat=>[.sc (.int .i64 ((s.length - kN + j : Nat) : Int))]) (fun j=>j≤kN∧allB (empT t x s) j = true) (fun j=>kN - j) 0 rfl ⟨by omega,rfl⟩ ?_
    rintro j ⟨w1,w2⟩
    simp only [u_spec_IsTree_l1]
    by_cases hj : j < kN
    · obtain ⟨m1,m2⟩:=v2 _ (mem_getD (l:=s) (i:=s.length - kN + j) (by omega))
      have hEj : empT t x s j = !(decide (knd t s (s.length - kN + j) = 1) && (decide (x.kind ≠ 8) || decide (j + 1 = kN))):=by unfold empT;rw [hkN];rfl
      have hkd : (t.getD (s.getD (s.length - kN + j) default).toNat default).kind = knd t s (s.length - kN + j):=rfl
      have ret0 : empT t x s j = false→treeB t = false:=fun h=>hno (by rw [allB_no hj h];rfl)
      repeat' (first | (with_reducible first | refine jn_in ?_ | refine cl_ok (by assumption) rfl ?_ | refine cl_okP (by assumption) rfl ?_ | refine br_x (fun hbr=>?_) fun hbr=>?_) | simp (disch:=first | omega | (simp only [lnA];omega) | simp only [lnB,Nat.reduceAdd]) only [go_sem,↓reduceIte,Nat.reduceAdd,reduceNeg,Int.reduceAdd,reduceSub,reduceMul,reduceLT,reduceLE,reduceEq,reduceToNat,Nat.reduceBEq,nat1,ix_z,ix_Nod,encNod,encSs,hkd,u_spec_IsTree_j0])
      all_goals first
        | (exfalso;omega)
        | exact ret_b (ret0 (by rw [hEj,decide_eq_true ‹knd t s (s.length - kN + j) = 1›,decide_eq_false (p:=x.kind ≠ 8) (fun h=>h ‹x.kind = 8›),decide_eq_true (p:=j + 1 = kN) (by omega)];rfl))
        | exact ret_b (ret0 (by rw [hEj,decide_eq_true ‹knd t s (s.length - kN + j) = 1›,decide_eq_true (p:=x.kind ≠ 8) ‹¬ x.kind = 8›];rfl))
        | exact ⟨j + 1,rfl,⟨hj,allB_step w2 (by rw [hEj,decide_eq_true ‹knd t s (s.length - kN + j) = 1›,decide_eq_false (p:=x.kind ≠ 8) (fun h=>h ‹x.kind = 8›),decide_eq_false (p:=j + 1 = kN) (by omega)];rfl)⟩,by omega⟩
        | exact ⟨j + 1,rfl,⟨hj,allB_step w2 (by rw [hEj,decide_eq_false (p:=knd t s (s.length - kN + j) = 1) ‹_›];rfl)⟩,by omega⟩
        | skip
    · obtain rfl : kN = j:=by omega
      rw [if_pos w2] at hst
      have hsl : (s.take (s.length - kN)).length≤1048576:=by rw [List.length_take];omega
      repeat' (first | (with_reducible first | refine jn_in ?_ | refine cl_ok (by assumption) rfl ?_ | refine cl_okP (by assumption) rfl ?_ | refine br_x (fun hbr=>?_) fun hbr=>?_) | simp (disch:=first | omega | (simp only [lnA];omega) | simp only [lnB,Nat.reduceAdd]) only [go_sem,↓reduceIte,Nat.reduceAdd,reduceNeg,Int.reduceAdd,reduceSub,reduceMul,reduceLT,reduceLE,reduceEq,reduceToNat,Nat.reduceBEq,nat1,hkN,e1])
      all_goals first
        | (exfalso;omega)
        | exact ⟨(i + 1,s.take (s.length - kN) ++ [(i : Int)]),rfl,⟨hlt,hst⟩,by simp only;omega⟩
        | trace_state
  · obtain rfl : i = t.length:=by omega
    have hT : treeB t = (decide (s.length = 1) && !decide ((t.getD (t.length - 1) default).kind = 1)):=by unfold treeB;rw [decide_eq_true (by omega),g2];rfl
    rw [hT]
    have e2 : ((t.length : Int) - 1).toNat = t.length - 1:=by omega
    repeat' (first | (with_reducible first | refine jn_in ?_ | refine cl_ok (by assumption) rfl ?_ | refine cl_okP (by assumption) rfl ?_ | refine br_x (fun hbr=>?_) fun hbr=>?_) | simp (disch:=first | omega | (simp only [lnA];omega) | simp only [lnB,Nat.reduceAdd]) only [go_sem,↓reduceIte,Nat.reduceAdd,reduceNeg,Int.reduceAdd,reduceSub,reduceMul,reduceLT,reduceLE,reduceEq,reduceToNat,Nat.reduceBEq,nat1,ix_Nod,encNod,encSs,e2])
    all_goals first
      | omega
      | exact ret_b (by rw [decide_eq_true (p:=s.length = 1) (by omega),Bool.true_and])
      | exact ret_b (by rw [decide_eq_false (p:=s.length = 1) (by omega),Bool.false_and])
      | trace_state
def lenT (t : List Nod) (j : Nat) : Nat:=match stkT t j with | some s=>s.length | none=>0
theorem tree_all {t : List Nod} (h : treeB t = true) {j : Nat} (hj : j≤t.length) : ∃ s,stkT t j = some s:=by
  cases h' : stkT t j with
  | some s=>exact ⟨s,rfl⟩
  | none =>
    unfold treeB at h
    rw [stkT_none h' hj] at h
    simp at h
theorem tree_len {t : List Nod} (h : treeB t = true) : 1≤t.length∧t.length≤200:=by
  unfold treeB at h
  simp only [Bool.and_eq_true,decide_eq_true_eq] at h
  exact h.1
theorem lenT_0 (t : List Nod) : lenT t 0 = 0:=rfl
theorem lenT_le (t : List Nod) (j : Nat) : lenT t j≤j:=by
  unfold lenT
  cases h : stkT t j with
  | none=>exact Nat.zero_le _
  | some s=>exact (stkT_inv h).1
theorem lenT_step {t : List Nod} (h : treeB t = true) {j : Nat} (hj : j < t.length) : ∃ k : Nat,(t.getD j default).kids = (k : Int)∧k≤lenT t j∧lenT t (j + 1) + k = lenT t j + 1∧nB (t.getD j default) = true:=by
  obtain ⟨s,hs⟩:=tree_all h (Nat.le_of_lt hj)
  obtain ⟨s',hs'⟩:=tree_all h (j:=j + 1) hj
  have hs2:=hs'
  simp only [stkT,hs] at hs2
  unfold stepT at hs2
  split at hs2
  · cases hs2
  · rename_i hb
    split at hs2
    · injection hs2 with hs2
      unfold badT at hb
      simp only [Bool.not_eq_true,Bool.or_eq_false_iff,Bool.not_eq_false',decide_eq_false_iff_not] at hb
      obtain ⟨hb1,hb2,-⟩:=hb
      have hk0:=nB_kids hb1
      obtain ⟨k,hk⟩:=Int.eq_ofNat_of_zero_le hk0
      refine ⟨k,hk,?_,?_,hb1⟩
      · unfold lenT;rw [hs];simp only;omega
      · unfold lenT;rw [hs,hs'];simp only
        rw [← hs2,hk,List.length_append,List.length_take]
        simp;omega
    · cases hs2
theorem lenT_pos {t : List Nod} (h : treeB t = true) {j : Nat} (hj : j < t.length) : 1≤lenT t (j + 1):=by
  obtain ⟨k,-,h1,h2,-⟩:=lenT_step h hj
  omega
def stF (L : Nat→Nat) (c : Nat) : Nat→Nat
  | 0=>0
  | j + 1=>if L (j + 1) + 1 = c then j + 1 else stF L c j
theorem stF_le (L : Nat→Nat) (c : Nat) : ∀ j,stF L c j≤j
  | 0=>Nat.le_refl _
  | j + 1=>by
    unfold stF
    split
    · exact Nat.le_refl _
    · have:=stF_le L c j;omega
theorem stF_hit {L : Nat→Nat} {c j : Nat} (h : L j + 1 = c) : stF L c j = j:=by
  cases j with
  | zero=>rfl
  | succ j=>unfold stF;rw [if_pos h]
theorem stF_miss {L : Nat→Nat} {c j : Nat} (h : L j + 1 ≠ c) : stF L c j = stF L c (j - 1):=by
  cases j with
  | zero=>rfl
  | succ j=>rw [stF,if_neg h];rfl
def startT (t : List Nod) (i : Nat) : Nat:=stF (lenT t) (lenT t (i + 1)) i
theorem startT_le (t : List Nod) (i : Nat) : startT t i≤i:=stF_le _ _ _
theorem stF_at {t : List Nod} (h : treeB t = true) {c : Nat} (hc : 1≤c) : ∀ {j : Nat},j < t.length→c≤lenT t (j + 1)→lenT t (stF (lenT t) c j) + 1 = c
  | 0,hj,hl=>by
    obtain ⟨k,h1,h2,h3,-⟩:=lenT_step h hj
    rw [lenT_0] at h2 h3
    simp only [stF,lenT_0];omega
  | j + 1,hj,hl=>by
    by_cases he : lenT t (j + 1) + 1 = c
    · rw [stF_hit he];exact he
    · rw [stF_miss he]
      obtain ⟨k,h1,h2,h3,-⟩:=lenT_step h hj
      exact stF_at h hc (j:=j) (by omega) (by omega)
theorem startT_len {t : List Nod} (h : treeB t = true) {i : Nat} (hi : i < t.length) : lenT t (startT t i) + 1 = lenT t (i + 1):=stF_at h (lenT_pos h hi) hi (Nat.le_refl _)
def rootsT (t : List Nod) : Nat→Nat→List Int
  | _,0=>[]
  | e,n + 1=>rootsT t (startT t (e - 1)) n ++ [((e - 1 : Nat) : Int)]
def kidsT (t : List Nod) (i : Nat) : List Int:=rootsT t i (t.getD i default).kids.toNat
theorem rootsT_len (t : List Nod) : ∀ e n,(rootsT t e n).length = n
  | _,0=>rfl
  | e,n + 1=>by rw [rootsT,List.length_append,rootsT_len t];rfl
theorem rootsT_mem {t : List Nod} (h : treeB t = true) : ∀ {e n : Nat},e≤t.length→n≤lenT t e→∀ x ∈ rootsT t e n,0≤x∧x < (e : Int)
  | e,0,_,_,x,hx=>by simp [rootsT] at hx
  | e,n + 1,he,hn,x,hx=>by
    have h0 : e ≠ 0:=by rintro rfl;rw [lenT_0] at hn;omega
    obtain ⟨e,rfl⟩:=Nat.exists_eq_succ_of_ne_zero h0
    rw [rootsT,Nat.succ_sub_one] at hx
    simp only [Nat.succ_eq_add_one] at he hn ⊢
    have h1:=startT_len h (i:=e) (by omega)
    have h2:=startT_le t e
    rcases List.mem_append.1 hx with hx | hx
    · have:=rootsT_mem h (e:=startT t e) (n:=n) (by omega) (by omega) x hx
      omega
    · rw [List.mem_singleton.1 hx];omega
theorem kidsT_mem {t : List Nod} (h : treeB t = true) {i : Nat} (hi : i < t.length) : ∀ x ∈ kidsT t i,0≤x∧x < (i : Int):=by
  obtain ⟨k,h1,h2,-,-⟩:=lenT_step h hi
  unfold kidsT
  rw [h1]
  exact rootsT_mem h (by omega) h2
theorem kidsT_len {t : List Nod} {i k : Nat} (hk : (t.getD i default).kids = (k : Int)) : (kidsT t i).length = k:=by
  unfold kidsT
  rw [hk,rootsT_len];rfl
def subT (t : List Nod) (i : Nat) : List Nod:=(t.drop (startT t i)).take (i + 1 - startT t i)
def putB (l : List ByteArray) (s : ByteArray) : List ByteArray:=if hasB l s = true then l else l ++ [s]
theorem putB_len (l : List ByteArray) (s : ByteArray) : (putB l s).length≤l.length + 1:=by
  unfold putB
  split
  · omega
  · simp
def c1 (x : Nod) : Nat:=1 + x.labels.length
theorem tree_nB {t : List Nod} (h : treeB t = true) {i : Nat} (hi : i < t.length) : nB (t.getD i default) = true:=by
  obtain ⟨k,-,-,-,h⟩:=lenT_step h hi
  exact h
theorem nB_name {x : Nod} (h : nB x = true) (hk : namK x.kind = true) : nameB x.text = true:=by
  unfold nB nodB at h
  simp only [Bool.and_eq_true] at h
  have h:=h.2.2.2.1
  unfold txtB at h
  rw [if_pos (.inr hk)] at h
  unfold namK at hk
  have hk:=of_decide_eq_true hk
  unfold txtR at h
  rw [if_neg (by rintro e;rw [e] at hk;revert hk;decide),if_neg (by rintro e;rw [e] at hk;revert hk;decide),if_neg (by rintro e;rw [e] at hk;revert hk;decide),if_neg (by rintro e;rw [e] at hk;revert hk;decide)] at h
  exact h
theorem name_ne {s : ByteArray} (h : nameB s = true) : s ≠ ⟨#[]⟩:=by
  rintro rfl
  have:=nameB_size h
  have e : (⟨#[]⟩ : ByteArray).size = 0:=rfl
  omega
theorem flat_s (l : List ByteArray) : Flat (l.map encS).flatten:=flat_map (fun x d hd=>by simp [encS] at hd;exact ⟨_,hd⟩) l
theorem implPut_m (l : List ByteArray) (s : ByteArray) (hl : l.length≤10000000000) : MeetsP Try.prog 56 [(false,[encSs l]),(false,[.sc (.string s)])] [(false,[encSs (putB l s)],true)]:=by
  have h:=hasText_m 9 l s (by omega)
  refine meets_uppf Try.func56 u_impl_addText_g rfl (flat_s l) (by simp) ?_;simp only [u_impl_addText_u]
  simp only [encSs]
  unfold putB
  cases hb : hasB l s
  · rw [hb] at h
    repeat' (first | (with_reducible first | refine jn_in ?_ | refine cl_ok (by assumption) rfl ?_ | refine cl_okP (by assumption) rfl ?_ | refine br_x (fun hbr=>?_) fun hbr=>?_) | simp (disch:=first | omega | (simp only [lnA];omega) | simp only [lnB,Nat.reduceAdd]) only [go_sem,↓reduceIte,Nat.reduceAdd,reduceNeg,Int.reduceAdd,reduceSub,reduceMul,reduceLT,reduceLE,reduceEq,reduceToNat,Nat.reduceBEq,nat1,true_and])
    rfl
  · rw [hb] at h
    repeat' (first | (with_reducible first | refine jn_in ?_ | refine cl_ok (by assumption) rfl ?_ | refine cl_okP (by assumption) rfl ?_ | refine br_x (fun hbr=>?_) fun hbr=>?_) | simp (disch:=first | omega | (simp only [lnA];omega) | simp only [lnB,Nat.reduceAdd]) only [go_sem,↓reduceIte,Nat.reduceAdd,reduceNeg,Int.reduceAdd,reduceSub,reduceMul,reduceLT,reduceLE,reduceEq,reduceToNat,Nat.reduceBEq,nat1,true_and])
    rfl
theorem specPut_m (l : List ByteArray) (s : ByteArray) (hl : l.length≤10000000000) (hs : s ≠ ⟨#[]⟩) : MeetsP Try.prog 85 [(false,[encSs l]),(false,[.sc (.string s)])] [(false,[encSs (putB l s)],true)]:=by
  have h:=l1Has_m 9 l s (by omega)
  refine meets_uppf Try.func85 u_spec_l19Put_g rfl (flat_s l) (by simp) ?_;simp only [u_spec_l19Put_u]
  simp only [encSs]
  unfold putB
  cases hb : hasB l s
  · rw [hb] at h
    repeat' (first | (with_reducible first | refine jn_in ?_ | refine cl_ok (by assumption) rfl ?_ | refine cl_okP (by assumption) rfl ?_ | refine br_x (fun hbr=>?_) fun hbr=>?_) | simp (disch:=first | omega | (simp only [lnA];omega) | simp only [lnB,Nat.reduceAdd]) only [go_sem,↓reduceIte,Nat.reduceAdd,reduceNeg,Int.reduceAdd,reduceSub,reduceMul,reduceLT,reduceLE,reduceEq,reduceToNat,Nat.reduceBEq,nat1,hs])
    all_goals first | rfl | contradiction
  · rw [hb] at h
    repeat' (first | (with_reducible first | refine jn_in ?_ | refine cl_ok (by assumption) rfl ?_ | refine cl_okP (by assumption) rfl ?_ | refine br_x (fun hbr=>?_) fun hbr=>?_) | simp (disch:=first | omega | (simp only [lnA];omega) | simp only [lnB,Nat.reduceAdd]) only [go_sem,↓reduceIte,Nat.reduceAdd,reduceNeg,Int.reduceAdd,reduceSub,reduceMul,reduceLT,reduceLE,reduceEq,reduceToNat,Nat.reduceBEq,nat1,hs])
    all_goals first | rfl | contradiction
theorem wrap32 {z : Int} (h : 0≤z) (h2 : z < 4294967296) : IntKind.u32.wrap z = z:=by
  simp only [IntKind.wrap,IntKind.bits,IntKind.signed]
  simp;omega
theorem e_or32 {c : Bool} {a b : Nat} (ha : a < 4294967296) (hb : b < 4294967296) : eBin .or c (some (.sc (.int .u32 (a : Int)))) (some (.sc (.int .u32 (b : Int)))) = some [.sc (.int .u32 ((a ||| b : Nat) : Int))]:=by
  have h0 : a ||| b < 2 ^ 32:=Nat.or_lt_two_pow ha hb
  have h1 : (BitVec.ofInt 32 (a : Int) ||| BitVec.ofInt 32 (b : Int)).toNat = a ||| b:=by
    rw [BitVec.ofInt_natCast,BitVec.ofInt_natCast,BitVec.toNat_or,BitVec.toNat_ofNat,BitVec.toNat_ofNat,← Nat.or_mod_two_pow]
    exact Nat.mod_eq_of_lt (by omega)
  simp only [eBin,binG,intF,if_true,sc1]
  show some [DV.sc (.int .u32 (IntKind.u32.wrap ((BitVec.ofInt 32 (a : Int) ||| BitVec.ofInt 32 (b : Int)).toNat : Nat)))] = _
  rw [h1,wrap32 (by omega) (by omega)]
theorem e_and32 {c : Bool} {a : Nat} (ha : a < 4294967296) : eBin .and c (some (.sc (.int .u32 (a : Int)))) (some (.sc (.int .u32 1))) = some [.sc (.int .u32 ((a % 2 : Nat) : Int))]:=by
  have h1 : (BitVec.ofInt 32 (a : Int) &&& BitVec.ofInt 32 (1 : Int)).toNat = a % 2:=by
    rw [show (1 : Int) = ((1 : Nat) : Int) from rfl,BitVec.ofInt_natCast,BitVec.ofInt_natCast,BitVec.toNat_and,BitVec.toNat_ofNat,BitVec.toNat_ofNat,← Nat.and_mod_two_pow,Nat.and_one_is_mod]
    omega
  simp only [eBin,binG,intF,if_true,sc1]
  show some [DV.sc (.int .u32 (IntKind.u32.wrap ((BitVec.ofInt 32 (a : Int) &&& BitVec.ofInt 32 (1 : Int)).toNat : Nat)))] = _
  rw [h1,wrap32 (by omega) (by omega)]
def andN (a b : Nat) : Nat:=(BitVec.ofNat 32 a &&& ~~~ BitVec.ofNat 32 b).toNat
theorem andN_lt (a b : Nat) : andN a b < 4294967296:=(BitVec.ofNat 32 a &&& ~~~ BitVec.ofNat 32 b).isLt
theorem andN_bit {a b i : Nat} (hi : i < 32) : (andN a b).testBit i = (a.testBit i && !b.testBit i):=by
  unfold andN
  rw [BitVec.testBit_toNat,BitVec.getLsbD_and,BitVec.getLsbD_not,BitVec.getLsbD_ofNat,BitVec.getLsbD_ofNat]
  simp [hi]
theorem e_andN {c : Bool} {a b : Nat} : eBin .andNot c (some (.sc (.int .u32 (a : Int)))) (some (.sc (.int .u32 (b : Int)))) = some [.sc (.int .u32 ((andN a b : Nat) : Int))]:=by
  have h:=andN_lt a b
  simp only [eBin,binG,intF,if_true,sc1]
  show some [DV.sc (.int .u32 (IntKind.u32.wrap ((BitVec.ofInt 32 (a : Int) &&& ~~~ BitVec.ofInt 32 (b : Int)).toNat : Nat)))] = _
  rw [BitVec.ofInt_natCast,BitVec.ofInt_natCast]
  show some [DV.sc (.int .u32 (IntKind.u32.wrap ((andN a b : Nat) : Int)))] = _
  rw [wrap32 (by omega) (by omega)]
theorem e_shr32 {c : Bool} {k : IntKind} {a b : Nat} (hb : b≤32) : eBin .shr c (some (.sc (.int .u32 (a : Int)))) (some (.sc (.int k (b : Int)))) = some [.sc (.int .u32 ((a / 2 ^ b : Nat) : Int))]:=by
  have h1 : ¬ (b : Int) < 0:=by omega
  simp only [eBin,binG,intF,if_neg h1,sc1,IntKind.bits,Int.toNat_natCast,Nat.min_eq_left hb]
  have h2 : (2 : Int) ^ b = ((2 ^ b : Nat) : Int):=by simp
  rw [h2,Int.fdiv_eq_ediv_of_nonneg _ (Int.natCast_nonneg _)];rfl
theorem pow_lt32 {b : Nat} (hb : b < 32) : 2 ^ b < 4294967296:=Nat.pow_lt_pow_right (a:=2) (by decide) hb
theorem e_shl32 {c : Bool} {k : IntKind} {b : Nat} (hb : b < 32) : eBin .shl c (some (.sc (.int .u32 1))) (some (.sc (.int k (b : Int)))) = some [.sc (.int .u32 ((2 ^ b : Nat) : Int))]:=by
  have h1 : ¬ (b : Int) < 0:=by omega
  have h2 : (1 : Int) * 2 ^ b = ((2 ^ b : Nat) : Int):=by simp
  have h3:=pow_lt32 hb
  simp only [eBin,binG,intF,if_neg h1,sc1,IntKind.bits,Int.toNat_natCast,Nat.min_eq_left (Nat.le_of_lt hb),h2]
  rw [wrap32 (Int.natCast_nonneg _) (Int.ofNat_lt.2 h3)]
theorem bit_dec (a x : Nat) : (((a / 2 ^ x % 2 : Nat) : Int) = 1) ↔ a.testBit x = true:=by
  rw [← bit_tb];omega
theorem has_m (a x : Nat) (ha : a < 4294967296) (hx : x < 32) : Meets Try.prog 59 [(false,[.sc (.int .u32 (a : Int))]),(false,[.sc (.int .i64 (x : Int))])] [(false,[.sc (.bool (a.testBit x))],true)]:=by
  have e1:=@wrapu x (by omega)
  have e2:=@e_shr32 false .u64 a x (by omega)
  have hd : a / 2 ^ x≤a:=Nat.div_le_self _ _
  have e3:=@e_and32 false (a / 2 ^ x) (by omega)
  have e4 : decide (((a / 2 ^ x % 2 : Nat) : Int) = 1) = a.testBit x:=by
    have:=bit_dec a x
    cases h : a.testBit x
    · rw [h] at this;simp only [Bool.false_eq_true,iff_false] at this;exact decide_eq_false this
    · rw [h] at this;exact decide_eq_true (this.2 rfl)
  refine meets_upf Try.func59 u_impl_terms_has_g rfl ?_;simp only [u_impl_terms_has_u]
  repeat' (first | (with_reducible first | refine jn_in ?_ | refine cl_ok (by assumption) rfl ?_ | refine cl_okP (by assumption) rfl ?_ | refine br_x (fun hbr=>?_) fun hbr=>?_) | simp (disch:=first | omega | (simp only [lnA];omega) | simp only [lnB,Nat.reduceAdd]) only [go_sem,↓reduceIte,Nat.reduceAdd,reduceNeg,Int.reduceAdd,reduceSub,reduceMul,reduceLT,reduceLE,reduceEq,reduceToNat,Nat.reduceBEq,nat1,e1,e2,e3,e4])
  all_goals first | rfl | skip
theorem with_m (a x : Nat) (ha : a < 4294967296) (hx : x < 32) : Meets Try.prog 109 [(false,[.sc (.int .u32 (a : Int))]),(false,[.sc (.int .i64 (x : Int))])] [(false,[.sc (.int .u32 ((a ||| 2 ^ x : Nat) : Int))],true)]:=by
  have e1:=@wrapu x (by omega)
  have e2:=@e_shl32 false .u64 x hx
  have e3:=@e_or32 false a (2 ^ x) ha (pow_lt32 hx)
  refine meets_upf Try.func109 u_impl_terms_with_g rfl ?_;simp only [u_impl_terms_with_u]
  repeat' (first | (with_reducible first | refine jn_in ?_ | refine cl_ok (by assumption) rfl ?_ | refine cl_okP (by assumption) rfl ?_ | refine br_x (fun hbr=>?_) fun hbr=>?_) | simp (disch:=first | omega | (simp only [lnA];omega) | simp only [lnB,Nat.reduceAdd]) only [go_sem,↓reduceIte,Nat.reduceAdd,reduceNeg,Int.reduceAdd,reduceSub,reduceMul,reduceLT,reduceLE,reduceEq,reduceToNat,Nat.reduceBEq,nat1,e1,e2,e3])
  all_goals first | rfl | skip
def crY (a b x : Nat) (m : Nat) : Nat→Nat
  | 0=>m
  | y + 1=>if a.testBit x = true∧b.testBit y = true then crY a b x m y ||| 2 ^ (x ||| y) else crY a b x m y
def crX (a b : Nat) : Nat→Nat
  | 0=>0
  | x + 1=>crY a b x (crX a b x) 32
def crs (a b : Nat) : Nat:=crX a b 32
theorem crY_lt {a b x m : Nat} (hx : x < 32) (hm : m < 4294967296) : ∀ {y},y≤32→crY a b x m y < 4294967296
  | 0,_=>hm
  | y + 1,hy=>by
    have ih:=crY_lt (a:=a) (b:=b) hx hm (y:=y) (by omega)
    rw [crY]
    split
    · exact Nat.or_lt_two_pow (n:=32) ih (pow_lt32 (Nat.or_lt_two_pow (n:=5) hx (by omega)))
    · exact ih
theorem crX_lt {a b : Nat} : ∀ {x},x≤32→crX a b x < 4294967296
  | 0,_=>by show (0 : Nat) < 4294967296;omega
  | x + 1,hx=>crY_lt (by omega) (crX_lt (by omega)) (Nat.le_refl _)
theorem crY_bit {a b x m z : Nat} : ∀ {y},(crY a b x m y).testBit z = true ↔ m.testBit z = true ∨ ∃ y',y' < y∧a.testBit x = true∧b.testBit y' = true∧x ||| y' = z
  | 0=>by simp [crY]
  | y + 1=>by
    rw [crY]
    split
    · rename_i h
      rw [Nat.testBit_or,Bool.or_eq_true,crY_bit,Nat.testBit_two_pow,decide_eq_true_eq]
      constructor
      · rintro ((h1 | ⟨y',h1,h2⟩) | h1)
        · exact .inl h1
        · exact .inr ⟨y',by omega,h2⟩
        · exact .inr ⟨y,by omega,h.1,h.2,h1⟩
      · rintro (h1 | ⟨y',h1,h2,h3,h4⟩)
        · exact .inl (.inl h1)
        · by_cases e : y' = y
          · subst e;exact .inr h4
          · exact .inl (.inr ⟨y',by omega,h2,h3,h4⟩)
    · rename_i h
      rw [crY_bit]
      constructor
      · rintro (h1 | ⟨y',h1,h2⟩)
        · exact .inl h1
        · exact .inr ⟨y',by omega,h2⟩
      · rintro (h1 | ⟨y',h1,h2,h3,h4⟩)
        · exact .inl h1
        · by_cases e : y' = y
          · subst e;exact absurd ⟨h2,h3⟩ h
          · exact .inr ⟨y',by omega,h2,h3,h4⟩
theorem crX_bit {a b z : Nat} : ∀ {x},(crX a b x).testBit z = true ↔ ∃ x' y',x' < x∧y' < 32∧a.testBit x' = true∧b.testBit y' = true∧x' ||| y' = z
  | 0=>by simp [crX]
  | x + 1=>by
    rw [crX,crY_bit,crX_bit]
    constructor
    · rintro (⟨x',y',h1,h2⟩ | ⟨y',h1,h2⟩)
      · exact ⟨x',y',by omega,h2⟩
      · exact ⟨x,y',by omega,h1,h2⟩
    · rintro ⟨x',y',h1,h2,h3⟩
      by_cases e : x' = x
      · subst e;exact .inr ⟨y',h2,h3⟩
      · exact .inl ⟨x',y',by omega,h2,h3⟩
theorem crossed_m (a b : Nat) (ha : a < 4294967296) (hb : b < 4294967296) : Meets Try.prog 110 [(false,[.sc (.int .u32 (a : Int))]),(false,[.sc (.int .u32 (b : Int))])] [(false,[.sc (.int .u32 ((crs a b : Nat) : Int))],true)]:=by
  refine meets_upf Try.func110 u_impl_crossed_g rfl ?_;simp only [u_impl_crossed_u]
  simp (disch:=first | omega | (simp only [lnA];omega) | simp only [lnB,Nat.reduceAdd]) only [go_sem,↓reduceIte,Nat.reduceAdd,reduceNeg,Int.reduceAdd,reduceSub,reduceMul,reduceLT,reduceLE,reduceEq,reduceToNat,Nat.reduceBEq,nat1,true_and]
  refine lp_n 32 (fun x=>[.sc (.int .i64 x),.sc (.int .u32 (crX a b x : Nat))]) rfl fun x hx=>?_
  simp only [u_impl_crossed_l2]
  by_cases hlt : x < 32
  · simp (disch:=first | omega | (simp only [lnA];omega) | simp only [lnB,Nat.reduceAdd]) only [go_sem,↓reduceIte,Nat.reduceAdd,reduceNeg,Int.reduceAdd,reduceSub,reduceMul,reduceLT,reduceLE,reduceEq,reduceToNat,Nat.reduceBEq,nat1,true_and]
    refine br_if (fun hbr=>?_) (fun hbr=>?_)
    rotate_left
    · omega
    have hm:=crX_lt (a:=a) (b:=b) (x:=x) (by omega)
    have hs : crX a b (x + 1) = crY a b x (crX a b x) 32:=rfl
    have hax:=has_m a x ha hlt
    rw [hs]
    generalize crX a b x = m at *
    simp (disch:=first | omega | (simp only [lnA];omega) | simp only [lnB,Nat.reduceAdd]) only [go_sem,↓reduceIte,Nat.reduceAdd,reduceNeg,Int.reduceAdd,reduceSub,reduceMul,reduceLT,reduceLE,reduceEq,reduceToNat,Nat.reduceBEq,nat1,true_and]
    refine lp_n 32 (fun y=>[.sc (.int .i64 y),.sc (.bool (decide ((x : Int) < 32))),.sc (.int .i64 x),.sc (.int .u32 (crY a b x m y : Nat))]) rfl fun y hy=>?_
    simp only [u_impl_crossed_l1]
    by_cases hly : y < 32
    · have hby:=has_m b y hb hly
      have hc:=crY_lt (a:=a) (b:=b) hlt hm hy
      have hor : x ||| y < 2 ^ 5:=Nat.or_lt_two_pow (n:=5) hlt hly
      have hw:=with_m (crY a b x m y) (x ||| y) hc hor
      have e1:=@e_or false x y (by omega) (by omega)
      by_cases hab : a.testBit x = true∧b.testBit y = true
      · have hcs : crY a b x m (y + 1) = crY a b x m y ||| 2 ^ (x ||| y):=by rw [crY,if_pos hab]
        rw [hab.1] at hax;rw [hab.2] at hby;rw [hcs]
        repeat' (first | (with_reducible first | refine jn_in ?_ | refine cl_ok (by assumption) rfl ?_ | refine cl_okP (by assumption) rfl ?_ | refine br_x (fun hbr=>?_) fun hbr=>?_) | simp (disch:=first | omega | (simp only [lnA];omega) | simp only [lnB,Nat.reduceAdd]) only [go_sem,↓reduceIte,Nat.reduceAdd,reduceNeg,Int.reduceAdd,reduceSub,reduceMul,reduceLT,reduceLE,reduceEq,reduceToNat,Nat.reduceBEq,nat1,e1,u_impl_crossed_j0])
        all_goals first | omega | exact ⟨rfl,hly⟩ | skip
      · have hcs : crY a b x m (y + 1) = crY a b x m y:=by rw [crY,if_neg hab]
        rw [hcs]
        cases hx1 : a.testBit x
        · rw [hx1] at hax
          repeat' (first | (with_reducible first | refine jn_in ?_ | refine cl_ok (by assumption) rfl ?_ | refine cl_okP (by assumption) rfl ?_ | refine br_x (fun hbr=>?_) fun hbr=>?_) | simp (disch:=first | omega | (simp only [lnA];omega) | simp only [lnB,Nat.reduceAdd]) only [go_sem,↓reduceIte,Nat.reduceAdd,reduceNeg,Int.reduceAdd,reduceSub,reduceMul,reduceLT,reduceLE,reduceEq,reduceToNat,Nat.reduceBEq,nat1,u_impl_crossed_j0])
          all_goals first | omega | exact ⟨rfl,hly⟩ | skip
        · have hy1 : b.testBit y = false:=by
            cases h : b.testBit y
            · rfl
            · exact absurd ⟨hx1,h⟩ hab
          rw [hx1] at hax;rw [hy1] at hby
          repeat' (first | (with_reducible first | refine jn_in ?_ | refine cl_ok (by assumption) rfl ?_ | refine cl_okP (by assumption) rfl ?_ | refine br_x (fun hbr=>?_) fun hbr=>?_) | simp (disch:=first | omega | (simp only [lnA];omega) | simp only [lnB,Nat.reduceAdd]) only [go_sem,↓reduceIte,Nat.reduceAdd,reduceNeg,Int.reduceAdd,reduceSub,reduceMul,reduceLT,reduceLE,reduceEq,reduceToNat,Nat.reduceBEq,nat1,u_impl_crossed_j0])
          all_goals first | omega | exact ⟨rfl,hly⟩ | skip
    obtain rfl : y = 32:=by omega
    repeat' (first | (with_reducible first | refine jn_in ?_ | refine cl_ok (by assumption) rfl ?_ | refine cl_okP (by assumption) rfl ?_ | refine br_x (fun hbr=>?_) fun hbr=>?_) | simp (disch:=first | omega | (simp only [lnA];omega) | simp only [lnB,Nat.reduceAdd]) only [go_sem,↓reduceIte,Nat.reduceAdd,reduceNeg,Int.reduceAdd,reduceSub,reduceMul,reduceLT,reduceLE,reduceEq,reduceToNat,Nat.reduceBEq,nat1,true_and])
    all_goals first | omega | exact ⟨rfl,hlt⟩ | skip
  obtain rfl : x = 32:=by omega
  repeat' (first | (with_reducible first | refine jn_in ?_ | refine cl_ok (by assumption) rfl ?_ | refine cl_okP (by assumption) rfl ?_ | refine br_x (fun hbr=>?_) fun hbr=>?_) | simp (disch:=first | omega | (simp only [lnA];omega) | simp only [lnB,Nat.reduceAdd]) only [go_sem,↓reduceIte,Nat.reduceAdd,reduceNeg,Int.reduceAdd,reduceSub,reduceMul,reduceLT,reduceLE,reduceEq,reduceToNat,Nat.reduceBEq,nat1,true_and])
  all_goals first | omega | rfl
def nmN (l : List ByteArray) (x : Nod) : List ByteArray:=if x.kind = 7 then putB l x.text else l
def nmT (t : List Nod) (a n : Nat) : List ByteArray:=((t.drop a).take n).foldl nmN []
theorem nmT_step {t : List Nod} {a n : Nat} (h : a + n < t.length) : nmT t a (n + 1) = nmN (nmT t a n) (t.getD (a + n) default):=by
  unfold nmT
  rw [List.take_add_one,List.getElem?_drop,List.getElem?_eq_getElem h,List.foldl_append,List.getD_eq_getElem?_getD,List.getElem?_eq_getElem h];rfl
theorem nmT_len (t : List Nod) (a : Nat) : ∀ n,(nmT t a n).length≤n
  | 0=>by simp [nmT]
  | n + 1=>by
    by_cases h : a + n < t.length
    · rw [nmT_step h]
      have ih:=nmT_len t a n
      unfold nmN
      split
      · have:=putB_len (nmT t a n) (t.getD (a + n) default).text;omega
      · omega
    · have ih:=nmT_len t a n
      have e : (t.drop a).take (n + 1) = (t.drop a).take n:=by rw [List.take_of_length_le (by rw [List.length_drop];omega),List.take_of_length_le (by rw [List.length_drop];omega)]
      unfold nmT at ih ⊢
      rw [e];omega
theorem foldS_mem {z : ByteArray} : ∀ {l a : List ByteArray},z ∈ l.foldl insS a ↔ z ∈ a ∨ z ∈ l
  | [],a=>by simp
  | x :: l,a=>by rw [List.foldl_cons,foldS_mem,insS_mem,List.mem_cons,or_assoc]
theorem sortS_mem {l : List ByteArray} {z : ByteArray} : z ∈ sortS l ↔ z ∈ l:=by unfold sortS;rw [foldS_mem];simp
theorem foldS_last : ∀ {l a : List ByteArray},LastOk a→LastOk (l.foldl insS a)
  | [],a,h=>h
  | x :: l,a,h=>foldS_last (l:=l) (insS_last h)
theorem sortS_last (l : List ByteArray) : LastOk (sortS l):=foldS_last fun j hj=>by simp at hj
theorem put_sort {l : List ByteArray} {s : ByteArray} : (hasB l s = true∧putB (sortS l) s = sortS l∧sortS (putB l s) = sortS l) ∨ (putB (sortS l) s = sortS l ++ [s]∧sortS (putB l s) = insS (sortS l) s):=by
  by_cases h : s ∈ l
  · left
    have h1:=(hasB_iff l s).2 h
    have h2:=(hasB_iff (sortS l) s).2 (sortS_mem.2 h)
    refine ⟨h1,?_,?_⟩
    · unfold putB;rw [if_pos h2]
    · unfold putB;rw [if_pos h1]
  · right
    have h1 : ¬ hasB l s = true:=fun h'=>h ((hasB_iff l s).1 h')
    have h2 : ¬ hasB (sortS l) s = true:=fun h'=>h (sortS_mem.1 ((hasB_iff _ s).1 h'))
    unfold putB
    rw [if_neg h1,if_neg h2,sortS_snoc]
    exact ⟨rfl,rfl⟩
set_option maxHeartbeats 4000000 in
theorem l21Names_m (t : List Nod) (hT : treeB t = true) (a b : Nat) (hab : a≤b + 1) (hb : b < t.length) : Meets Try.prog 50 [(false,[encNods t]),(false,[.sc (.int .i64 a)]),(false,[.sc (.int .i64 b)])] [(false,[encSs (sortS (nmT t a (b + 1 - a)))],true)]:=by
  have htl:=tree_len hT
  refine meets_upf Try.func50 u_spec_l21Names_g rfl ?_;simp only [u_spec_l21Names_u]
  simp only [encNods,encSs]
  simp (disch:=first | omega | (simp only [lnA];omega) | simp only [lnB,Nat.reduceAdd]) only [go_sem,↓reduceIte,Nat.reduceAdd,reduceNeg,Int.reduceAdd,reduceSub,reduceMul,reduceLT,reduceLE,reduceEq,reduceToNat,Nat.reduceBEq,nat1,true_and]
  refine lp_n (b + 1 - a) (fun n=>[.sc (.int .i64 ((a + n : Nat) : Int)),.sl 9 1 ((sortS (nmT t a n)).map encS)]) rfl fun n hn=>?_
  simp only [u_spec_l21Names_l3]
  by_cases hlt : n < b + 1 - a
  rotate_left
  · obtain rfl : n = b + 1 - a:=by omega
    repeat' (first | (with_reducible first | refine jn_in ?_ | refine cl_ok (by assumption) rfl ?_ | refine cl_okP (by assumption) rfl ?_ | refine br_x (fun hbr=>?_) fun hbr=>?_) | simp (disch:=first | omega | (simp only [lnA];omega) | simp only [lnB,Nat.reduceAdd]) only [go_sem,↓reduceIte,Nat.reduceAdd,reduceNeg,Int.reduceAdd,reduceSub,reduceMul,reduceLT,reduceLE,reduceEq,reduceToNat,Nat.reduceBEq,nat1,true_and])
    all_goals first | omega | rfl
  have hi : a + n < t.length:=by omega
  have hst:=nmT_step hi
  have hnb:=tree_nB hT hi
  have hlen:=nmT_len t a n
  have hlast:=sortS_last (nmT t a n)
  have hsl:=sortS_len (nmT t a n)
  have hput:=@put_sort (nmT t a n) (t.getD (a + n) default).text
  have hnat : ((a + n : Nat) : Int) + 1 = ((a + (n + 1) : Nat) : Int):=by omega
  have hname:=fun hk=>name_ne (nB_name hnb hk)
  have hsp:=fun hs=>specPut_m (sortS (nmT t a n)) (t.getD (a + n) default).text (by omega) hs
  rw [hst]
  have hix:=ix_Nod (t:=73) (l:=t) (kd:=.i64) (z:=((a + n : Nat) : Int)) (by omega) (by omega)
  simp only [Int.toNat_natCast] at hix
  have hcase : ((t.getD (a + n) default).kind = 7∧∃ o,putB (sortS (nmT t a n)) (t.getD (a + n) default).text = o∧(o = sortS (nmT t a n)∧sortS (nmN (nmT t a n) (t.getD (a + n) default)) = sortS (nmT t a n) ∨ ∃ s,o = sortS (nmT t a n) ++ [s]∧sortS (nmN (nmT t a n) (t.getD (a + n) default)) = insS (sortS (nmT t a n)) s)) ∨ (¬ (t.getD (a + n) default).kind = 7∧sortS (nmN (nmT t a n) (t.getD (a + n) default)) = sortS (nmT t a n)):=by
    by_cases hk : (t.getD (a + n) default).kind = 7
    · refine .inl ⟨hk,_,rfl,?_⟩
      have e : nmN (nmT t a n) (t.getD (a + n) default) = putB (nmT t a n) (t.getD (a + n) default).text:=by unfold nmN;rw [if_pos hk]
      rw [e]
      rcases hput with ⟨-,h1,h2⟩ | ⟨h1,h2⟩
      · exact .inl ⟨h1,h2⟩
      · exact .inr ⟨_,h1,h2⟩
    · refine .inr ⟨hk,?_⟩
      unfold nmN;rw [if_neg hk]
  clear hput hst
  generalize sortS (nmN (nmT t a n) (t.getD (a + n) default)) = L' at *
  generalize sortS (nmT t a n) = l at *
  simp only [encNods,encSs] at hsp
  have hname2 : (t.getD (a + n) default).kind = 7→(t.getD (a + n) default).text ≠ ⟨#[]⟩:=fun hk=>hname (by unfold namK;rw [hk];decide)
  clear hname
  generalize t.getD (a + n) default = x at *
  obtain ⟨kd,nm,tx,lb,kc⟩:=x
  simp only [encNod,encSs] at hix hsp hname2 hcase
  simp (disch:=first | omega | (simp only [lnA];omega) | simp only [lnB,Nat.reduceAdd]) only [go_sem,↓reduceIte,Nat.reduceAdd,reduceNeg,Int.reduceAdd,reduceSub,reduceMul,reduceLT,reduceLE,reduceEq,reduceToNat,Nat.reduceBEq,nat1,hix]
  refine br_if (fun hbr=>?_) (fun hbr=>?_)
  rotate_left
  · omega
  simp (disch:=first | omega | (simp only [lnA];omega) | simp only [lnB,Nat.reduceAdd]) only [go_sem,↓reduceIte,Nat.reduceAdd,reduceNeg,Int.reduceAdd,reduceSub,reduceMul,reduceLT,reduceLE,reduceEq,reduceToNat,Nat.reduceBEq,nat1,hix]
  refine jn (fun vs=>∃ o,vs = [.sl 9 1 (o.map encS)]∧(o = l∧L' = l ∨ ∃ s,o = l ++ [s]∧L' = insS l s)) ?_ ?_
  · rcases hcase with ⟨hk,o,ho,hc⟩ | ⟨hk,hL⟩
    · have hcp:=hsp (hname2 hk)
      rw [ho] at hcp
      subst hk
      simp (disch:=first | omega | (simp only [lnA];omega) | simp only [lnB,Nat.reduceAdd]) only [go_sem,↓reduceIte,Nat.reduceAdd,reduceNeg,Int.reduceAdd,reduceSub,reduceMul,reduceLT,reduceLE,reduceEq,reduceToNat,Nat.reduceBEq,nat1,hix]
      refine cl_okP hcp rfl ?_
      simp (disch:=first | omega | (simp only [lnA];omega) | simp only [lnB,Nat.reduceAdd]) only [go_sem,↓reduceIte,Nat.reduceAdd,reduceNeg,Int.reduceAdd,reduceSub,reduceMul,reduceLT,reduceLE,reduceEq,reduceToNat,Nat.reduceBEq,nat1,true_and]
      exact ⟨o,rfl,hc⟩
    · have hd : decide (kd = 7) = false:=decide_eq_false hk
      rw [hd]
      simp (disch:=first | omega | (simp only [lnA];omega) | simp only [lnB,Nat.reduceAdd]) only [go_sem,↓reduceIte,Nat.reduceAdd,reduceNeg,Int.reduceAdd,reduceSub,reduceMul,reduceLT,reduceLE,reduceEq,reduceToNat,Nat.reduceBEq,nat1,hix]
      exact ⟨l,rfl,.inl ⟨rfl,hL⟩⟩
  rintro vs - ⟨o,rfl,ho⟩
  simp only [u_spec_l21Names_j2]
  generalize hB : DV.sc (Value.bool (decide (kd = 7))) = B1
  have hll : l.length≤200:=by omega
  rcases ho with ⟨e1,e2⟩ | ⟨s,rfl,rfl⟩
  · rw [e1,e2]
    clear e1 e2 hcase
    simp (disch:=first | omega | (simp only [lnA];omega) | simp only [lnB,Nat.reduceAdd]) only [go_sem,↓reduceIte,Nat.reduceAdd,reduceNeg,Int.reduceAdd,reduceSub,reduceMul,reduceLT,reduceLE,reduceEq,reduceToNat,Nat.reduceBEq,nat1,true_and]
    refine lp (fun _ : Unit=>[.sc (.int .i64 ((l.length : Int) - 1)),B1,.sc (.bool (decide (((a + n : Nat) : Int)≤b))),.sc (.int .i64 ((a + n : Nat) : Int)),.sl 9 1 (l.map encS)]) (fun _=>True) (fun _=>0) () rfl trivial ?_
    rintro ⟨⟩ -
    simp only [u_spec_l21Names_l1]
    by_cases h2 : 2≤l.length
    · obtain ⟨j,hj⟩ : ∃ j,l.length = j + 2:=⟨l.length - 2,by omega⟩
      have hd : Op.bytesLess (l.getD (j + 1) default).toList (l.getD j default).toList = false:=hlast j hj.symm
      have e1 : (l.length : Int) - 1 = ((j + 1 : Nat) : Int):=by omega
      have e2 : ((j + 1 : Nat) : Int) - 1 = (j : Nat):=by omega
      repeat' (first | (with_reducible first | refine jn_in ?_ | refine cl_ok (by assumption) rfl ?_ | refine cl_okP (by assumption) rfl ?_ | refine br_x (fun hbr=>?_) fun hbr=>?_) | simp (disch:=first | omega | (simp only [lnA];omega) | simp only [lnB,Nat.reduceAdd]) only [go_sem,↓reduceIte,Nat.reduceAdd,reduceNeg,Int.reduceAdd,reduceSub,reduceMul,reduceLT,reduceLE,reduceEq,reduceToNat,Nat.reduceBEq,nat1,e1,e2,hd,u_spec_l21Names_j0,hnat])
      all_goals first | omega | exact ⟨rfl,hlt⟩ | skip
    · repeat' (first | (with_reducible first | refine jn_in ?_ | refine cl_ok (by assumption) rfl ?_ | refine cl_okP (by assumption) rfl ?_ | refine br_x (fun hbr=>?_) fun hbr=>?_) | simp (disch:=first | omega | (simp only [lnA];omega) | simp only [lnB,Nat.reduceAdd]) only [go_sem,↓reduceIte,Nat.reduceAdd,reduceNeg,Int.reduceAdd,reduceSub,reduceMul,reduceLT,reduceLE,reduceEq,reduceToNat,Nat.reduceBEq,nat1,u_spec_l21Names_j0,hnat])
      all_goals first | omega | exact ⟨rfl,hlt⟩ | skip
  have hle : insS l s = mid l (posS l s l.length) s:=rfl
  rw [hle]
  have hpo:=posS_le l s l.length
  generalize hpe : posS l s l.length = p at *
  have hme:=mid_end l s
  have hla : ((l ++ [s]).length : Int) - 1 = (l.length : Nat):=by rw [List.length_append,List.length_singleton];omega
  simp (disch:=first | omega | (simp only [lnA];omega) | simp only [lnB,Nat.reduceAdd]) only [go_sem,↓reduceIte,Nat.reduceAdd,reduceNeg,Int.reduceAdd,reduceSub,reduceMul,reduceLT,reduceLE,reduceEq,reduceToNat,Nat.reduceBEq,nat1,hla]
  refine lp (fun k : Nat=>[.sc (.int .i64 k),B1,.sc (.bool (decide (((a + n : Nat) : Int)≤b))),.sc (.int .i64 ((a + n : Nat) : Int)),.sl 9 1 ((mid l k s).map encS)]) (fun k=>k≤l.length∧posS l s k = p) (fun k=>k) l.length (by rw [hme];rfl) ⟨Nat.le_refl _,hpe⟩ ?_
  rintro k ⟨hk,hkp⟩
  simp only [u_spec_l21Names_l1]
  have hml:=mid_len (x:=s) hk
  by_cases hk0 : 0 < k
  · obtain ⟨q,rfl⟩:=Nat.exists_eq_succ_of_ne_zero (Nat.pos_iff_ne_zero.1 hk0)
    simp only [Nat.succ_eq_add_one] at *
    have hq : (((q + 1 : Nat) : Int) - 1) = (q : Nat):=by omega
    have g1:=mid_get (x:=s) hk (q + 1)
    have g2:=mid_get (x:=s) hk q
    rw [if_neg (by omega),if_pos rfl] at g1
    rw [if_pos (by omega)] at g2
    have hst:=mid_step (x:=s) (show q < l.length by omega)
    have hdef : Op.bytesLess s.toList (l.getD q default).toList = lessS s (l.getD q default):=rfl
    generalize hM : mid l (q + 1) s = M at *
    cases ht : lessS s (l.getD q default)
    · rw [ht] at hdef
      have:=posS_f ht
      repeat' (first | (with_reducible first | refine jn_in ?_ | refine cl_ok (by assumption) rfl ?_ | refine cl_okP (by assumption) rfl ?_ | refine br_x (fun hbr=>?_) fun hbr=>?_) | simp (disch:=first | omega | (simp only [lnA];omega) | simp only [lnB,Nat.reduceAdd]) only [go_sem,↓reduceIte,Nat.reduceAdd,reduceNeg,Int.reduceAdd,reduceSub,reduceMul,reduceLT,reduceLE,reduceEq,reduceToNat,Nat.reduceBEq,nat1,hq,g1,g2,hdef,u_spec_l21Names_j0,hnat])
      all_goals first | omega | skip
      rw [← hM,← hkp,this];exact ⟨rfl,hlt⟩
    · rw [ht] at hdef
      have:=posS_t ht
      repeat' (first | (with_reducible first | refine jn_in ?_ | refine cl_ok (by assumption) rfl ?_ | refine cl_okP (by assumption) rfl ?_ | refine br_x (fun hbr=>?_) fun hbr=>?_) | simp (disch:=first | omega | (simp only [lnA];omega) | simp only [lnB,Nat.reduceAdd]) only [go_sem,↓reduceIte,Nat.reduceAdd,reduceNeg,Int.reduceAdd,reduceSub,reduceMul,reduceLT,reduceLE,reduceEq,reduceToNat,Nat.reduceBEq,nat1,hq,g1,g2,hdef,u_spec_l21Names_j0,hst])
      all_goals first | omega | exact ⟨q,rfl,⟨by omega,by rw [← hkp,this]⟩,by omega⟩ | skip
      all_goals (simp only [List.length_set];omega)
  · obtain rfl : k = 0:=by omega
    have e0 : p = 0:=by rw [← hkp];rfl
    subst e0
    repeat' (first | (with_reducible first | refine jn_in ?_ | refine cl_ok (by assumption) rfl ?_ | refine cl_okP (by assumption) rfl ?_ | refine br_x (fun hbr=>?_) fun hbr=>?_) | simp (disch:=first | omega | (simp only [lnA];omega) | simp only [lnB,Nat.reduceAdd]) only [go_sem,↓reduceIte,Nat.reduceAdd,reduceNeg,Int.reduceAdd,reduceSub,reduceMul,reduceLT,reduceLE,reduceEq,reduceToNat,Nat.reduceBEq,nat1,u_spec_l21Names_j0,hnat])
    all_goals first | omega | exact ⟨rfl,hlt⟩ | skip
def u_impl_kidsOf_h : List Hint:=[⟨3000004,3,⟨[(7,.p false [.d 17]),(6,.p false [.d 18]),(5,.p false [.own 0 0]),(4,.p false [.nil]),(0,.p false [.d 0]),(1,.p false [.d 1])],[(0,.row 0 3 1 19)],1,1,20,[]⟩,[]⟩]
def u_impl_kidsOf_d : List (Nat × Nat × Bool × List Nat):=[]
def u_impl_kidsOf_l0 : UP:=.po (.k (.int .i64 0)) <| .po (.bin .geq false 3 0) <| .ite 0 (.po (.isI 4) <| .po (.chk 1 2 4) <| .po (.sc 3) <| .po (.set 1 2 4 0 [3]) <| .sel [0,4,5,9] <| .cl 89 [(false,[3]),(false,[1])] [(false,[none],true)] <| .po (.k (.int .i64 1)) <| .po (.bin .sub false 1 0) <| .po (.k (.int .i64 1)) <| .po (.bin .sub false 6 0) <| .jump 0 [0,2,5]) <| .ret [(false,[2])]
def u_impl_kidsOf_u : UP:=.po (.isI 0) <| .po (.idx 5 1 0) <| .po (.make 3 1 8 [.sc (.int .i64 0)] 0) <| .po (.k (.int .i64 1)) <| .po (.bin .sub false 7 0) <| .po (.isI 8) <| .po (.idx 5 9 8) <| .po (.k (.int .i64 1)) <| .po (.bin .sub false 1 0) <| .sel [0,7,9,16] <| .loop [0,1,2] u_impl_kidsOf_l0
theorem u_impl_kidsOf_g : toUPf Try.prog 54 Try.f54 owA u_impl_kidsOf_h u_impl_kidsOf_d = some ([(false,1),(false,1)],u_impl_kidsOf_u):=by kernel_rfl
def u_spec_l16Kids_h : List Hint:=[⟨3000004,3,⟨[(7,.p false [.d 6]),(6,.p false [.d 7]),(5,.p false [.own 0 0]),(4,.p false [.nil]),(0,.p false [.d 0]),(1,.p false [.d 1])],[(0,.row 0 3 1 8)],1,1,9,[]⟩,[]⟩]
def u_spec_l16Kids_d : List (Nat × Nat × Bool × List Nat):=[]
def u_spec_l16Kids_l0 : UP:=.po (.isI 7) <| .po (.idx 5 8 7) <| .po (.bin .lss false 7 0) <| .ite 0 (.po (.sc 7) <| .po (.mk 3 1 [[7]]) <| .po (.flat 7) <| .po (.app 3 1 8 0 7) <| .sel [0,9,10,16] <| .cl 84 [(false,[3]),(false,[1])] [(false,[none],true)] <| .po (.k (.int .i64 1)) <| .po (.bin .sub false 1 0) <| .po (.k (.int .i64 1)) <| .po (.bin .add false 6 0) <| .jump 0 [0,2,5]) <| .ret [(false,[6])]
def u_spec_l16Kids_u : UP:=.po (.mk 3 1 []) <| .po (.k (.int .i64 1)) <| .po (.bin .sub false 2 0) <| .po (.k (.int .i64 0)) <| .loop [0,1,3] u_spec_l16Kids_l0
theorem u_spec_l16Kids_g : toUPf Try.prog 49 Try.f49 owA u_spec_l16Kids_h u_spec_l16Kids_d = some ([(false,1),(false,1)],u_spec_l16Kids_u):=by kernel_rfl
theorem stF_above {L : Nat→Nat} {c : Nat} : ∀ {i j : Nat},stF L c i < j→j≤i→L j + 1 ≠ c
  | 0,j,h1,h2=>by omega
  | i + 1,j,h1,h2=>by
    by_cases he : L (i + 1) + 1 = c
    · rw [stF_hit he] at h1;omega
    · rw [stF_miss he] at h1
      by_cases hj : j = i + 1
      · subst hj;exact he
      · exact stF_above (i:=i) h1 (by omega)
theorem lenT_in {t : List Nod} (h : treeB t = true) {k : Nat} (hk : k < t.length) : ∀ (d j : Nat),j + d = k→startT t k < j→lenT t (k + 1)≤lenT t j:=by
  intro d
  induction d with
  | zero =>
    intro j hj hs
    obtain rfl : j = k:=by omega
    obtain ⟨c,-,h1,h2,-⟩:=lenT_step h hk
    have:=stF_above hs (Nat.le_refl _)
    omega
  | succ d ih =>
    intro j hj hs
    have h1:=ih (j + 1) (by omega) (by omega)
    obtain ⟨c,-,h2,h3,-⟩:=lenT_step h (j:=j) (by omega)
    have:=stF_above hs (by omega)
    omega
def posT (t : List Nod) : Nat→Nat→Nat
  | e,0=>e
  | e,n + 1=>posT t (startT t (e - 1)) n
theorem posT_in {t : List Nod} (h : treeB t = true) : ∀ {e n : Nat},e≤t.length→n≤lenT t e→∀ j,posT t e n < j→j≤e→lenT t e < lenT t j + n
  | e,0,_,_,j,h1,h2=>by simp only [posT] at h1;omega
  | e,n + 1,he,hn,j,h1,h2=>by
    have h0 : e ≠ 0:=by rintro rfl;rw [lenT_0] at hn;omega
    obtain ⟨k,rfl⟩:=Nat.exists_eq_succ_of_ne_zero h0
    simp only [Nat.succ_eq_add_one,posT,Nat.add_sub_cancel] at *
    have hs:=startT_len h (i:=k) (by omega)
    have hle:=startT_le t k
    by_cases hj : startT t k < j
    · by_cases hjk : j = k + 1
      · subst hjk;omega
      · have:=lenT_in h (k:=k) (by omega) (k - j) j (by omega) hj
        omega
    · have:=posT_in h (e:=startT t k) (n:=n) (by omega) (by omega) j h1 (by omega)
      omega
def spanT (t : List Nod) (k : Int) : Nat:=k.toNat + 1 - startT t k.toNat
theorem span_sum {t : List Nod} (h : treeB t = true) : ∀ {e n : Nat},e≤t.length→n≤lenT t e→sumOf (spanT t) (rootsT t e n) + posT t e n = e
  | e,0,_,_=>by simp [rootsT,posT,sumOf]
  | e,n + 1,he,hn=>by
    have h0 : e ≠ 0:=by rintro rfl;rw [lenT_0] at hn;omega
    obtain ⟨k,rfl⟩:=Nat.exists_eq_succ_of_ne_zero h0
    simp only [Nat.succ_eq_add_one,posT,rootsT,Nat.add_sub_cancel] at *
    have hs:=startT_len h (i:=k) (by omega)
    have hle:=startT_le t k
    have:=span_sum h (e:=startT t k) (n:=n) (by omega) (by omega)
    rw [sumOf_app]
    simp only [sumOf,spanT,Int.toNat_natCast]
    omega
theorem span_kids {t : List Nod} (h : treeB t = true) {i : Nat} (hi : i < t.length) : sumOf (spanT t) (kidsT t i) + 1≤i + 1 - startT t i:=by
  obtain ⟨k,h1,h2,h3,-⟩:=lenT_step h hi
  have hs:=span_sum h (e:=i) (n:=k) (by omega) h2
  have hl:=startT_len h hi
  have hle:=startT_le t i
  have hp : startT t i≤posT t i k:=by
    rcases Nat.lt_or_ge (posT t i k) (startT t i) with hlt | hge
    · have:=posT_in h (e:=i) (n:=k) (by omega) h2 (startT t i) hlt hle
      omega
    · exact hge
  unfold kidsT
  rw [h1,Int.toNat_natCast]
  omega
def u_impl_startOf_h : List Hint:=[⟨3000004,2,⟨[(6,.p false [.d 4]),(5,.p false [.d 5]),(4,.p false [.d 2]),(0,.p false [.d 0]),(1,.p false [.d 1])],[],0,0,6,[]⟩,[]⟩]
def u_impl_startOf_d : List (Nat × Nat × Bool × List Nat):=[]
def u_impl_startOf_l0 : UP:=.po (.k (.int .i64 1)) <| .po (.bin .sub false 1 0) <| .po (.isI 3) <| .po (.idx 5 7 3) <| .po (.bin .add false 5 0) <| .po (.k (.int .i64 0)) <| .po (.bin .eql false 1 0) <| .ite 0 (.po (.sc 11) <| .ret [(false,[11])]) <| .po (.k (.int .i64 1)) <| .po (.bin .sub false 12 0) <| .jump 0 [0,4]
def u_impl_startOf_u : UP:=.po (.k (.int .i64 0)) <| .po (.k (.int .i64 1)) <| .loop [2,0] u_impl_startOf_l0
theorem u_impl_startOf_g : toUPf Try.prog 89 Try.f89 owA u_impl_startOf_h u_impl_startOf_d = some ([(false,1),(false,1)],u_impl_startOf_u):=by kernel_rfl
def u_spec_l16Start_h : List Hint:=[⟨3000003,2,⟨[(6,.p false [.d 8]),(5,.p false [.d 9]),(4,.p false [.d 2]),(0,.p false [.d 0]),(1,.p false [.d 1])],[],0,0,10,[]⟩,[]⟩]
def u_spec_l16Start_d : List (Nat × Nat × Bool × List Nat):=[]
def u_spec_l16Start_l0 : UP:=.po (.k (.int .i64 0)) <| .po (.bin .gtr false 1 0) <| .ite 0 (.po (.k (.int .i64 1)) <| .po (.bin .sub false 4 0) <| .po (.k (.int .i64 1)) <| .po (.bin .sub false 5 0) <| .po (.isI 2) <| .po (.idx 5 10 2) <| .po (.bin .add false 5 0) <| .jump 0 [8,0]) <| .po (.sc 3) <| .ret [(false,[3])]
def u_spec_l16Start_u : UP:=.po (.k (.int .i64 0)) <| .po (.isI 1) <| .po (.idx 5 2 1) <| .sel [0,6,7] <| .loop [1,0] u_spec_l16Start_l0
theorem u_spec_l16Start_g : toUPf Try.prog 84 Try.f84 owA u_spec_l16Start_h u_spec_l16Start_d = some ([(false,1),(false,1)],u_spec_l16Start_u):=by kernel_rfl
def u_impl_IsTree_h : List Hint:=[⟨2000003,2,⟨[(77,.p false [.d 31]),(8,.p false [.d 32]),(7,.p false [.d 29]),(56,.p false [.d 30]),(55,.p false [.d 29]),(54,.p false [.d 27]),(53,.p false [.sub 0 0 1 26 27]),(6,.p false [.sub 0 0 1 26 27]),(45,.p false [.d 23]),(4,.p false [.d 11]),(5,.p false [.ptr 1 1 0]),(20,.p false [.d 13]),(3,.p false [.own 0 0]),(19,.p false [.d 11]),(18,.p false [.d 8]),(17,.p false [.d 0]),(16,.p false [.d 7]),(2,.p false [.d 1]),(0,.p false [.d 0])],[(0,.row 0 3 1 12),(1,.var 1 73 [.d 14,.d 15,.d 16,.d 17,.d 18])],2,2,33,[(30,true),(23,false),(13,true),(7,false),(4,false),(1,false)]⟩,[]⟩,⟨3000011,1,⟨[(55,.p false [.d 29]),(54,.p false [.d 27]),(53,.p false [.sub 0 0 1 26 27]),(6,.p false [.sub 0 0 1 26 27]),(45,.p false [.d 23]),(4,.p false [.d 11]),(5,.p false [.ptr 1 1 0]),(20,.p false [.d 13]),(3,.p false [.own 0 0]),(19,.p false [.d 11]),(18,.p false [.d 8]),(17,.p false [.d 0]),(16,.p false [.d 7]),(2,.p false [.d 1]),(0,.p false [.d 0])],[(0,.row 0 3 1 12),(1,.var 1 73 [.d 14,.d 15,.d 16,.d 17,.d 18])],2,2,30,[(23,false),(13,true),(7,false),(4,false),(1,false)]⟩,[]⟩,⟨7,1,⟨[(45,.p false [.d 23]),(4,.p false [.d 11]),(5,.p false [.ptr 1 1 0]),(20,.p false [.d 13]),(3,.p false [.own 0 0]),(19,.p false [.d 11]),(18,.p false [.d 8]),(17,.p false [.d 0]),(16,.p false [.d 7]),(2,.p false [.d 1]),(0,.p false [.d 0])],[(0,.row 0 3 1 12),(1,.var 1 73 [.d 14,.d 15,.d 16,.d 17,.d 18])],2,2,24,[(13,true),(7,false),(4,false),(1,false)]⟩,[]⟩,⟨3000005,2,⟨[(3,.p false [.own 0 0]),(19,.p false [.d 11]),(18,.p false [.d 8]),(17,.p false [.d 0]),(16,.p false [.d 7]),(2,.p false [.d 1]),(0,.p false [.d 0])],[(0,.row 0 3 1 12)],1,1,13,[(7,false),(4,false),(1,false)]⟩,[⟨true,3,0,3,1⟩]⟩]
def u_impl_IsTree_d : List (Nat × Nat × Bool × List Nat):=[]
def u_impl_IsTree_j0 : UP:=.po (.k (.int .i64 1)) <| .po (.bin .add false 3 0) <| .jump 1 [0]
def u_impl_IsTree_l1 : UP:=.po (.bin .lss false 0 2) <| .ite 0 (.sel [1,3,4,6,7,9] <| .join 2 u_impl_IsTree_j0 <| .po (.isI 0) <| .po (.atJ 2 1 0) <| .po (.idx 1 5 0) <| .po (.isI 0) <| .po (.idx 5 7 0) <| .po (.k (.int .i64 1)) <| .po (.bin .eql false 5 0) <| .ite 0 (.po (.k (.int .i64 8)) <| .po (.bin .neq false 13 0) <| .ite 0 (.po (.k (.bool true)) <| .po (.k (.bool false)) <| .po (.sc 0) <| .ret [(false,[0])]) <| .po (.k (.int .i64 1)) <| .po (.bin .sub false 13 0) <| .po (.bin .eql false 13 0) <| .ite 0 (.po (.k (.bool false)) <| .po (.sc 0) <| .ret [(false,[0])]) <| .jump 2 [0,12]) <| .po (.k (.bool false)) <| .jump 2 [0,8]) <| .po (.lenL 7) <| .po (.bin .sub false 0 6) <| .po (.cutI 9 none (some 0)) <| .po (.sc 12) <| .po (.mk 3 1 [[12]]) <| .po (.cutP 12 2 1) <| .po (.flat 1) <| .po (.app 3 1 8 0 1) <| .po (.k (.int .i64 1)) <| .po (.bin .add false 16 0) <| .jump 0 [0,2]
def u_impl_IsTree_j2 : UP:=.ite 0 (.po (.k (.bool false)) <| .po (.sc 0) <| .ret [(false,[0])]) <| .po (.lenL 6) <| .po (.bin .sub false 0 2) <| .po (.cutI 8 (some 0) none) <| .po (.k (.int .i64 0)) <| .sel [0,1,2,6,10,11,12,13] <| .loop [0] u_impl_IsTree_l1
def u_impl_IsTree_l3 : UP:=.po (.bin .lss false 1 4) <| .ite 0 (.po (.isI 2) <| .po (.idx 5 6 2) <| .po (.k (.int .i64 0)) <| .po (.k (.int .i64 0)) <| .po (.k (.string ⟨#[]⟩)) <| .po (.k (.int .i64 0)) <| .sel [4,5,6,7,8,10,11,15] <| .join 1 u_impl_IsTree_j2 <| .cl 88 [(true,[4,3,2,1,0])] [(false,[none],true)] <| .po (.un .not 0) <| .ite 0 (.po (.k (.bool true)) <| .po (.k (.bool true)) <| .jump 1 [0]) <| .po (.lenL 7) <| .po (.bin .gtr false 3 0) <| .ite 0 (.po (.k (.bool true)) <| .jump 1 [0]) <| .po (.k (.int .i64 0)) <| .po (.bin .eql false 9 0) <| .ite 0 (.po (.lenL 13) <| .po (.k (.int .i64 1)) <| .po (.bin .sub false 1 0) <| .po (.bin .lss false 15 0) <| .jump 1 [0]) <| .po (.k (.bool false)) <| .jump 1 [0]) <| .po (.lenL 1) <| .po (.k (.int .i64 1)) <| .po (.bin .eql false 1 0) <| .ite 0 (.po (.lenL 9) <| .po (.k (.int .i64 1)) <| .po (.bin .sub false 1 0) <| .po (.isI 0) <| .po (.idx 5 12 0) <| .po (.k (.int .i64 1)) <| .po (.bin .neq false 5 0) <| .po (.sc 0) <| .ret [(false,[0])]) <| .po (.k (.bool false)) <| .po (.sc 0) <| .ret [(false,[0])]
def u_impl_IsTree_u : UP:=.po (.k (.bool false)) <| .po (.lenL 1) <| .po (.k (.int .i64 1)) <| .po (.bin .lss false 1 0) <| .ite 0 (.po (.k (.bool true)) <| .po (.k (.bool false)) <| .po (.sc 0) <| .ret [(false,[0])]) <| .po (.lenL 4) <| .po (.k (.int .i64 200)) <| .po (.bin .gtr false 1 0) <| .ite 0 (.po (.k (.bool false)) <| .po (.sc 0) <| .ret [(false,[0])]) <| .po (.lenL 7) <| .po (.k (.int .i64 0)) <| .po (.e 3 1) <| .sel [0,1,2,10] <| .loop [1,0] u_impl_IsTree_l3
theorem u_impl_IsTree_g : toUPf Try.prog 53 Try.f53 owA u_impl_IsTree_h u_impl_IsTree_d = some ([(false,1)],u_impl_IsTree_u):=by kernel_rfl
set_option maxHeartbeats 4000000 in
theorem implTree_m (t : List Nod) (ht : t.length≤1048576) (hx : ∀ x ∈ t,x.text.size≤1048576∧x.labels.length≤1048576∧∀ y ∈ x.labels,y.size≤1048576) : Meets Try.prog 53 [(false,[encNods t])] [(false,[.sc (.bool (treeB t))],true)]:=by
  have b1 : ∀ {a b : Bool},a = b→[DV.sc (.bool a)] = [.sc (.bool b)]:=fun h=>by rw [h]
  refine meets_upf Try.func53 u_impl_IsTree_g rfl ?_;simp only [u_impl_IsTree_u]
  simp only [encNods]
  simp (disch:=first | omega | (simp only [lnA];omega) | simp only [lnB,Nat.reduceAdd]) only [go_sem,↓reduceIte,Nat.reduceAdd,reduceNeg,Int.reduceAdd,reduceSub,reduceMul,reduceLT,reduceLE,reduceEq,reduceToNat,Nat.reduceBEq,nat1,true_and]
  refine br_if (fun hn1=>?_) (fun hn1=>?_)
  · repeat' (first | (with_reducible first | refine jn_in ?_ | refine cl_ok (by assumption) rfl ?_ | refine cl_okP (by assumption) rfl ?_ | refine br_x (fun hbr=>?_) fun hbr=>?_) | simp (disch:=first | omega | (simp only [lnA];omega) | simp only [lnB,Nat.reduceAdd]) only [go_sem,↓reduceIte,Nat.reduceAdd,reduceNeg,Int.reduceAdd,reduceSub,reduceMul,reduceLT,reduceLE,reduceEq,reduceToNat,Nat.reduceBEq,nat1,true_and])
    exact ret_b (by unfold treeB;rw [decide_eq_false (by omega)];rfl)
  simp (disch:=first | omega | (simp only [lnA];omega) | simp only [lnB,Nat.reduceAdd]) only [go_sem,↓reduceIte,Nat.reduceAdd,reduceNeg,Int.reduceAdd,reduceSub,reduceMul,reduceLT,reduceLE,reduceEq,reduceToNat,Nat.reduceBEq,nat1,true_and]
  refine br_if (fun hn2=>?_) (fun hn2=>?_)
  · repeat' (first | (with_reducible first | refine jn_in ?_ | refine cl_ok (by assumption) rfl ?_ | refine cl_okP (by assumption) rfl ?_ | refine br_x (fun hbr=>?_) fun hbr=>?_) | simp (disch:=first | omega | (simp only [lnA];omega) | simp only [lnB,Nat.reduceAdd]) only [go_sem,↓reduceIte,Nat.reduceAdd,reduceNeg,Int.reduceAdd,reduceSub,reduceMul,reduceLT,reduceLE,reduceEq,reduceToNat,Nat.reduceBEq,nat1,true_and])
    exact ret_b (by unfold treeB;rw [decide_eq_false (by omega)];rfl)
  have hn : 1≤(t.length : Int)∧(t.length : Int)≤200:=by omega
  simp (disch:=first | omega | (simp only [lnA];omega) | simp only [lnB,Nat.reduceAdd]) only [go_sem,↓reduceIte,Nat.reduceAdd,reduceNeg,Int.reduceAdd,reduceSub,reduceMul,reduceLT,reduceLE,reduceEq,reduceToNat,Nat.reduceBEq,nat1,true_and]
  refine lp (fun s : Nat × List Int=>[.sc (.int .i64 (s.1 : Nat)),.sl 3 1 (s.2.map encZ)]) (fun s=>s.1≤t.length∧stkT t s.1 = some s.2) (fun s=>t.length - s.1) (0,[]) rfl ⟨by simp,rfl⟩ ?_
  rintro ⟨i,s⟩ ⟨g1,g2⟩
  simp only at g1 g2 ⊢
  obtain ⟨v1,v2⟩:=stkT_inv g2
  simp only [u_impl_IsTree_l3]
  by_cases hlt : i < t.length
  · have hno:=tree_no hlt g2
    have hst : stkT t (i + 1) = stepT t i s:=by simp only [stkT,g2]
    unfold stepT at hno hst
    obtain ⟨z1,z2,z3⟩:=hx _ (getD_mem hlt)
    have hS:=implNod_m (t.getD i default).kind (t.getD i default).num (t.getD i default).kids (t.getD i default).text (t.getD i default).labels z1 z2 z3
    simp only [encNod,encSs] at hS
    simp (disch:=first | omega | (simp only [lnA];omega) | simp only [lnB,Nat.reduceAdd]) only [go_sem,↓reduceIte,Nat.reduceAdd,reduceNeg,Int.reduceAdd,reduceSub,reduceMul,reduceLT,reduceLE,reduceEq,reduceToNat,Nat.reduceBEq,nat1,ix_Nod,encNod,encSs]
    refine br_if (fun hbr=>?_) (fun hbr=>absurd hbr (by omega))
    simp (disch:=first | omega | (simp only [lnA];omega) | simp only [lnB,Nat.reduceAdd]) only [go_sem,↓reduceIte,Nat.reduceAdd,reduceNeg,Int.reduceAdd,reduceSub,reduceMul,reduceLT,reduceLE,reduceEq,reduceToNat,Nat.reduceBEq,nat1,ix_Nod,encNod,encSs]
    refine jn_eq [.sc (.bool (badT t i s))] ?_ ?_
    · refine cl_ok hS rfl ?_
      unfold badT nB
      cases hnb : nodB (t.getD i default).kind (t.getD i default).num (t.getD i default).text (t.getD i default).labels (t.getD i default).kids
      · repeat' (first | (with_reducible first | refine jn_in ?_ | refine cl_ok (by assumption) rfl ?_ | refine cl_okP (by assumption) rfl ?_ | refine br_x (fun hbr=>?_) fun hbr=>?_) | simp (disch:=first | omega | (simp only [lnA];omega) | simp only [lnB,Nat.reduceAdd]) only [go_sem,↓reduceIte,Nat.reduceAdd,reduceNeg,Int.reduceAdd,reduceSub,reduceMul,reduceLT,reduceLE,reduceEq,reduceToNat,Nat.reduceBEq,nat1,Bool.false_and])
        all_goals first | exact b1 (by simp [*];done) | skip
      · repeat' (first | (with_reducible first | refine jn_in ?_ | refine cl_ok (by assumption) rfl ?_ | refine cl_okP (by assumption) rfl ?_ | refine br_x (fun hbr=>?_) fun hbr=>?_) | simp (disch:=first | omega | (simp only [lnA];omega) | simp only [lnB,Nat.reduceAdd]) only [go_sem,↓reduceIte,Nat.reduceAdd,reduceNeg,Int.reduceAdd,reduceSub,reduceMul,reduceLT,reduceLE,reduceEq,reduceToNat,Nat.reduceBEq,nat1,true_and])
        all_goals first
          | omega
          | exact b1 (by simp [-List.getD_eq_getElem?_getD, *];done)
          | skip
    simp only [u_impl_IsTree_j2]
    cases hbad : badT t i s
    rotate_left
    · rw [hbad] at hno
      have hno:=hno rfl
      repeat' (first | (with_reducible first | refine jn_in ?_ | refine cl_ok (by assumption) rfl ?_ | refine cl_okP (by assumption) rfl ?_ | refine br_x (fun hbr=>?_) fun hbr=>?_) | simp (disch:=first | omega | (simp only [lnA];omega) | simp only [lnB,Nat.reduceAdd]) only [go_sem,↓reduceIte,Nat.reduceAdd,reduceNeg,Int.reduceAdd,reduceSub,reduceMul,reduceLT,reduceLE,reduceEq,reduceToNat,Nat.reduceBEq,nat1,true_and])
      exact ret_b hno
    rw [hbad] at hno hst
    simp only [Bool.false_eq_true,if_false] at hno hst
    unfold badT at hbad
    simp only [Bool.or_eq_false_iff,Bool.not_eq_false',decide_eq_false_iff_not] at hbad
    obtain ⟨hb1,hb2,-⟩:=hbad
    have hk0:=nB_kids hb1
    generalize hxx : t.getD i default = x at *
    obtain ⟨kN,hkN⟩:=Int.eq_ofNat_of_zero_le hk0
    rw [hkN,Int.toNat_natCast] at hst hno
    rw [hkN] at hb2
    have e1 : (s.length : Int) - (kN : Int) = ((s.length - kN : Nat) : Int):=by omega
    have e3 : (s.length : Int) - ((s.length - kN : Nat) : Int) = (kN : Int):=by omega
    simp (disch:=first | omega | (simp only [lnA];omega) | simp only [lnB,Nat.reduceAdd]) only [go_sem,↓reduceIte,Nat.reduceAdd,reduceNeg,Int.reduceAdd,reduceSub,reduceMul,reduceLT,reduceLE,reduceEq,reduceToNat,Nat.reduceBEq,nat1,hkN,e1,e3]
    refine lp (fun j : Nat=>[.sc (.int .i64 (j : Int))]) (fun j=>j≤kN∧allB (empT t x s) j = true) (fun j=>kN - j) 0 rfl ⟨by omega,rfl⟩ ?_
    rintro j ⟨w1,w2⟩
    simp only [u_impl_IsTree_l1]
    by_cases hj : j < kN
    · obtain ⟨m1,m2⟩:=v2 _ (mem_getD (l:=s) (i:=s.length - kN + j) (by omega))
      have hEj : empT t x s j = !(decide (knd t s (s.length - kN + j) = 1) && (decide (x.kind ≠ 8) || decide (j + 1 = kN))):=by unfold empT;rw [hkN];rfl
      have hkd : (t.getD (s.getD (s.length - kN + j) default).toNat default).kind = knd t s (s.length - kN + j):=rfl
      have ret0 : empT t x s j = false→treeB t = false:=fun h=>hno (by rw [allB_no hj h];rfl)
      have e4 : ((s.length - kN : Nat) : Int) + (j : Int) = ((s.length - kN + j : Nat) : Int):=rfl
      repeat' (first | (with_reducible first | refine jn_in ?_ | refine cl_ok (by assumption) rfl ?_ | refine cl_okP (by assumption) rfl ?_ | refine br_x (fun hbr=>?_) fun hbr=>?_) | simp (disch:=first | omega | (simp only [lnA];omega) | simp only [lnB,Nat.reduceAdd]) only [go_sem,↓reduceIte,Nat.reduceAdd,reduceNeg,Int.reduceAdd,reduceSub,reduceMul,reduceLT,reduceLE,reduceEq,reduceToNat,Nat.reduceBEq,nat1,ix_z,ix_Nod,encNod,encSs,hkd,u_impl_IsTree_j0,e4])
      all_goals first
        | (exfalso;omega)
        | exact ret_b (ret0 (by rw [hEj,decide_eq_true ‹knd t s (s.length - kN + j) = 1›,decide_eq_false (p:=x.kind ≠ 8) (fun h=>h ‹x.kind = 8›),decide_eq_true (p:=j + 1 = kN) (by omega)];rfl))
        | exact ret_b (ret0 (by rw [hEj,decide_eq_true ‹knd t s (s.length - kN + j) = 1›,decide_eq_true (p:=x.kind ≠ 8) ‹¬ x.kind = 8›];rfl))
        | exact ⟨j + 1,rfl,⟨hj,allB_step w2 (by rw [hEj,decide_eq_true ‹knd t s (s.length - kN + j) = 1›,decide_eq_false (p:=x.kind ≠ 8) (fun h=>h ‹x.kind = 8›),decide_eq_false (p:=j + 1 = kN) (by omega)];rfl)⟩,by omega⟩
        | exact ⟨j + 1,rfl,⟨hj,allB_step w2 (by rw [hEj,decide_eq_false (p:=knd t s (s.length - kN + j) = 1) ‹_›];rfl)⟩,by omega⟩
        | skip
    · obtain rfl : kN = j:=by omega
      rw [if_pos w2] at hst
      have hsl : (s.take (s.length - kN)).length≤1048576:=by rw [List.length_take];omega
      repeat' (first | (with_reducible first | refine jn_in ?_ | refine cl_ok (by assumption) rfl ?_ | refine cl_okP (by assumption) rfl ?_ | refine br_x (fun hbr=>?_) fun hbr=>?_) | simp (disch:=first | omega | (simp only [lnA];omega) | simp only [lnB,Nat.reduceAdd]) only [go_sem,↓reduceIte,Nat.reduceAdd,reduceNeg,Int.reduceAdd,reduceSub,reduceMul,reduceLT,reduceLE,reduceEq,reduceToNat,Nat.reduceBEq,nat1,hkN,e1])
      all_goals first
        | (exfalso;omega)
        | exact ⟨(i + 1,s.take (s.length - kN) ++ [(i : Int)]),rfl,⟨hlt,hst⟩,by simp only;omega⟩
        | trace_state
  · obtain rfl : i = t.length:=by omega
    have hT : treeB t = (decide (s.length = 1) && !decide ((t.getD (t.length - 1) default).kind = 1)):=by unfold treeB;rw [decide_eq_true (by omega),g2];rfl
    rw [hT]
    have e2 : ((t.length : Int) - 1).toNat = t.length - 1:=by omega
    repeat' (first | (with_reducible first | refine jn_in ?_ | refine cl_ok (by assumption) rfl ?_ | refine cl_okP (by assumption) rfl ?_ | refine br_x (fun hbr=>?_) fun hbr=>?_) | simp (disch:=first | omega | (simp only [lnA];omega) | simp only [lnB,Nat.reduceAdd]) only [go_sem,↓reduceIte,Nat.reduceAdd,reduceNeg,Int.reduceAdd,reduceSub,reduceMul,reduceLT,reduceLE,reduceEq,reduceToNat,Nat.reduceBEq,nat1,ix_Nod,encNod,encSs,e2])
    all_goals first
      | omega
      | exact ret_b (by rw [decide_eq_true (p:=s.length = 1) (by omega),Bool.true_and])
      | exact ret_b (by rw [decide_eq_false (p:=s.length = 1) (by omega),Bool.false_and])
      | trace_state
theorem implStart_m (t : List Nod) (h : treeB t = true) (i : Nat) (hi : i < t.length) : Meets Try.prog 89 [(false,[encNods t]),(false,[.sc (.int .i64 i)])] [(false,[.sc (.int .i64 (startT t i : Nat))],true)]:=by
  refine meets_upf Try.func89 u_impl_startOf_g rfl ?_;simp only [u_impl_startOf_u]
  simp only [encNods]
  simp (disch:=first | omega | (simp only [lnA];omega) | simp only [lnB,Nat.reduceAdd]) only [go_sem,↓reduceIte,Nat.reduceAdd,reduceNeg,Int.reduceAdd,reduceSub,reduceMul,reduceLT,reduceLE,reduceEq,reduceToNat,Nat.reduceBEq,nat1,true_and]
  refine lp (fun j : Nat=>[.sc (.int .i64 (j : Int)),.sc (.int .i64 ((lenT t (j + 1) : Int) + 1 - lenT t (i + 1)))]) (fun j=>j≤i∧lenT t (i + 1)≤lenT t (j + 1)∧stF (lenT t) (lenT t (i + 1)) j = startT t i) (fun j=>j) i (by simp [gL];omega) ⟨Nat.le_refl _,Nat.le_refl _,rfl⟩ ?_
  rintro j ⟨g1,g2,g3⟩
  simp only [u_impl_startOf_l0]
  obtain ⟨k,k1,k2,k3,-⟩:=lenT_step h (j:=j) (by omega)
  have h1:=lenT_pos h hi
  have hl:=tree_len h
  have b1:=lenT_le t (i + 1)
  have b2:=lenT_le t (j + 1)
  have b3:=lenT_le t j
  repeat' (first | (with_reducible first | refine jn_in ?_ | refine cl_ok (by assumption) rfl ?_ | refine cl_okP (by assumption) rfl ?_ | refine br_x (fun hbr=>?_) fun hbr=>?_) | simp (disch:=first | omega | (simp only [lnA];omega) | simp only [lnB,Nat.reduceAdd]) only [go_sem,↓reduceIte,Nat.reduceAdd,reduceNeg,Int.reduceAdd,reduceSub,reduceMul,reduceLT,reduceLE,reduceEq,reduceToNat,Nat.reduceBEq,nat1,ix_Nod,encNod,encSs,k1])
  all_goals first
    | (exfalso;omega)
    | exact ret_z (by rw [← g3,stF_hit (by omega)])
    | skip
  have h2 : lenT t j + 1 ≠ lenT t (i + 1):=by omega
  have h3 : j ≠ 0:=by rintro rfl;rw [lenT_0] at k2 k3 h2;omega
  obtain ⟨j,rfl⟩:=Nat.exists_eq_succ_of_ne_zero h3
  refine ⟨j,?_,⟨by omega,by simp only [Nat.succ_eq_add_one] at *;omega,by rw [← g3,stF_miss h2];rfl⟩,by omega⟩
  simp only [Nat.succ_eq_add_one] at *
  congr 4 <;> omega
theorem specStart_m (t : List Nod) (h : treeB t = true) (i : Nat) (hi : i < t.length) : Meets Try.prog 84 [(false,[encNods t]),(false,[.sc (.int .i64 i)])] [(false,[.sc (.int .i64 (startT t i : Nat))],true)]:=by
  refine meets_upf Try.func84 u_spec_l16Start_g rfl ?_;simp only [u_spec_l16Start_u]
  simp only [encNods]
  have hl:=tree_len h
  obtain ⟨k0,q1,q2,q3,-⟩:=lenT_step h hi
  simp (disch:=first | omega | (simp only [lnA];omega) | simp only [lnB,Nat.reduceAdd]) only [go_sem,↓reduceIte,Nat.reduceAdd,reduceNeg,Int.reduceAdd,reduceSub,reduceMul,reduceLT,reduceLE,reduceEq,reduceToNat,Nat.reduceBEq,nat1,ix_Nod,encNod,encSs,q1]
  refine lp (fun j : Nat=>[.sc (.int .i64 (j : Int)),.sc (.int .i64 ((lenT t j : Int) + 1 - lenT t (i + 1)))]) (fun j=>j≤i∧lenT t (i + 1)≤lenT t j + 1∧stF (lenT t) (lenT t (i + 1)) j = startT t i) (fun j=>j) i (by simp [gL];omega) ⟨Nat.le_refl _,by omega,rfl⟩ ?_
  rintro j ⟨g1,g2,g3⟩
  simp only [u_spec_l16Start_l0]
  have h1:=lenT_pos h hi
  have b1:=lenT_le t (i + 1)
  have b3:=lenT_le t j
  by_cases h2 : lenT t j + 1 = lenT t (i + 1)
  · repeat' (first | (with_reducible first | refine jn_in ?_ | refine cl_ok (by assumption) rfl ?_ | refine cl_okP (by assumption) rfl ?_ | refine br_x (fun hbr=>?_) fun hbr=>?_) | simp (disch:=first | omega | (simp only [lnA];omega) | simp only [lnB,Nat.reduceAdd]) only [go_sem,↓reduceIte,Nat.reduceAdd,reduceNeg,Int.reduceAdd,reduceSub,reduceMul,reduceLT,reduceLE,reduceEq,reduceToNat,Nat.reduceBEq,nat1,true_and])
    all_goals first
      | (exfalso;omega)
      | exact ret_z (by rw [← g3,stF_hit h2])
  · have h3 : j ≠ 0:=by rintro rfl;rw [lenT_0] at h2 g2;omega
    obtain ⟨j,rfl⟩:=Nat.exists_eq_succ_of_ne_zero h3
    obtain ⟨k,k1,k2,k3,-⟩:=lenT_step h (j:=j) (by omega)
    simp only [Nat.succ_eq_add_one] at *
    have b2:=lenT_le t j
    have e1 : ((j + 1 : Nat) : Int) - 1 = (j : Int):=by omega
    repeat' (first | (with_reducible first | refine jn_in ?_ | refine cl_ok (by assumption) rfl ?_ | refine cl_okP (by assumption) rfl ?_ | refine br_x (fun hbr=>?_) fun hbr=>?_) | simp (disch:=first | omega | (simp only [lnA];omega) | simp only [lnB,Nat.reduceAdd]) only [go_sem,↓reduceIte,Nat.reduceAdd,reduceNeg,Int.reduceAdd,reduceSub,reduceMul,reduceLT,reduceLE,reduceEq,reduceToNat,Nat.reduceBEq,nat1,ix_Nod,encNod,encSs,k1,e1])
    all_goals first
      | (exfalso;omega)
      | exact ⟨j,by congr 4;omega,⟨by omega,by omega,by rw [← g3,stF_miss h2];rfl⟩,by omega⟩
def encU (n : Nat) : List DV:=[.sc (.int .u8 (n : Int))]
def ofN (l : List Nat) : ByteArray:=strOfNums (l.map fun n : Nat=>(n : Int))
theorem ofN_data (l : List Nat) : (ofN l).data.toList = l.map UInt8.ofNat:=by
  unfold ofN;rw [strOfNums_data,List.map_map];rfl
theorem ofN_app (l m : List Nat) : ofN (l ++ m) = ofN l ++ ofN m:=by
  apply ByteArray.ext
  apply Array.ext'
  rw [ByteArray.data_append,Array.toList_append,ofN_data,ofN_data,ofN_data,List.map_append]
theorem ofN_size (l : List Nat) : (ofN l).size = l.length:=by
  unfold ofN;rw [strOfNums_size,List.length_map]
theorem nums_encU (l : List Nat) : numsOf (l.map encU) = some (l.map fun n : Nat=>(n : Int)):=by
  induction l with
  | nil=>rfl
  | cons n l ih=>simp only [List.map_cons,encU,numsOf];rw [ih]
theorem cvB_u {t : Nat} {l : List Nat} : eCvB (some (.sl t 1 (l.map encU))) = some [.sc (.string (ofN l))]:=e_cvB (nums_encU l)
def dgs (m : Nat) : List Nat:=if h : m = 0 then [] else dgs (m / 10) ++ [48 + m % 10]
termination_by m
decreasing_by omega
theorem dgs_zero : dgs 0 = []:=by rw [dgs];simp
theorem dgs_pos {m : Nat} (h : m ≠ 0) : dgs m = dgs (m / 10) ++ [48 + m % 10]:=by rw [dgs,dif_neg h]
theorem dgs_len (k : Nat) : ∀ m,m < 10 ^ k→(dgs m).length≤k:=by
  induction k with
  | zero => intro m h; have : m = 0 := by simpa using h
            subst this;rw [dgs_zero];exact Nat.zero_le _
  | succ k ih =>
    intro m h
    by_cases h0 : m = 0
    · subst h0;rw [dgs_zero];exact Nat.zero_le _
    · rw [dgs_pos h0,List.length_append,List.length_singleton]
      have:=ih (m / 10) (by rw [Nat.pow_succ] at h;omega)
      omega
theorem dgs_len19 {m : Nat} (h : m≤9223372036854775808) : (dgs m).length≤19:=dgs_len 19 m (Nat.lt_of_le_of_lt h (by decide))
theorem a1 (q : List Nat) (b : Nat) : ofN q ++ ofN [b] = ofN (q ++ [b]):=(ofN_app q [b]).symm
theorem posT_succ (t : List Nod) : ∀ (n e : Nat),posT t e (n + 1) = startT t (posT t e n - 1)
  | 0,_=>rfl
  | n + 1,e=>by
    rw [posT,posT_succ t n]
    rfl
theorem rootsT_cons (t : List Nod) : ∀ (n e : Nat),rootsT t e (n + 1) = ((posT t e n - 1 : Nat) : Int) :: rootsT t e n
  | 0,_=>rfl
  | n + 1,e=>by
    rw [rootsT,rootsT_cons t n]
    rfl
theorem posT_len {t : List Nod} (h : treeB t = true) : ∀ {n e : Nat},e≤t.length→n≤lenT t e→lenT t (posT t e n) + n = lenT t e∧posT t e n≤e
  | 0,e,_,_=>⟨rfl,Nat.le_refl _⟩
  | n + 1,e,he,hn=>by
    have h0 : e ≠ 0:=by rintro rfl;rw [lenT_0] at hn;omega
    obtain ⟨k,rfl⟩:=Nat.exists_eq_succ_of_ne_zero h0
    simp only [Nat.succ_eq_add_one,posT,Nat.add_sub_cancel] at *
    have hs:=startT_len h (i:=k) (by omega)
    have hle:=startT_le t k
    obtain ⟨g1,g2⟩:=posT_len h (n:=n) (e:=startT t k) (by omega) (by omega)
    omega
theorem posT_pos {t : List Nod} (h : treeB t = true) {n e : Nat} (he : e≤t.length) (hn : n < lenT t e) : 1≤posT t e n:=by
  obtain ⟨g1,g2⟩:=posT_len h (n:=n) he (by omega)
  rcases Nat.eq_zero_or_pos (posT t e n) with h0 | h0
  · rw [h0,lenT_0] at g1;omega
  · exact h0
theorem rep_last {n : Nat} {x : Int} : (List.replicate (n + 1) (0 : Int)).set n x = List.replicate n 0 ++ [x]:=by
  rw [List.replicate_succ',List.set_append_right _ _ (by simp)]
  simp
set_option maxHeartbeats 2000000 in
theorem implKidsT_m (t : List Nod) (h : treeB t = true) (i : Nat) (hi : i < t.length) : Meets Try.prog 54 [(false,[encNods t]),(false,[.sc (.int .i64 i)])] [(false,[encZs (kidsT t i)],true)]:=by
  obtain ⟨n,k1,k2,k3,-⟩:=lenT_step h hi
  have hl:=tree_len h
  have hle:=lenT_le t i
  have hstart:=fun j hj=>implStart_m t h j hj
  have hz : (List.replicate n [DV.sc (.int .i64 0)]) = (List.replicate n (0 : Int)).map encZ:=by rw [List.map_replicate];rfl
  have e0 : kidsT t i = rootsT t i n:=by unfold kidsT;rw [k1];rfl
  rw [e0]
  refine meets_upf Try.func54 u_impl_kidsOf_g rfl ?_;simp only [u_impl_kidsOf_u]
  simp only [encNods,encZs] at hstart ⊢
  simp (disch:=first | omega | (simp only [lnA];omega) | simp only [lnB,Nat.reduceAdd]) only [go_sem,↓reduceIte,Nat.reduceAdd,reduceNeg,Int.reduceAdd,reduceSub,reduceMul,reduceLT,reduceLE,reduceEq,reduceToNat,Nat.reduceBEq,nat1,ix_Nod,encNod,encSs,k1,hz]
  refine lp_n n (fun r=>[.sc (.int .i64 ((n : Int) - 1 - r)),.sc (.int .i64 ((posT t i r : Int) - 1)),.sl 3 1 ((List.replicate (n - r) 0 ++ rootsT t i r).map encZ)]) (by simp [gL,posT,rootsT]) fun r hr=>?_
  simp only [u_impl_kidsOf_l0]
  have hrl:=rootsT_len t i r
  by_cases hlt : r < n
  · have hp:=posT_pos h (n:=r) (e:=i) (by omega) (by omega)
    obtain ⟨g1,g2⟩:=posT_len h (n:=r) (e:=i) (by omega) (by omega)
    have g3:=startT_le t (posT t i r - 1)
    rw [← posT_succ] at g3
    have h1:=hstart (posT t i r - 1) (by omega)
    rw [← posT_succ,show ((posT t i r - 1 : Nat) : Int) = (posT t i r : Int) - 1 by omega] at h1
    have e1 : ((n : Int) - 1 - r).toNat = n - 1 - r:=by omega
    have e2 : (List.replicate (n - r) 0 ++ rootsT t i r).set (n - 1 - r) ((posT t i r : Int) - 1) = List.replicate (n - (r + 1)) 0 ++ rootsT t i (r + 1):=by
      rw [List.set_append_left _ _ (by simp;omega),show n - r = (n - 1 - r) + 1 by omega,rep_last,rootsT_cons,show n - (r + 1) = n - 1 - r by omega,List.append_assoc,show ((posT t i r - 1 : Nat) : Int) = (posT t i r : Int) - 1 by omega]
      rfl
    have e4 : (List.replicate (n - r) 0 ++ rootsT t i r).length = n:=by rw [List.length_append,List.length_replicate,hrl];omega
    repeat' (first | (with_reducible first | refine jn_in ?_ | refine cl_ok (by assumption) rfl ?_ | refine cl_okP (by assumption) rfl ?_ | refine br_x (fun hbr=>?_) fun hbr=>?_) | simp (disch:=first | omega | (simp only [lnA];omega) | simp only [lnB,Nat.reduceAdd]) only [go_sem,↓reduceIte,Nat.reduceAdd,reduceNeg,Int.reduceAdd,reduceSub,reduceMul,reduceLT,reduceLE,reduceEq,reduceToNat,Nat.reduceBEq,nat1,e1,e2,e4,st_z])
    all_goals first | omega | exact ⟨by congr 3 <;> first | omega | (congr 2;omega),hlt⟩ | skip
  · obtain rfl : r = n:=by omega
    repeat' (first | (with_reducible first | refine jn_in ?_ | refine cl_ok (by assumption) rfl ?_ | refine cl_okP (by assumption) rfl ?_ | refine br_x (fun hbr=>?_) fun hbr=>?_) | simp (disch:=first | omega | (simp only [lnA];omega) | simp only [lnB,Nat.reduceAdd]) only [go_sem,↓reduceIte,Nat.reduceAdd,reduceNeg,Int.reduceAdd,reduceSub,reduceMul,reduceLT,reduceLE,reduceEq,reduceToNat,Nat.reduceBEq,nat1,true_and])
    all_goals first | omega | (simp only [Nat.sub_self,List.replicate_zero,List.nil_append];rfl)
set_option maxHeartbeats 2000000 in
theorem specKidsT_m (t : List Nod) (h : treeB t = true) (i : Nat) (hi : i < t.length) : Meets Try.prog 49 [(false,[encNods t]),(false,[.sc (.int .i64 i)])] [(false,[encZs (kidsT t i)],true)]:=by
  obtain ⟨n,k1,k2,k3,-⟩:=lenT_step h hi
  have hl:=tree_len h
  have hle:=lenT_le t i
  have hstart:=fun j hj=>specStart_m t h j hj
  have e0 : kidsT t i = rootsT t i n:=by unfold kidsT;rw [k1];rfl
  rw [e0]
  refine meets_upf Try.func49 u_spec_l16Kids_g rfl ?_;simp only [u_spec_l16Kids_u]
  simp only [encNods,encZs] at hstart ⊢
  simp (disch:=first | omega | (simp only [lnA];omega) | simp only [lnB,Nat.reduceAdd]) only [go_sem,↓reduceIte,Nat.reduceAdd,reduceNeg,Int.reduceAdd,reduceSub,reduceMul,reduceLT,reduceLE,reduceEq,reduceToNat,Nat.reduceBEq,nat1,true_and]
  refine lp_n n (fun r=>[.sc (.int .i64 (r : Nat)),.sc (.int .i64 ((posT t i r : Int) - 1)),.sl 3 1 ((rootsT t i r).map encZ)]) (by simp [gL,posT,rootsT]) fun r hr=>?_
  simp only [u_spec_l16Kids_l0]
  have hrl:=rootsT_len t i r
  by_cases hlt : r < n
  · have hp:=posT_pos h (n:=r) (e:=i) (by omega) (by omega)
    obtain ⟨g1,g2⟩:=posT_len h (n:=r) (e:=i) (by omega) (by omega)
    have g3:=startT_le t (posT t i r - 1)
    rw [← posT_succ] at g3
    have h1:=hstart (posT t i r - 1) (by omega)
    rw [← posT_succ,show ((posT t i r - 1 : Nat) : Int) = (posT t i r : Int) - 1 by omega] at h1
    have e2 : rootsT t i (r + 1) = [(posT t i r : Int) - 1] ++ rootsT t i r:=by
      rw [rootsT_cons,show ((posT t i r - 1 : Nat) : Int) = (posT t i r : Int) - 1 by omega];rfl
    rw [e2,List.map_append]
    have ea : eApp 3 1 8 (some (.sl 3 1 [[.sc (.int .i64 ((posT t i r : Int) - 1))]])) (some (.sl 3 1 ((rootsT t i r).map encZ))) = some [.sl 3 1 ([[.sc (.int .i64 ((posT t i r : Int) - 1))]] ++ (rootsT t i r).map encZ)]:=e_app (by simp;omega) (by omega)
    repeat' (first | (with_reducible first | refine jn_in ?_ | refine cl_ok (by assumption) rfl ?_ | refine cl_okP (by assumption) rfl ?_ | refine br_x (fun hbr=>?_) fun hbr=>?_) | simp (disch:=first | omega | (simp only [lnA];omega) | simp only [lnB,Nat.reduceAdd]) only [go_sem,↓reduceIte,Nat.reduceAdd,reduceNeg,Int.reduceAdd,reduceSub,reduceMul,reduceLT,reduceLE,reduceEq,reduceToNat,Nat.reduceBEq,nat1,ix_Nod,encNod,encSs,k1,List.map_cons,List.map_nil,encZ,ea])
    all_goals first | omega | exact ⟨rfl,hlt⟩ | skip
  · obtain rfl : r = n:=by omega
    repeat' (first | (with_reducible first | refine jn_in ?_ | refine cl_ok (by assumption) rfl ?_ | refine cl_okP (by assumption) rfl ?_ | refine br_x (fun hbr=>?_) fun hbr=>?_) | simp (disch:=first | omega | (simp only [lnA];omega) | simp only [lnB,Nat.reduceAdd]) only [go_sem,↓reduceIte,Nat.reduceAdd,reduceNeg,Int.reduceAdd,reduceSub,reduceMul,reduceLT,reduceLE,reduceEq,reduceToNat,Nat.reduceBEq,nat1,ix_Nod,encNod,encSs,k1])
    all_goals first | omega | rfl
def PwT (l : List Int) : Prop:=l.Pairwise fun a b=>tLess a b = true
theorem asc_pw {l : List Int} : Asc l ↔ PwT l:=by
  unfold Asc PwT
  rw [List.pairwise_iff_getElem]
  constructor
  · intro h i j hi hj hij
    have:=h i j hij hj
    rwa [List.getD_eq_getElem?_getD,List.getElem?_eq_getElem hi,List.getD_eq_getElem?_getD,List.getElem?_eq_getElem hj] at this
  · intro h i j hij hj
    have:=h i j (by omega) hj hij
    rwa [List.getD_eq_getElem?_getD,List.getElem?_eq_getElem (show i < l.length by omega),List.getD_eq_getElem?_getD,List.getElem?_eq_getElem hj]
theorem tLess_tri {a b : Int} (h : tLess a b = false) (hn : a ≠ b) : tLess b a = true:=by
  rw [tLess_iff]
  have h2 : ¬ (bitC a < bitC b ∨ bitC a = bitC b∧a < b):=fun hh=>by rw [tLess_iff.2 hh] at h;cases h
  omega
theorem pw_ext : ∀ {l m : List Int},PwT l→PwT m→(∀ z,z ∈ l ↔ z ∈ m)→l = m
  | [],[],_,_,_=>rfl
  | [],b :: m,_,_,h=>by have:=(h b).2 (List.mem_cons_self ..);cases this
  | a :: l,[],_,_,h=>by have:=(h a).1 (List.mem_cons_self ..);cases this
  | a :: l,b :: m,h1,h2,h=>by
    have h1':=List.pairwise_cons.1 h1
    have h2':=List.pairwise_cons.1 h2
    have e : a = b:=by
      have p1:=(h a).1 (List.mem_cons_self ..)
      have p2:=(h b).2 (List.mem_cons_self ..)
      rcases List.mem_cons.1 p1 with p1 | p1
      · exact p1
      · rcases List.mem_cons.1 p2 with p2 | p2
        · exact p2.symm
        · have q1:=h1'.1 b p2
          have q2:=h2'.1 a p1
          rw [tLess_as q1] at q2;cases q2
    subst e
    congr 1
    refine pw_ext h1'.2 h2'.2 fun z=>?_
    constructor
    · intro hz
      rcases List.mem_cons.1 ((h z).1 (List.mem_cons_of_mem _ hz)) with e | e
      · subst e;exact absurd rfl (tLess_ne (h1'.1 z hz))
      · exact e
    · intro hz
      rcases List.mem_cons.1 ((h z).2 (List.mem_cons_of_mem _ hz)) with e | e
      · subst e;exact absurd rfl (tLess_ne (h2'.1 z hz))
      · exact e
theorem posI_hi {l : List Int} {y : Int} : ∀ {n j : Nat},posI l y n≤j→j < n→tLess y (l.getD j default) = true
  | 0,j,h1,h2=>by omega
  | n + 1,j,h1,h2=>by
    cases ht : tLess y (l.getD n default)
    · rw [posI_f ht] at h1;omega
    · rw [posI_t ht] at h1
      by_cases e : j = n
      · subst e;exact ht
      · exact posI_hi h1 (by omega)
theorem posI_lo {l : List Int} {y : Int} : ∀ {n p : Nat},posI l y n = p + 1→tLess y (l.getD p default) = false
  | 0,p,h=>by simp [posI] at h
  | n + 1,p,h=>by
    cases ht : tLess y (l.getD n default)
    · rw [posI_f ht] at h
      obtain rfl : n = p:=by omega
      exact ht
    · rw [posI_t ht] at h;exact posI_lo h
theorem asc_ins {l : List Int} {x : Int} (h : Asc l) (hx : x ∉ l) : Asc (insI l x):=by
  show Asc (mid l (posI l x l.length) x)
  have hp:=posI_le l x l.length
  have hhi:=fun j=>@posI_hi l x l.length j
  have hlo:=fun q=>@posI_lo l x l.length q
  generalize posI l x l.length = p at *
  intro i j hij hj
  rw [mid_len hp] at hj
  rw [mid_get hp,mid_get hp]
  have hlow : ∀ i,i < p→tLess (l.getD i default) x = true:=fun i hi=>by
    obtain ⟨q,rfl⟩:=Nat.exists_eq_succ_of_ne_zero (show p ≠ 0 by omega)
    have h1:=tLess_tri (hlo q rfl) (fun e=>hx (by rw [e];exact getD_mem (by omega)))
    by_cases e : i = q
    · subst e;exact h1
    · exact tLess_tr (h i q (by omega) (by omega)) h1
  by_cases c1 : i < p
  · rw [if_pos c1]
    by_cases c2 : j < p
    · rw [if_pos c2];exact h i j hij (by omega)
    · rw [if_neg c2]
      by_cases c3 : j = p
      · rw [if_pos c3];exact hlow i c1
      · rw [if_neg c3];exact h i (j - 1) (by omega) (by omega)
  · rw [if_neg c1,if_neg (show ¬ j < p by omega),if_neg (show ¬ j = p by omega)]
    by_cases c3 : i = p
    · rw [if_pos c3];exact hhi (j - 1) (by omega) (by omega)
    · rw [if_neg c3];exact h (i - 1) (j - 1) (by omega) (by omega)
theorem asc_without {l : List Int} {x : Int} (h : Asc l) : Asc (withoutZ l x):=by
  rw [asc_pw] at *
  exact List.Pairwise.filter _ h
def GoodT (l : List Int) : Prop:=Asc l∧∀ z ∈ l,0≤z∧z < 32
theorem good_rank {l : List Int} (h : GoodT l) : ∀ i : Nat,i < l.length→(i : Int)≤bitC (l.getD i default) * 32 + l.getD i default
  | 0,hi=>by
    have:=(h.2 _ (getD_mem hi)).1
    have h2 : 0≤bitC (l.getD 0 default):=Int.natCast_nonneg _
    omega
  | i + 1,hi=>by
    have ih:=good_rank h i (by omega)
    have h1:=tLess_iff.1 (h.1 i (i + 1) (by omega) hi)
    have h2:=h.2 _ (getD_mem (l:=l) (i:=i) (by omega))
    have h3:=h.2 _ (getD_mem (l:=l) (i:=i + 1) hi)
    omega
theorem good_len {l : List Int} (h : GoodT l) : l.length≤2000:=by
  by_cases e : l.length = 0
  · omega
  · have h1:=good_rank h (l.length - 1) (by omega)
    have h2:=h.2 _ (getD_mem (l:=l) (i:=l.length - 1) (by omega))
    have h3:=bitN_le (l.getD (l.length - 1) default).toNat
    have h4 : bitC (l.getD (l.length - 1) default) = (bitN (l.getD (l.length - 1) default).toNat : Nat):=rfl
    omega
theorem good_nil : GoodT []:=⟨fun i j _ h=>by simp at h,fun z hz=>by cases hz⟩
theorem good_one {x : Int} (h0 : 0≤x) (h1 : x < 32) : GoodT [x]:=⟨fun i j hij h=>by simp at h;omega,fun z hz=>by rw [List.mem_singleton.1 hz];exact ⟨h0,h1⟩⟩
theorem good_put {l : List Int} {x : Int} (h : GoodT l) (h0 : 0≤x) (h1 : x < 32) : GoodT (putZ l x):=by
  refine ⟨asc_ins (asc_without h.1) (fun hx=>(mem_without.1 hx).2 rfl),fun z hz=>?_⟩
  rcases putZ_mem.1 hz with hz | hz
  · exact h.2 z hz
  · subst hz;exact ⟨h0,h1⟩
theorem good_without {l : List Int} {x : Int} (h : GoodT l) : GoodT (withoutZ l x):=⟨asc_without h.1,fun z hz=>h.2 z (mem_without.1 hz).1⟩
theorem good_foldP {f : Int→Int} : ∀ {l o : List Int},GoodT o→(∀ a ∈ l,0≤f a∧f a < 32)→GoodT (l.foldl (fun o a=>putZ o (f a)) o)
  | [],o,h,_=>h
  | a :: l,o,h,hf=>by
    have:=hf a (List.mem_cons_self ..)
    exact good_foldP (l:=l) (good_put h this.1 this.2) fun b hb=>hf b (List.mem_cons_of_mem _ hb)
theorem mem_foldP {f : Int→Int} {z : Int} : ∀ {l o : List Int},z ∈ l.foldl (fun o a=>putZ o (f a)) o ↔ z ∈ o ∨ ∃ a ∈ l,z = f a
  | [],o=>by simp
  | a :: l,o=>by
    rw [List.foldl_cons,mem_foldP,putZ_mem]
    simp only [List.mem_cons]
    grind
theorem good_foldW : ∀ {l o : List Int},GoodT o→GoodT (l.foldl withoutZ o)
  | [],o,h=>h
  | a :: l,o,h=>good_foldW (l:=l) (good_without h)
theorem mem_foldW {z : Int} : ∀ {l o : List Int},z ∈ l.foldl withoutZ o ↔ z ∈ o∧z ∉ l
  | [],o=>by simp
  | a :: l,o=>by
    rw [List.foldl_cons,mem_foldW,mem_without]
    simp only [List.mem_cons]
    grind
def orZ (a b : Int) : Int:=((a.toNat ||| b.toNat : Nat) : Int)
theorem orZ_lt {a b : Int} (ha : 0≤a∧a < 32) (hb : 0≤b∧b < 32) : 0≤orZ a b∧orZ a b < 32:=by
  have:=Nat.or_lt_two_pow (n:=5) (x:=a.toNat) (y:=b.toNat) (by omega) (by omega)
  unfold orZ;omega
def crossL (La : List Int) (o : List Int) (b : Int) : List Int:=La.foldl (fun o a=>putZ o (orZ a b)) o
def starL (La : List Int) (o : List Int) (b : Int) : List Int:=crossL La (putZ o b) b
theorem good_cross {La o : List Int} {b : Int} (h : GoodT o) (hL : GoodT La) (hb : 0≤b∧b < 32) : GoodT (crossL La o b):=good_foldP h fun a ha=>orZ_lt (hL.2 a ha) hb
theorem good_star {La o : List Int} {b : Int} (h : GoodT o) (hL : GoodT La) (hb : 0≤b∧b < 32) : GoodT (starL La o b):=good_cross (good_put h hb.1 hb.2) hL hb
theorem mem_cross {La o : List Int} {b z : Int} : z ∈ crossL La o b ↔ z ∈ o ∨ ∃ a ∈ La,z = orZ a b:=mem_foldP
theorem good_foldC {La : List Int} (hL : GoodT La) : ∀ {l o : List Int},GoodT o→(∀ b ∈ l,0≤b∧b < 32)→GoodT (l.foldl (crossL La) o)
  | [],o,h,_=>h
  | b :: l,o,h,hf=>good_foldC hL (l:=l) (good_cross h hL (hf b (List.mem_cons_self ..))) fun c hc=>hf c (List.mem_cons_of_mem _ hc)
theorem mem_foldC {La : List Int} {z : Int} : ∀ {l o : List Int},z ∈ l.foldl (crossL La) o ↔ z ∈ o ∨ ∃ b ∈ l,∃ a ∈ La,z = orZ a b
  | [],o=>by simp
  | a :: l,o=>by
    rw [List.foldl_cons,mem_foldC,mem_cross]
    simp only [List.mem_cons]
    grind
theorem good_foldS {La : List Int} (hL : GoodT La) : ∀ {l o : List Int},GoodT o→(∀ b ∈ l,0≤b∧b < 32)→GoodT (l.foldl (starL La) o)
  | [],o,h,_=>h
  | b :: l,o,h,hf=>good_foldS hL (l:=l) (good_star h hL (hf b (List.mem_cons_self ..))) fun c hc=>hf c (List.mem_cons_of_mem _ hc)
theorem mem_foldS {La : List Int} {z : Int} : ∀ {l o : List Int},z ∈ l.foldl (starL La) o ↔ z ∈ o ∨ z ∈ l ∨ ∃ b ∈ l,∃ a ∈ La,z = orZ a b
  | [],o=>by simp
  | a :: l,o=>by
    rw [List.foldl_cons,mem_foldS]
    unfold starL
    rw [mem_cross,putZ_mem]
    simp only [List.mem_cons]
    grind
def SetT (l : List Int) (m : Nat) : Prop:=∀ z : Nat,z < 32→((z : Int) ∈ l ↔ m.testBit z = true)
theorem set_or {A B o : List Int} {a b : Nat} (ha : SetT A a) (hb : SetT B b) (ho : ∀ z : Int,z ∈ o ↔ z ∈ A ∨ z ∈ B) : SetT o (a ||| b):=fun z hz=>by
  rw [ho,ha z hz,hb z hz,Nat.testBit_or,Bool.or_eq_true]
theorem set_and {A B o : List Int} {a b : Nat} (ha : SetT A a) (hb : SetT B b) (ho : ∀ z : Int,z ∈ o ↔ z ∈ A∧z ∉ B) : SetT o (andN a b):=fun z hz=>by
  rw [ho,ha z hz,hb z hz,andN_bit hz]
  cases a.testBit z <;> cases b.testBit z <;> simp
theorem set_crs {A B o : List Int} {a b : Nat} (gA : GoodT A) (gB : GoodT B) (ha : SetT A a) (hb : SetT B b) (ho : ∀ z : Int,z ∈ o ↔ ∃ y ∈ B,∃ x ∈ A,z = orZ x y) : SetT o (crs a b):=fun z hz=>by
  rw [ho]
  show _ ↔ (crX a b 32).testBit z = true
  rw [crX_bit]
  constructor
  · rintro ⟨y,hy,x,hx,e⟩
    have b1:=gA.2 x hx
    have b2:=gB.2 y hy
    refine ⟨x.toNat,y.toNat,by omega,by omega,(ha _ (by omega)).1 (by rwa [Int.toNat_of_nonneg b1.1]),(hb _ (by omega)).1 (by rwa [Int.toNat_of_nonneg b2.1]),?_⟩
    unfold orZ at e;omega
  · rintro ⟨x,y,hx,hy,h1,h2,e⟩
    refine ⟨y,(hb y hy).2 h2,x,(ha x hx).2 h1,?_⟩
    unfold orZ;rw [Int.toNat_natCast,Int.toNat_natCast,e]
def kidI (t : List Nod) (i j : Nat) : Nat:=((kidsT t i).getD j default).toNat
def opM (t : List Nod) (V : List ByteArray) : Nat→Nat→Nat × Bool
  | 0,_=>(0,false)
  | n + 1,i =>
    if (t.getD i default).kind = 7 then (2 ^ (2 ^ (find1 V (t.getD i default).text).toNat),true)
    else if (t.getD i default).kind = 2 then (1,decide ((t.getD i default).num = 1))
    else if (t.getD i default).kind ≠ 11 then (0,false)
    else if (opM t V n (kidI t i 0)).2 = false ∨ (opM t V n (kidI t i 1)).2 = false then (0,false)
    else if (t.getD i default).text = ⟨#[43]⟩ then ((opM t V n (kidI t i 0)).1 ||| (opM t V n (kidI t i 1)).1,true)
    else if (t.getD i default).text = ⟨#[45]⟩ then (andN (opM t V n (kidI t i 0)).1 (opM t V n (kidI t i 1)).1,true)
    else if (t.getD i default).text = ⟨#[58]⟩ then (crs (opM t V n (kidI t i 0)).1 (opM t V n (kidI t i 1)).1,true)
    else if (t.getD i default).text = ⟨#[42]⟩ then ((opM t V n (kidI t i 0)).1 ||| (opM t V n (kidI t i 1)).1 ||| crs (opM t V n (kidI t i 0)).1 (opM t V n (kidI t i 1)).1,true)
    else (0,false)
def InV (t : List Nod) (V : List ByteArray) (i : Nat) : Prop:=∀ j,startT t i≤j→j≤i→(t.getD j default).kind = 7→(t.getD j default).text ∈ V
theorem roots_pos {t : List Nod} (h : treeB t = true) {e : Nat} : ∀ {n : Nat},e≤t.length→n≤lenT t e→∀ x ∈ rootsT t e n,posT t e n≤startT t x.toNat∧0≤x
  | 0,_,_,x,hx=>by simp [rootsT] at hx
  | n + 1,he,hn,x,hx=>by
    rw [rootsT_cons] at hx
    have e1:=posT_succ t n e
    rcases List.mem_cons.1 hx with hx | hx
    · subst hx;rw [Int.toNat_natCast,e1];exact ⟨Nat.le_refl _,Int.natCast_nonneg _⟩
    · have ih:=roots_pos h (n:=n) he (by omega) x hx
      have h2:=startT_le t (posT t e n - 1)
      rw [e1];omega
theorem kid_in {t : List Nod} (h : treeB t = true) {i : Nat} (hi : i < t.length) {x : Int} (hx : x ∈ kidsT t i) : startT t i≤startT t x.toNat∧0≤x∧x < (i : Int):=by
  obtain ⟨k,h1,h2,-,-⟩:=lenT_step h hi
  have hm:=kidsT_mem h hi x hx
  have hs:=span_kids h hi
  unfold kidsT at hx hs
  rw [h1] at hx hs
  rw [Int.toNat_natCast] at hx hs
  have hp:=roots_pos h (e:=i) (n:=k) (by omega) h2 x hx
  have hsum:=span_sum h (e:=i) (n:=k) (by omega) h2
  have:=startT_le t i
  refine ⟨?_,hm⟩
  omega
theorem inV_kid {t : List Nod} {V : List ByteArray} (h : treeB t = true) {i : Nat} (hi : i < t.length) {x : Int} (hx : x ∈ kidsT t i) (hV : InV t V i) : InV t V x.toNat:=by
  have:=kid_in h hi hx
  exact fun j h1 h2=>hV j (by omega) (by omega)
theorem find1_in {V : List ByteArray} {s : ByteArray} (hV : V.length≤5) (h : s ∈ V) : ∃ k : Nat,find1 V s = k∧k < 5:=by
  rcases find1_spec V s with ⟨-,h2⟩ | ⟨k,h1,h2,-⟩
  · exact absurd h h2
  · refine ⟨k,h1,?_⟩
    have:=(List.getElem?_eq_some_iff.1 h2).1
    omega
theorem p2_lt {k : Nat} (h : k < 5) : 2 ^ k < 32:=Nat.lt_of_lt_of_le (Nat.pow_lt_pow_right (a:=2) (by decide) h) (by decide)
theorem crs_lt (a b : Nat) : crs a b < 4294967296:=crX_lt (Nat.le_refl _)
theorem nB_two {x : Nod} (h : nB x = true) (hk : x.kind = 11) : x.kids = 2:=by
  unfold nB nodB at h
  simp only [Bool.and_eq_true] at h
  have h:=h.2.1
  rw [hk] at h
  simpa [kidB] using h
theorem kids_two {t : List Nod} (hT : treeB t = true) {i : Nat} (hi : i < t.length) (hk : (t.getD i default).kind = 11) : (kidsT t i).length = 2:=kidsT_len (nB_two (tree_nB hT hi) hk)
theorem opM_lt {t : List Nod} {V : List ByteArray} (hT : treeB t = true) (hV : V.length≤5) : ∀ {n i : Nat},i < t.length→InV t V i→(opM t V n i).1 < 4294967296
  | 0,_,_,_=>by show (0 : Nat) < 4294967296;omega
  | n + 1,i,hi,hI=>by
    rw [opM]
    split
    · rename_i hk
      obtain ⟨k,h1,h2⟩:=find1_in hV (hI i (startT_le t i) (Nat.le_refl _) hk)
      rw [h1,Int.toNat_natCast]
      exact pow_lt32 (p2_lt h2)
    split
    · show (1 : Nat) < 4294967296;omega
    split
    · show (0 : Nat) < 4294967296;omega
    rename_i hk
    have hk2 : (t.getD i default).kind = 11:=by simpa using hk
    split
    · show (0 : Nat) < 4294967296;omega
    have h2:=kids_two hT hi hk2
    have hkm : ∀ j,j < 2→(opM t V n (kidI t i j)).1 < 4294967296:=fun j hj=>by
      have hm:=getD_mem (l:=kidsT t i) (i:=j) (by omega)
      have h3:=kid_in hT hi hm
      exact opM_lt hT hV (n:=n) (by unfold kidI;omega) (inV_kid hT hi hm hI)
    have m0:=hkm 0 (by omega)
    have m1:=hkm 1 (by omega)
    have hor : ∀ {a b : Nat},a < 4294967296→b < 4294967296→a ||| b < 4294967296:=fun h1 h2=>Nat.or_lt_two_pow (n:=32) h1 h2
    split
    · exact hor m0 m1
    split
    · exact andN_lt _ _
    split
    · exact crs_lt _ _
    split
    · exact hor (hor m0 m1) (crs_lt _ _)
    · show (0 : Nat) < 4294967296;omega
set_option maxHeartbeats 8000000 in
theorem implTerms_m {t : List Nod} {V : List ByteArray} (hT : treeB t = true) (hV : V.length≤5) : ∀ {n i : Nat},i < n→i < t.length→InV t V i →
    Meets Try.prog 91 [(false,[encNods t]),(false,[.sc (.int .i64 i)]),(false,[encSs V])] [(false,[.sc (.int .u32 ((opM t V n i).1 : Nat))],true),(false,[.sc (.bool (opM t V n i).2)],true)]
  | 0,i,h,_,_=>by omega
  | n + 1,i,h,hi,hI=>by
    have htl:=tree_len hT
    have hix:=ix_Nod (t:=73) (l:=t) (kd:=.i64) (z:=(i : Int)) (by omega) (by omega)
    simp only [Int.toNat_natCast] at hix
    by_cases hk : (t.getD i default).kind = 7
    · obtain ⟨k,h1,h2⟩:=find1_in hV (hI i (startT_le t i) (Nat.le_refl _) hk)
      have hr : opM t V (n + 1) i = (2 ^ (2 ^ k),true):=by rw [opM,if_pos hk,h1,Int.toNat_natCast]
      rw [hr]
      have hti:=textIndex_m 9 V (t.getD i default).text (by omega)
      rw [h1] at hti
      have e1:=@wrapu k (by omega)
      have e2:=@e_shl1 false .u64 k (by omega)
      have hw:=with_m 0 (2 ^ k) (by omega) (p2_lt h2)
      rw [Nat.zero_or,show ((0 : Nat) : Int) = 0 from rfl] at hw
      generalize t.getD i default = x at *
      obtain ⟨kd,nm,tx,lb,kc⟩:=x
      simp only at hk hti
      subst hk
      refine meets_upf Try.func91 u_impl_operandTerms_g rfl ?_;simp only [u_impl_operandTerms_u]
      simp only [encNods,encSs,encNod] at hix hti ⊢
      repeat' (first | (with_reducible first | refine jn_in ?_ | refine cl_ok (by assumption) rfl ?_ | refine cl_okP (by assumption) rfl ?_ | refine br_x (fun hbr=>?_) fun hbr=>?_) | simp (disch:=first | omega | (simp only [lnA];omega) | simp only [lnB,Nat.reduceAdd]) only [go_sem,↓reduceIte,Nat.reduceAdd,reduceNeg,Int.reduceAdd,reduceSub,reduceMul,reduceLT,reduceLE,reduceEq,reduceToNat,Nat.reduceBEq,nat1,hix,e1,e2])
      all_goals first | omega | rfl | skip
    by_cases hk2 : (t.getD i default).kind = 2
    · have hr : opM t V (n + 1) i = (1,decide ((t.getD i default).num = 1)):=by rw [opM,if_neg hk,if_pos hk2]
      rw [hr]
      have hw:=with_m 0 0 (by omega) (by omega)
      rw [show (0 ||| 2 ^ 0 : Nat) = 1 from rfl,show ((0 : Nat) : Int) = 0 from rfl] at hw
      generalize t.getD i default = x at *
      obtain ⟨kd,nm,tx,lb,kc⟩:=x
      simp only at hk2 ⊢
      subst hk2
      refine meets_upf Try.func91 u_impl_operandTerms_g rfl ?_;simp only [u_impl_operandTerms_u]
      simp only [encNods,encSs,encNod] at hix ⊢
      repeat' (first | (with_reducible first | refine jn_in ?_ | refine cl_ok (by assumption) rfl ?_ | refine cl_okP (by assumption) rfl ?_ | refine br_x (fun hbr=>?_) fun hbr=>?_) | simp (disch:=first | omega | (simp only [lnA];omega) | simp only [lnB,Nat.reduceAdd]) only [go_sem,↓reduceIte,Nat.reduceAdd,reduceNeg,Int.reduceAdd,reduceSub,reduceMul,reduceLT,reduceLE,reduceEq,reduceToNat,Nat.reduceBEq,nat1,hix])
      all_goals first | omega | rfl | skip
    by_cases hk3 : (t.getD i default).kind = 11
    rotate_left
    · have hr : opM t V (n + 1) i = (0,false):=by rw [opM,if_neg hk,if_neg hk2,if_pos hk3]
      rw [hr]
      generalize t.getD i default = x at *
      obtain ⟨kd,nm,tx,lb,kc⟩:=x
      simp only at hk hk2 hk3
      refine meets_upf Try.func91 u_impl_operandTerms_g rfl ?_;simp only [u_impl_operandTerms_u]
      simp only [encNods,encSs,encNod] at hix ⊢
      repeat' (first | (with_reducible first | refine jn_in ?_ | refine cl_ok (by assumption) rfl ?_ | refine cl_okP (by assumption) rfl ?_ | refine br_x (fun hbr=>?_) fun hbr=>?_) | simp (disch:=first | omega | (simp only [lnA];omega) | simp only [lnB,Nat.reduceAdd]) only [go_sem,↓reduceIte,Nat.reduceAdd,reduceNeg,Int.reduceAdd,reduceSub,reduceMul,reduceLT,reduceLE,reduceEq,reduceToNat,Nat.reduceBEq,nat1,hix,hk,hk2,hk3,decide_false,decide_not])
      all_goals first | omega | rfl | contradiction | skip
    have h2:=kids_two hT hi hk3
    have hkk:=implKidsT_m t hT i hi
    have hkm : ∀ j,j < 2→kidI t i j < t.length∧InV t V (kidI t i j)∧kidI t i j < n∧(kidsT t i).getD j default = ((kidI t i j : Nat) : Int):=fun j hj=>by
      have hm:=getD_mem (l:=kidsT t i) (i:=j) (by omega)
      have h3:=kid_in hT hi hm
      unfold kidI
      exact ⟨by omega,inV_kid hT hi hm hI,by omega,by omega⟩
    obtain ⟨a1,a2,a3,a4⟩:=hkm 0 (by omega)
    obtain ⟨b1,b2,b3,b4⟩:=hkm 1 (by omega)
    have hA:=implTerms_m hT hV a3 a1 a2
    have hB:=implTerms_m hT hV b3 b1 b2
    have la:=opM_lt hT hV (n:=n) a1 a2
    have lb:=opM_lt hT hV (n:=n) b1 b2
    have hr : opM t V (n + 1) i = if (opM t V n (kidI t i 0)).2 = false ∨ (opM t V n (kidI t i 1)).2 = false then (0,false)
        else if (t.getD i default).text = ⟨#[43]⟩ then ((opM t V n (kidI t i 0)).1 ||| (opM t V n (kidI t i 1)).1,true)
        else if (t.getD i default).text = ⟨#[45]⟩ then (andN (opM t V n (kidI t i 0)).1 (opM t V n (kidI t i 1)).1,true)
        else if (t.getD i default).text = ⟨#[58]⟩ then (crs (opM t V n (kidI t i 0)).1 (opM t V n (kidI t i 1)).1,true)
        else if (t.getD i default).text = ⟨#[42]⟩ then ((opM t V n (kidI t i 0)).1 ||| (opM t V n (kidI t i 1)).1 ||| crs (opM t V n (kidI t i 0)).1 (opM t V n (kidI t i 1)).1,true)
        else (0,false):=by rw [opM,if_neg hk,if_neg hk2,if_neg (by rw [hk3];decide)]
    rw [hr]
    clear hr
    generalize opM t V n (kidI t i 0) = A at *
    generalize opM t V n (kidI t i 1) = B at *
    obtain ⟨A,oa⟩:=A
    obtain ⟨B,ob⟩:=B
    simp only at hA hB la lb ⊢
    have hc:=crossed_m A B la lb
    have hor:=@e_or32 false A B la lb
    have hl : A ||| B < 4294967296:=Nat.or_lt_two_pow (n:=32) la lb
    have hor2:=@e_or32 false (A ||| B) (crs A B) hl (crs_lt _ _)
    have han:=@e_andN false A B
    clear hk hk2 hkm
    generalize kidsT t i = K at *
    generalize kidI t i 0 = k0 at *
    generalize kidI t i 1 = k1 at *
    generalize t.getD i default = x at *
    obtain ⟨kd,nm,tx,lbs,kc⟩:=x
    simp only at hk3 ⊢
    subst hk3
    simp only [encNods,encSs,encNod,encZs] at hix hkk hA hB ⊢
    cases oa
    · refine meets_upf Try.func91 u_impl_operandTerms_g rfl ?_;simp only [u_impl_operandTerms_u]
      repeat' (first | (with_reducible first | refine jn_in ?_ | refine cl_ok (by assumption) rfl ?_ | refine cl_okP (by assumption) rfl ?_ | refine br_x (fun hbr=>?_) fun hbr=>?_) | simp (disch:=first | omega | (simp only [lnA];omega) | simp only [lnB,Nat.reduceAdd]) only [go_sem,↓reduceIte,Nat.reduceAdd,reduceNeg,Int.reduceAdd,reduceSub,reduceMul,reduceLT,reduceLE,reduceEq,reduceToNat,Nat.reduceBEq,nat1,hix,a4,b4])
      all_goals first | omega | rfl | skip
    cases ob
    · refine meets_upf Try.func91 u_impl_operandTerms_g rfl ?_;simp only [u_impl_operandTerms_u]
      repeat' (first | (with_reducible first | refine jn_in ?_ | refine cl_ok (by assumption) rfl ?_ | refine cl_okP (by assumption) rfl ?_ | refine br_x (fun hbr=>?_) fun hbr=>?_) | simp (disch:=first | omega | (simp only [lnA];omega) | simp only [lnB,Nat.reduceAdd]) only [go_sem,↓reduceIte,Nat.reduceAdd,reduceNeg,Int.reduceAdd,reduceSub,reduceMul,reduceLT,reduceLE,reduceEq,reduceToNat,Nat.reduceBEq,nat1,hix,a4,b4])
      all_goals first | omega | rfl | skip
    by_cases t1 : tx = ⟨#[43]⟩
    · subst t1
      refine meets_upf Try.func91 u_impl_operandTerms_g rfl ?_;simp only [u_impl_operandTerms_u]
      repeat' (first | (with_reducible first | refine jn_in ?_ | refine cl_ok (by assumption) rfl ?_ | refine cl_okP (by assumption) rfl ?_ | refine br_x (fun hbr=>?_) fun hbr=>?_) | simp (disch:=first | omega | (simp only [lnA];omega) | simp only [lnB,Nat.reduceAdd]) only [go_sem,↓reduceIte,Nat.reduceAdd,reduceNeg,Int.reduceAdd,reduceSub,reduceMul,reduceLT,reduceLE,reduceEq,reduceToNat,Nat.reduceBEq,nat1,hix,a4,b4,hor])
      all_goals first | omega | rfl | skip
    by_cases t2 : tx = ⟨#[45]⟩
    · subst t2
      refine meets_upf Try.func91 u_impl_operandTerms_g rfl ?_;simp only [u_impl_operandTerms_u]
      repeat' (first | (with_reducible first | refine jn_in ?_ | refine cl_ok (by assumption) rfl ?_ | refine cl_okP (by assumption) rfl ?_ | refine br_x (fun hbr=>?_) fun hbr=>?_) | simp (disch:=first | omega | (simp only [lnA];omega) | simp only [lnB,Nat.reduceAdd]) only [go_sem,↓reduceIte,Nat.reduceAdd,reduceNeg,Int.reduceAdd,reduceSub,reduceMul,reduceLT,reduceLE,reduceEq,reduceToNat,Nat.reduceBEq,nat1,hix,a4,b4,han,t1,decide_false])
      all_goals first | omega | rfl | skip
    by_cases t3 : tx = ⟨#[58]⟩
    · subst t3
      refine meets_upf Try.func91 u_impl_operandTerms_g rfl ?_;simp only [u_impl_operandTerms_u]
      repeat' (first | (with_reducible first | refine jn_in ?_ | refine cl_ok (by assumption) rfl ?_ | refine cl_okP (by assumption) rfl ?_ | refine br_x (fun hbr=>?_) fun hbr=>?_) | simp (disch:=first | omega | (simp only [lnA];omega) | simp only [lnB,Nat.reduceAdd]) only [go_sem,↓reduceIte,Nat.reduceAdd,reduceNeg,Int.reduceAdd,reduceSub,reduceMul,reduceLT,reduceLE,reduceEq,reduceToNat,Nat.reduceBEq,nat1,hix,a4,b4,t1,t2,decide_false])
      all_goals first | omega | rfl | skip
    by_cases t4 : tx = ⟨#[42]⟩
    · subst t4
      refine meets_upf Try.func91 u_impl_operandTerms_g rfl ?_;simp only [u_impl_operandTerms_u]
      repeat' (first | (with_reducible first | refine jn_in ?_ | refine cl_ok (by assumption) rfl ?_ | refine cl_okP (by assumption) rfl ?_ | refine br_x (fun hbr=>?_) fun hbr=>?_) | simp (disch:=first | omega | (simp only [lnA];omega) | simp only [lnB,Nat.reduceAdd]) only [go_sem,↓reduceIte,Nat.reduceAdd,reduceNeg,Int.reduceAdd,reduceSub,reduceMul,reduceLT,reduceLE,reduceEq,reduceToNat,Nat.reduceBEq,nat1,hix,a4,b4,hor,hor2,t1,t2,t3,decide_false])
      all_goals first | omega | rfl | skip
    refine meets_upf Try.func91 u_impl_operandTerms_g rfl ?_;simp only [u_impl_operandTerms_u]
    repeat' (first | (with_reducible first | refine jn_in ?_ | refine cl_ok (by assumption) rfl ?_ | refine cl_okP (by assumption) rfl ?_ | refine br_x (fun hbr=>?_) fun hbr=>?_) | simp (disch:=first | omega | (simp only [lnA];omega) | simp only [lnB,Nat.reduceAdd]) only [go_sem,↓reduceIte,Nat.reduceAdd,reduceNeg,Int.reduceAdd,reduceSub,reduceMul,reduceLT,reduceLE,reduceEq,reduceToNat,Nat.reduceBEq,nat1,hix,a4,b4,t1,t2,t3,t4,decide_false])
    all_goals first | omega | rfl | skip
theorem putZ_len (l : List Int) (x : Int) : (putZ l x).length≤l.length + 1:=by
  unfold putZ
  have:=withoutZ_len l x
  rw [insI_len];omega
theorem foldl_take {β : Type} (f : β→Int→β) (b : β) {L : List Int} {i : Nat} (h : i < L.length) : (L.take (i + 1)).foldl f b = f ((L.take i).foldl f b) (L.getD i default):=by
  rw [List.take_succ_eq_append_getElem h,List.foldl_append,List.getD_eq_getElem?_getD,List.getElem?_eq_getElem h];rfl
theorem good_le {l : List Int} (h : GoodT l) : ∀ z ∈ l,z≤9223372036854775807:=fun z hz=>by have:=h.2 z hz;omega
theorem good_at {l : List Int} (h : GoodT l) {i : Nat} (hi : i < l.length) : 0≤l.getD i default∧l.getD i default < 32:=h.2 _ (getD_mem hi)
theorem good_take {l : List Int} (h : GoodT l) (i : Nat) : ∀ z ∈ l.take i,0≤z∧z < 32:=fun z hz=>h.2 z (List.mem_of_mem_take hz)
theorem e_orZ {c : Bool} {a b : Int} (ha : 0≤a∧a < 32) (hb : 0≤b∧b < 32) : eBin .or c (some (.sc (.int .i64 a))) (some (.sc (.int .i64 b))) = some [.sc (.int .i64 (orZ a b))]:=e_orI ha.1 (by omega) hb.1 (by omega)
theorem d1 : decide ((⟨#[43]⟩ : ByteArray) = ⟨#[45]⟩) = false:=by decide
theorem d2 : decide ((⟨#[43]⟩ : ByteArray) = ⟨#[58]⟩) = false:=by decide
theorem d3 : decide ((⟨#[58]⟩ : ByteArray) = ⟨#[45]⟩) = false:=by decide
theorem d4 : decide ((⟨#[58]⟩ : ByteArray) = ⟨#[43]⟩) = false:=by decide
theorem d5 : decide ((⟨#[45]⟩ : ByteArray) = ⟨#[58]⟩) = false:=by decide
theorem d6 : decide ((⟨#[42]⟩ : ByteArray) = ⟨#[45]⟩) = false:=by decide
theorem d7 : decide ((⟨#[42]⟩ : ByteArray) = ⟨#[58]⟩) = false:=by decide
theorem d8 : decide ((⟨#[42]⟩ : ByteArray) = ⟨#[43]⟩) = false:=by decide
set_option maxHeartbeats 8000000 in
theorem specTerms_m {t : List Nod} {V : List ByteArray} (hT : treeB t = true) (hV : V.length≤5) : ∀ {n i : Nat},i < n→i < t.length→InV t V i →
    ∃ L : List Int,(GoodT L∧((opM t V n i).2 = true→SetT L (opM t V n i).1))∧Meets Try.prog 86 [(false,[encNods t]),(false,[.sc (.int .i64 i)]),(false,[encSs V])] [(false,[encZs L],true),(false,[.sc (.bool (opM t V n i).2)],true)]
  | 0,i,h,_,_=>by omega
  | n + 1,i,h,hi,hI=>by
    have htl:=tree_len hT
    have hix:=ix_Nod (t:=73) (l:=t) (kd:=.i64) (z:=(i : Int)) (by omega) (by omega)
    simp only [Int.toNat_natCast] at hix
    have hkk:=specKidsT_m t hT i hi
    by_cases hk : (t.getD i default).kind = 7
    · obtain ⟨k,h1,h2⟩:=find1_in hV (hI i (startT_le t i) (Nat.le_refl _) hk)
      have hr : opM t V (n + 1) i = (2 ^ (2 ^ k),true):=by rw [opM,if_pos hk,h1,Int.toNat_natCast]
      rw [hr]
      have hp2:=p2_lt h2
      refine ⟨[((2 ^ k : Nat) : Int)],⟨good_one (Int.natCast_nonneg _) (by omega),fun _ z hz=>?_⟩,?_⟩
      · rw [List.mem_singleton,Nat.testBit_two_pow,decide_eq_true_eq];omega
      have hti:=l1Find_m 9 V (t.getD i default).text (by omega)
      rw [h1] at hti
      have e2:=@e_shl1 false .i64 k (by omega)
      generalize t.getD i default = x at *
      obtain ⟨kd,nm,tx,lb,kc⟩:=x
      simp only at hk hti
      subst hk
      refine meets_upf Try.func86 u_spec_l21Terms_g rfl ?_;simp only [u_spec_l21Terms_u]
      simp only [encNods,encSs,encNod,encZs] at hix hti hkk ⊢
      repeat' (first | (with_reducible first | refine jn_in ?_ | refine cl_ok (by assumption) rfl ?_ | refine cl_okP (by assumption) rfl ?_ | refine br_x (fun hbr=>?_) fun hbr=>?_) | simp (disch:=first | omega | (simp only [lnA];omega) | simp only [lnB,Nat.reduceAdd]) only [go_sem,↓reduceIte,Nat.reduceAdd,reduceNeg,Int.reduceAdd,reduceSub,reduceMul,reduceLT,reduceLE,reduceEq,reduceToNat,Nat.reduceBEq,nat1,hix,e2])
      all_goals first | omega | rfl | skip
    by_cases hk2 : (t.getD i default).kind = 2
    · have hr : opM t V (n + 1) i = (1,decide ((t.getD i default).num = 1)):=by rw [opM,if_neg hk,if_pos hk2]
      rw [hr]
      refine ⟨[0],⟨good_one (by omega) (by omega),fun _ z hz=>?_⟩,?_⟩
      · rw [List.mem_singleton,show (1 : Nat) = 2 ^ 0 from rfl,Nat.testBit_two_pow,decide_eq_true_eq];omega
      generalize t.getD i default = x at *
      obtain ⟨kd,nm,tx,lb,kc⟩:=x
      simp only at hk2 ⊢
      subst hk2
      refine meets_upf Try.func86 u_spec_l21Terms_g rfl ?_;simp only [u_spec_l21Terms_u]
      simp only [encNods,encSs,encNod,encZs] at hix hkk ⊢
      repeat' (first | (with_reducible first | refine jn_in ?_ | refine cl_ok (by assumption) rfl ?_ | refine cl_okP (by assumption) rfl ?_ | refine br_x (fun hbr=>?_) fun hbr=>?_) | simp (disch:=first | omega | (simp only [lnA];omega) | simp only [lnB,Nat.reduceAdd]) only [go_sem,↓reduceIte,Nat.reduceAdd,reduceNeg,Int.reduceAdd,reduceSub,reduceMul,reduceLT,reduceLE,reduceEq,reduceToNat,Nat.reduceBEq,nat1,hix])
      all_goals first | omega | rfl | skip
    by_cases hk3 : (t.getD i default).kind = 11
    rotate_left
    · have hr : opM t V (n + 1) i = (0,false):=by rw [opM,if_neg hk,if_neg hk2,if_pos hk3]
      rw [hr]
      refine ⟨[],⟨good_nil,fun h=>by cases h⟩,?_⟩
      generalize t.getD i default = x at *
      obtain ⟨kd,nm,tx,lb,kc⟩:=x
      simp only at hk hk2 hk3
      refine meets_upf Try.func86 u_spec_l21Terms_g rfl ?_;simp only [u_spec_l21Terms_u]
      simp only [encNods,encSs,encNod,encZs] at hix hkk ⊢
      repeat' (first | (with_reducible first | refine jn_in ?_ | refine cl_ok (by assumption) rfl ?_ | refine cl_okP (by assumption) rfl ?_ | refine br_x (fun hbr=>?_) fun hbr=>?_) | simp (disch:=first | omega | (simp only [lnA];omega) | simp only [lnB,Nat.reduceAdd]) only [go_sem,↓reduceIte,Nat.reduceAdd,reduceNeg,Int.reduceAdd,reduceSub,reduceMul,reduceLT,reduceLE,reduceEq,reduceToNat,Nat.reduceBEq,nat1,hix,hk,hk2,hk3,decide_false,decide_not])
      all_goals first | omega | rfl | contradiction | skip
    have h2:=kids_two hT hi hk3
    have hkm : ∀ j,j < 2→kidI t i j < t.length∧InV t V (kidI t i j)∧kidI t i j < n∧(kidsT t i).getD j default = ((kidI t i j : Nat) : Int):=fun j hj=>by
      have hm:=getD_mem (l:=kidsT t i) (i:=j) (by omega)
      have h3:=kid_in hT hi hm
      unfold kidI
      exact ⟨by omega,inV_kid hT hi hm hI,by omega,by omega⟩
    obtain ⟨a1,a2,a3,a4⟩:=hkm 0 (by omega)
    obtain ⟨b1,b2,b3,b4⟩:=hkm 1 (by omega)
    obtain ⟨La,⟨gA,sA⟩,hA⟩:=specTerms_m hT hV a3 a1 a2
    obtain ⟨Lb,⟨gB,sB⟩,hB⟩:=specTerms_m hT hV b3 b1 b2
    have hr : opM t V (n + 1) i = if (opM t V n (kidI t i 0)).2 = false ∨ (opM t V n (kidI t i 1)).2 = false then (0,false)
        else if (t.getD i default).text = ⟨#[43]⟩ then ((opM t V n (kidI t i 0)).1 ||| (opM t V n (kidI t i 1)).1,true)
        else if (t.getD i default).text = ⟨#[45]⟩ then (andN (opM t V n (kidI t i 0)).1 (opM t V n (kidI t i 1)).1,true)
        else if (t.getD i default).text = ⟨#[58]⟩ then (crs (opM t V n (kidI t i 0)).1 (opM t V n (kidI t i 1)).1,true)
        else if (t.getD i default).text = ⟨#[42]⟩ then ((opM t V n (kidI t i 0)).1 ||| (opM t V n (kidI t i 1)).1 ||| crs (opM t V n (kidI t i 0)).1 (opM t V n (kidI t i 1)).1,true)
        else (0,false):=by rw [opM,if_neg hk,if_neg hk2,if_neg (by rw [hk3];decide)]
    rw [hr]
    clear hr
    generalize opM t V n (kidI t i 0) = A at *
    generalize opM t V n (kidI t i 1) = B at *
    obtain ⟨A,oa⟩:=A
    obtain ⟨B,ob⟩:=B
    simp only at hA hB sA sB ⊢
    clear hk hk2 hkm
    generalize kidsT t i = K at *
    generalize kidI t i 0 = k0 at *
    generalize kidI t i 1 = k1 at *
    generalize t.getD i default = x at *
    obtain ⟨kd,nm,tx,lbs,kc⟩:=x
    simp only at hk3 ⊢
    subst hk3
    have hlA:=good_len gA
    have hlB:=good_len gB
    have hhas:=l1Has_m 9 [⟨#[43]⟩,⟨#[45]⟩,⟨#[58]⟩,⟨#[42]⟩] tx (by simp)
    simp only [encNods,encSs,encNod,encZs] at hix hkk hA hB ⊢
    simp only [List.map_cons,List.map_nil,encS] at hhas
    have hif : ∀ (M : Nat × Bool),M.2 = true→∀ L : List Int,(oa = true→ob = true→SetT L M.1)→((if oa = false ∨ ob = false then (0,false) else M).2 = true→SetT L (if oa = false ∨ ob = false then (0,false) else M).1)∧(if oa = false ∨ ob = false then (0,false) else M).2 = (oa && ob):=fun M hM L hL=>by
      cases oa <;> cases ob <;> simp_all
    by_cases t1 : tx = ⟨#[43]⟩
    · subst t1
      rw [if_pos rfl]
      obtain ⟨q1,q2⟩:=hif (A ||| B,true) rfl (Lb.foldl (fun o a=>putZ o (id a)) La) fun h1 h2=>set_or (sA h1) (sB h2) fun z=>by rw [mem_foldP];simp
      refine ⟨Lb.foldl (fun o a=>putZ o (id a)) La,⟨good_foldP gA gB.2,q1⟩,?_⟩
      rw [q2]
      clear q1 q2 hif
      have hb : hasB [⟨#[43]⟩,⟨#[45]⟩,⟨#[58]⟩,⟨#[42]⟩] ⟨#[43]⟩ = true:=by decide
      rw [hb] at hhas
      refine meets_upf Try.func86 u_spec_l21Terms_g rfl ?_;simp only [u_spec_l21Terms_u]
      repeat' (first | (with_reducible first | refine jn_in ?_ | refine cl_ok (by assumption) rfl ?_ | refine cl_okP (by assumption) rfl ?_ | refine br_x (fun hbr=>?_) fun hbr=>?_) | simp (disch:=first | omega | (simp only [lnA];omega) | simp only [lnB,Nat.reduceAdd]) only [go_sem,↓reduceIte,Nat.reduceAdd,reduceNeg,Int.reduceAdd,reduceSub,reduceMul,reduceLT,reduceLE,reduceEq,reduceToNat,Nat.reduceBEq,nat1,hix,a4,b4,u_spec_l21Terms_j4,d2])
      refine lp_n Lb.length (fun m=>[.sc (.int .i64 m),.sl 3 1 (((Lb.take m).foldl (fun o a=>putZ o (id a)) La).map encZ)]) rfl fun m hm=>?_
      simp only [u_spec_l21Terms_l3]
      by_cases hlt : m < Lb.length
      · have ht:=foldl_take (fun o a=>putZ o (id a)) La hlt
        have hg:=good_foldP (f:=id) (l:=Lb.take m) gA (good_take gB m)
        rw [ht]
        generalize (Lb.take m).foldl (fun o a=>putZ o (id a)) La = o at *
        have hgl:=good_len hg
        have hb:=good_at gB hlt
        have hput:=l21Put_m 3 o (Lb.getD m default) (by omega) (by omega) (good_le hg)
        have hpl:=putZ_len o (Lb.getD m default)
        repeat' (first | (with_reducible first | refine jn_in ?_ | refine cl_ok (by assumption) rfl ?_ | refine cl_okP (by assumption) rfl ?_ | refine br_x (fun hbr=>?_) fun hbr=>?_) | simp (disch:=first | omega | (simp only [lnA];omega) | simp only [lnB,Nat.reduceAdd]) only [go_sem,↓reduceIte,Nat.reduceAdd,reduceNeg,Int.reduceAdd,reduceSub,reduceMul,reduceLT,reduceLE,reduceEq,reduceToNat,Nat.reduceBEq,nat1,d1,d2,u_spec_l21Terms_j2,u_spec_l21Terms_j1])
        all_goals first | omega | skip
        refine lp (fun _ : Unit=>[.sc (.int .i64 0),.sl 3 1 ((putZ o (Lb.getD m default)).map encZ)]) (fun _=>True) (fun _=>0) () rfl trivial ?_
        rintro ⟨⟩ -
        simp only [u_spec_l21Terms_l0]
        repeat' (first | (with_reducible first | refine jn_in ?_ | refine cl_ok (by assumption) rfl ?_ | refine cl_okP (by assumption) rfl ?_ | refine br_x (fun hbr=>?_) fun hbr=>?_) | simp (disch:=first | omega | (simp only [lnA];omega) | simp only [lnB,Nat.reduceAdd]) only [go_sem,↓reduceIte,Nat.reduceAdd,reduceNeg,Int.reduceAdd,reduceSub,reduceMul,reduceLT,reduceLE,reduceEq,reduceToNat,Nat.reduceBEq,nat1,u_spec_l21Terms_j2])
        all_goals first | omega | exact ⟨rfl,hlt⟩ | skip
      obtain rfl : m = Lb.length:=by omega
      rw [List.take_length]
      cases oa <;> repeat' (first | (with_reducible first | refine jn_in ?_ | refine cl_ok (by assumption) rfl ?_ | refine cl_okP (by assumption) rfl ?_ | refine br_x (fun hbr=>?_) fun hbr=>?_) | simp (disch:=first | omega | (simp only [lnA];omega) | simp only [lnB,Nat.reduceAdd]) only [go_sem,↓reduceIte,Nat.reduceAdd,reduceNeg,Int.reduceAdd,reduceSub,reduceMul,reduceLT,reduceLE,reduceEq,reduceToNat,Nat.reduceBEq,nat1,true_and])
      all_goals first | omega | rfl | skip
    by_cases t2 : tx = ⟨#[45]⟩
    · subst t2
      rw [if_neg t1,if_pos rfl]
      obtain ⟨q1,q2⟩:=hif (andN A B,true) rfl (Lb.foldl withoutZ La) fun h1 h2=>set_and (sA h1) (sB h2) fun z=>by rw [mem_foldW]
      refine ⟨Lb.foldl withoutZ La,⟨good_foldW gA,q1⟩,?_⟩
      rw [q2]
      clear q1 q2 hif
      have hb : hasB [⟨#[43]⟩,⟨#[45]⟩,⟨#[58]⟩,⟨#[42]⟩] ⟨#[45]⟩ = true:=by decide
      rw [hb] at hhas
      refine meets_upf Try.func86 u_spec_l21Terms_g rfl ?_;simp only [u_spec_l21Terms_u]
      repeat' (first | (with_reducible first | refine jn_in ?_ | refine cl_ok (by assumption) rfl ?_ | refine cl_okP (by assumption) rfl ?_ | refine br_x (fun hbr=>?_) fun hbr=>?_) | simp (disch:=first | omega | (simp only [lnA];omega) | simp only [lnB,Nat.reduceAdd]) only [go_sem,↓reduceIte,Nat.reduceAdd,reduceNeg,Int.reduceAdd,reduceSub,reduceMul,reduceLT,reduceLE,reduceEq,reduceToNat,Nat.reduceBEq,nat1,hix,a4,b4,u_spec_l21Terms_j4,d5])
      refine lp_n Lb.length (fun m=>[.sc (.int .i64 m),.sl 3 1 (((Lb.take m).foldl withoutZ La).map encZ)]) rfl fun m hm=>?_
      simp only [u_spec_l21Terms_l3]
      by_cases hlt : m < Lb.length
      · have ht:=foldl_take withoutZ La hlt
        have hg:=good_foldW (l:=Lb.take m) gA
        rw [ht]
        generalize (Lb.take m).foldl withoutZ La = o at *
        have hgl:=good_len hg
        have hput:=l21Without_m 3 o (Lb.getD m default) (by omega)
        have hpl:=withoutZ_len o (Lb.getD m default)
        simp only [encZs] at hput
        repeat' (first | (with_reducible first | refine jn_in ?_ | refine cl_ok (by assumption) rfl ?_ | refine cl_okP (by assumption) rfl ?_ | refine br_x (fun hbr=>?_) fun hbr=>?_) | simp (disch:=first | omega | (simp only [lnA];omega) | simp only [lnB,Nat.reduceAdd]) only [go_sem,↓reduceIte,Nat.reduceAdd,reduceNeg,Int.reduceAdd,reduceSub,reduceMul,reduceLT,reduceLE,reduceEq,reduceToNat,Nat.reduceBEq,nat1,u_spec_l21Terms_j2,u_spec_l21Terms_j1])
        all_goals first | omega | exact ⟨rfl,hlt⟩ | skip
      obtain rfl : m = Lb.length:=by omega
      rw [List.take_length]
      cases oa <;> repeat' (first | (with_reducible first | refine jn_in ?_ | refine cl_ok (by assumption) rfl ?_ | refine cl_okP (by assumption) rfl ?_ | refine br_x (fun hbr=>?_) fun hbr=>?_) | simp (disch:=first | omega | (simp only [lnA];omega) | simp only [lnB,Nat.reduceAdd]) only [go_sem,↓reduceIte,Nat.reduceAdd,reduceNeg,Int.reduceAdd,reduceSub,reduceMul,reduceLT,reduceLE,reduceEq,reduceToNat,Nat.reduceBEq,nat1,true_and])
      all_goals first | omega | rfl | skip
    by_cases t3 : tx = ⟨#[58]⟩
    · subst t3
      rw [if_neg t1,if_neg t2,if_pos rfl]
      obtain ⟨q1,q2⟩:=hif (crs A B,true) rfl (Lb.foldl (crossL La) []) fun h1 h2=>set_crs gA gB (sA h1) (sB h2) fun z=>by rw [mem_foldC];simp
      refine ⟨Lb.foldl (crossL La) [],⟨good_foldC gA good_nil gB.2,q1⟩,?_⟩
      rw [q2]
      clear q1 q2 hif
      have hb : hasB [⟨#[43]⟩,⟨#[45]⟩,⟨#[58]⟩,⟨#[42]⟩] ⟨#[58]⟩ = true:=by decide
      rw [hb] at hhas
      refine meets_upf Try.func86 u_spec_l21Terms_g rfl ?_;simp only [u_spec_l21Terms_u]
      repeat' (first | (with_reducible first | refine jn_in ?_ | refine cl_ok (by assumption) rfl ?_ | refine cl_okP (by assumption) rfl ?_ | refine br_x (fun hbr=>?_) fun hbr=>?_) | simp (disch:=first | omega | (simp only [lnA];omega) | simp only [lnB,Nat.reduceAdd]) only [go_sem,↓reduceIte,Nat.reduceAdd,reduceNeg,Int.reduceAdd,reduceSub,reduceMul,reduceLT,reduceLE,reduceEq,reduceToNat,Nat.reduceBEq,nat1,hix,a4,b4,u_spec_l21Terms_j4,d3,d4])
      all_goals first | omega | contradiction | skip
      refine lp_n Lb.length (fun m=>[.sc (.int .i64 m),.sl 3 1 (((Lb.take m).foldl (crossL La) []).map encZ)]) rfl fun m hm=>?_
      simp only [u_spec_l21Terms_l3]
      by_cases hlt : m < Lb.length
      · have ht:=foldl_take (crossL La) [] hlt
        have hg : GoodT ((Lb.take m).foldl (crossL La) []):=good_foldC gA good_nil (good_take gB m)
        have hst : ∀ o b,crossL La o b = La.foldl (fun o a=>putZ o (orZ a b)) (o):=fun _ _=>rfl
        rw [ht,hst]
        generalize (Lb.take m).foldl (crossL La) [] = o at *
        have hgl:=good_len hg
        have hb:=good_at gB hlt
        have hput:=l21Put_m 3 o (Lb.getD m default) (by omega) (by omega) (good_le hg)
        have hpl:=putZ_len o (Lb.getD m default)
        have hbi : (Lb.getD m default) = Lb.getD m default:=rfl
        generalize hbe : Lb.getD m default = b at *
        clear hbi
        have hbi:=hbe
        repeat' (first | (with_reducible first | refine jn_in ?_ | refine cl_ok (by assumption) rfl ?_ | refine cl_okP (by assumption) rfl ?_ | refine br_x (fun hbr=>?_) fun hbr=>?_) | simp (disch:=first | omega | (simp only [lnA];omega) | simp only [lnB,Nat.reduceAdd]) only [go_sem,↓reduceIte,Nat.reduceAdd,reduceNeg,Int.reduceAdd,reduceSub,reduceMul,reduceLT,reduceLE,reduceEq,reduceToNat,Nat.reduceBEq,nat1,d3,d4,u_spec_l21Terms_j2,u_spec_l21Terms_j1])
        all_goals first | omega | skip
        refine lp_n La.length (fun j=>[.sc (.int .i64 j),.sl 3 1 (((La.take j).foldl (fun o a=>putZ o (orZ a b)) o).map encZ)]) rfl fun j hj=>?_
        simp only [u_spec_l21Terms_l0]
        by_cases hlj : j < La.length
        · have htj:=foldl_take (fun o a=>putZ o (orZ a b)) (o) hlj
          have hgj:=good_foldP (f:=fun a=>orZ a b) (l:=La.take j) hg fun a ha=>orZ_lt (good_take gA j a ha) hb
          rw [htj]
          generalize (La.take j).foldl (fun o a=>putZ o (orZ a b)) (o) = o2 at *
          have hgl2:=good_len hgj
          have ha:=good_at gA hlj
          have hor:=@e_orZ false _ _ ha hb
          have hol:=orZ_lt ha hb
          have hput2:=l21Put_m 3 o2 (orZ (La.getD j default) b) (by omega) (by omega) (good_le hgj)
          have hpl2:=putZ_len o2 (orZ (La.getD j default) b)
          repeat' (first | (with_reducible first | refine jn_in ?_ | refine cl_ok (by assumption) rfl ?_ | refine cl_okP (by assumption) rfl ?_ | refine br_x (fun hbr=>?_) fun hbr=>?_) | simp (disch:=first | omega | (simp only [lnA];omega) | simp only [lnB,Nat.reduceAdd]) only [go_sem,↓reduceIte,Nat.reduceAdd,reduceNeg,Int.reduceAdd,reduceSub,reduceMul,reduceLT,reduceLE,reduceEq,reduceToNat,Nat.reduceBEq,nat1,d3,d4,hor,hbi])
          all_goals first | omega | exact ⟨rfl,hlj⟩ | skip
        obtain rfl : j = La.length:=by omega
        rw [List.take_length]
        repeat' (first | (with_reducible first | refine jn_in ?_ | refine cl_ok (by assumption) rfl ?_ | refine cl_okP (by assumption) rfl ?_ | refine br_x (fun hbr=>?_) fun hbr=>?_) | simp (disch:=first | omega | (simp only [lnA];omega) | simp only [lnB,Nat.reduceAdd]) only [go_sem,↓reduceIte,Nat.reduceAdd,reduceNeg,Int.reduceAdd,reduceSub,reduceMul,reduceLT,reduceLE,reduceEq,reduceToNat,Nat.reduceBEq,nat1,d3,d4,u_spec_l21Terms_j2])
        all_goals first | omega | exact ⟨rfl,hlt⟩ | skip
      obtain rfl : m = Lb.length:=by omega
      rw [List.take_length]
      cases oa <;> repeat' (first | (with_reducible first | refine jn_in ?_ | refine cl_ok (by assumption) rfl ?_ | refine cl_okP (by assumption) rfl ?_ | refine br_x (fun hbr=>?_) fun hbr=>?_) | simp (disch:=first | omega | (simp only [lnA];omega) | simp only [lnB,Nat.reduceAdd]) only [go_sem,↓reduceIte,Nat.reduceAdd,reduceNeg,Int.reduceAdd,reduceSub,reduceMul,reduceLT,reduceLE,reduceEq,reduceToNat,Nat.reduceBEq,nat1,true_and])
      all_goals first | omega | rfl | skip
    by_cases t4 : tx = ⟨#[42]⟩
    · subst t4
      rw [if_neg t1,if_neg t2,if_neg t3,if_pos rfl]
      obtain ⟨q1,q2⟩:=hif (A ||| B ||| crs A B,true) rfl (Lb.foldl (starL La) La) fun h1 h2=>set_or (o:=Lb.foldl (starL La) La) (A:=Lb.foldl (fun o a=>putZ o (id a)) La) (B:=Lb.foldl (crossL La) []) (set_or (sA h1) (sB h2) fun z=>mem_foldP.trans (by simp)) (set_crs gA gB (sA h1) (sB h2) fun z=>mem_foldC.trans (by simp)) fun z=>mem_foldS.trans (by rw [mem_foldP,mem_foldC];simp [or_assoc])
      refine ⟨Lb.foldl (starL La) La,⟨good_foldS gA gA gB.2,q1⟩,?_⟩
      rw [q2]
      clear q1 q2 hif
      have hb : hasB [⟨#[43]⟩,⟨#[45]⟩,⟨#[58]⟩,⟨#[42]⟩] ⟨#[42]⟩ = true:=by decide
      rw [hb] at hhas
      refine meets_upf Try.func86 u_spec_l21Terms_g rfl ?_;simp only [u_spec_l21Terms_u]
      repeat' (first | (with_reducible first | refine jn_in ?_ | refine cl_ok (by assumption) rfl ?_ | refine cl_okP (by assumption) rfl ?_ | refine br_x (fun hbr=>?_) fun hbr=>?_) | simp (disch:=first | omega | (simp only [lnA];omega) | simp only [lnB,Nat.reduceAdd]) only [go_sem,↓reduceIte,Nat.reduceAdd,reduceNeg,Int.reduceAdd,reduceSub,reduceMul,reduceLT,reduceLE,reduceEq,reduceToNat,Nat.reduceBEq,nat1,hix,a4,b4,u_spec_l21Terms_j4,d6,d7,d8])
      all_goals first | omega | contradiction | skip
      refine lp_n Lb.length (fun m=>[.sc (.int .i64 m),.sl 3 1 (((Lb.take m).foldl (starL La) La).map encZ)]) rfl fun m hm=>?_
      simp only [u_spec_l21Terms_l3]
      by_cases hlt : m < Lb.length
      · have ht:=foldl_take (starL La) La hlt
        have hg : GoodT ((Lb.take m).foldl (starL La) La):=good_foldS gA gA (good_take gB m)
        have hst : ∀ o b,starL La o b = La.foldl (fun o a=>putZ o (orZ a b)) (putZ o b):=fun _ _=>rfl
        rw [ht,hst]
        generalize (Lb.take m).foldl (starL La) La = o at *
        have hgl:=good_len hg
        have hb:=good_at gB hlt
        have hput:=l21Put_m 3 o (Lb.getD m default) (by omega) (by omega) (good_le hg)
        have hpl:=putZ_len o (Lb.getD m default)
        have hbi : (Lb.getD m default) = Lb.getD m default:=rfl
        generalize hbe : Lb.getD m default = b at *
        clear hbi
        have hbi:=hbe
        repeat' (first | (with_reducible first | refine jn_in ?_ | refine cl_ok (by assumption) rfl ?_ | refine cl_okP (by assumption) rfl ?_ | refine br_x (fun hbr=>?_) fun hbr=>?_) | simp (disch:=first | omega | (simp only [lnA];omega) | simp only [lnB,Nat.reduceAdd]) only [go_sem,↓reduceIte,Nat.reduceAdd,reduceNeg,Int.reduceAdd,reduceSub,reduceMul,reduceLT,reduceLE,reduceEq,reduceToNat,Nat.reduceBEq,nat1,d6,d7,d8,hbi,u_spec_l21Terms_j2,u_spec_l21Terms_j1])
        all_goals first | omega | skip
        refine lp_n La.length (fun j=>[.sc (.int .i64 j),.sl 3 1 (((La.take j).foldl (fun o a=>putZ o (orZ a b)) (putZ o b)).map encZ)]) rfl fun j hj=>?_
        simp only [u_spec_l21Terms_l0]
        by_cases hlj : j < La.length
        · have htj:=foldl_take (fun o a=>putZ o (orZ a b)) (putZ o b) hlj
          have hgj:=good_foldP (f:=fun a=>orZ a b) (l:=La.take j) (good_put hg hb.1 hb.2) fun a ha=>orZ_lt (good_take gA j a ha) hb
          rw [htj]
          generalize (La.take j).foldl (fun o a=>putZ o (orZ a b)) (putZ o b) = o2 at *
          have hgl2:=good_len hgj
          have ha:=good_at gA hlj
          have hor:=@e_orZ false _ _ ha hb
          have hol:=orZ_lt ha hb
          have hput2:=l21Put_m 3 o2 (orZ (La.getD j default) b) (by omega) (by omega) (good_le hgj)
          have hpl2:=putZ_len o2 (orZ (La.getD j default) b)
          repeat' (first | (with_reducible first | refine jn_in ?_ | refine cl_ok (by assumption) rfl ?_ | refine cl_okP (by assumption) rfl ?_ | refine br_x (fun hbr=>?_) fun hbr=>?_) | simp (disch:=first | omega | (simp only [lnA];omega) | simp only [lnB,Nat.reduceAdd]) only [go_sem,↓reduceIte,Nat.reduceAdd,reduceNeg,Int.reduceAdd,reduceSub,reduceMul,reduceLT,reduceLE,reduceEq,reduceToNat,Nat.reduceBEq,nat1,d6,d7,d8,hor,hbi])
          all_goals first | omega | exact ⟨rfl,hlj⟩ | skip
        obtain rfl : j = La.length:=by omega
        rw [List.take_length]
        repeat' (first | (with_reducible first | refine jn_in ?_ | refine cl_ok (by assumption) rfl ?_ | refine cl_okP (by assumption) rfl ?_ | refine br_x (fun hbr=>?_) fun hbr=>?_) | simp (disch:=first | omega | (simp only [lnA];omega) | simp only [lnB,Nat.reduceAdd]) only [go_sem,↓reduceIte,Nat.reduceAdd,reduceNeg,Int.reduceAdd,reduceSub,reduceMul,reduceLT,reduceLE,reduceEq,reduceToNat,Nat.reduceBEq,nat1,d6,d7,d8,u_spec_l21Terms_j2])
        all_goals first | omega | exact ⟨rfl,hlt⟩ | skip
      obtain rfl : m = Lb.length:=by omega
      rw [List.take_length]
      cases oa <;> repeat' (first | (with_reducible first | refine jn_in ?_ | refine cl_ok (by assumption) rfl ?_ | refine cl_okP (by assumption) rfl ?_ | refine br_x (fun hbr=>?_) fun hbr=>?_) | simp (disch:=first | omega | (simp only [lnA];omega) | simp only [lnB,Nat.reduceAdd]) only [go_sem,↓reduceIte,Nat.reduceAdd,reduceNeg,Int.reduceAdd,reduceSub,reduceMul,reduceLT,reduceLE,reduceEq,reduceToNat,Nat.reduceBEq,nat1,true_and])
      all_goals first | omega | rfl | skip
    refine ⟨[],⟨good_nil,fun h=>?_⟩,?_⟩
    · revert h;rw [if_neg t1,if_neg t2,if_neg t3,if_neg t4];split <;> simp
    have hq : (if oa = false ∨ ob = false then ((0,false) : Nat × Bool) else if tx = ⟨#[43]⟩ then (A ||| B,true) else if tx = ⟨#[45]⟩ then (andN A B,true) else if tx = ⟨#[58]⟩ then (crs A B,true) else if tx = ⟨#[42]⟩ then (A ||| B ||| crs A B,true) else (0,false)).2 = false:=by
      rw [if_neg t1,if_neg t2,if_neg t3,if_neg t4];split <;> rfl
    rw [hq]
    have hb : hasB [⟨#[43]⟩,⟨#[45]⟩,⟨#[58]⟩,⟨#[42]⟩] tx = false:=by
      rw [Bool.eq_false_iff]
      intro h
      rw [hasB_iff] at h
      simp only [List.mem_cons,List.not_mem_nil,or_false] at h
      rcases h with h | h | h | h
      · exact t1 h
      · exact t2 h
      · exact t3 h
      · exact t4 h
    rw [hb] at hhas
    refine meets_upf Try.func86 u_spec_l21Terms_g rfl ?_;simp only [u_spec_l21Terms_u]
    repeat' (first | (with_reducible first | refine jn_in ?_ | refine cl_ok (by assumption) rfl ?_ | refine cl_okP (by assumption) rfl ?_ | refine br_x (fun hbr=>?_) fun hbr=>?_) | simp (disch:=first | omega | (simp only [lnA];omega) | simp only [lnB,Nat.reduceAdd]) only [go_sem,↓reduceIte,Nat.reduceAdd,reduceNeg,Int.reduceAdd,reduceSub,reduceMul,reduceLT,reduceLE,reduceEq,reduceToNat,Nat.reduceBEq,nat1,hix])
    all_goals first | omega | rfl | skip
def pmB (t : List Nod) (i : Nat) : Bool:=decide ((t.getD i default).kind = 11) && (decide ((t.getD i default).text = ⟨#[43]⟩) || decide ((t.getD i default).text = ⟨#[45]⟩))
def plB (t : List Nod) (i : Nat) : Bool:=decide ((t.getD i default).text = ⟨#[43]⟩)
def chn (t : List Nod) : Nat→Nat→List (Nat × Bool)
  | 0,_=>[]
  | n + 1,i=>if pmB t i = true then chn t n (kidI t i 0) ++ [(kidI t i 1,plB t i)] else [(i,true)]
def zeroB (t : List Nod) (j : Nat) : Bool:=decide ((t.getD j default).kind = 2) && decide ((t.getD j default).num = 0)
def ownM (t : List Nod) (V : List ByteArray) (j : Nat) : Nat × Bool:=if zeroB t j = true then (1,true) else opM t V t.length j
def stp (t : List Nod) (V : List ByteArray) (P : Nat × Bool) (c : Nat × Bool) : Nat × Bool :=
  if P.2 = false ∨ (ownM t V c.1).2 = false then (0,false) else (if (c.2 != zeroB t c.1) = true then P.1 ||| (ownM t V c.1).1 else andN P.1 (ownM t V c.1).1,true)
def rtM (t : List Nod) (V : List ByteArray) (n i : Nat) : Nat × Bool:=(chn t n i).foldl (stp t V) (1,true)
theorem pm_kind {t : List Nod} {i : Nat} (h : pmB t i = true) : (t.getD i default).kind = 11:=by
  unfold pmB at h;rw [Bool.and_eq_true,decide_eq_true_eq] at h;exact h.1
theorem kid_ok {t : List Nod} {V : List ByteArray} (hT : treeB t = true) {i : Nat} (hi : i < t.length) (hI : InV t V i) (hk : (t.getD i default).kind = 11) {j : Nat} (hj : j < 2) :
    kidI t i j < t.length∧InV t V (kidI t i j)∧kidI t i j < i∧(kidsT t i).getD j default = ((kidI t i j : Nat) : Int):=by
  have h2:=kids_two hT hi hk
  have hm:=getD_mem (l:=kidsT t i) (i:=j) (by omega)
  have h3:=kid_in hT hi hm
  unfold kidI
  exact ⟨by omega,inV_kid hT hi hm hI,by omega,by omega⟩
theorem chn_in {t : List Nod} {V : List ByteArray} (hT : treeB t = true) : ∀ {n i : Nat},i < t.length→InV t V i→∀ c ∈ chn t n i,c.1 < t.length∧InV t V c.1
  | 0,i,_,_,c,hc=>by cases hc
  | n + 1,i,hi,hI,c,hc=>by
    rw [chn] at hc
    split at hc
    · rename_i hp
      have hk:=pm_kind hp
      rcases List.mem_append.1 hc with hc | hc
      · obtain ⟨a1,a2,-⟩:=kid_ok hT hi hI hk (j:=0) (by omega)
        exact chn_in hT a1 a2 c hc
      · rw [List.mem_singleton.1 hc]
        obtain ⟨a1,a2,-⟩:=kid_ok hT hi hI hk (j:=1) (by omega)
        exact ⟨a1,a2⟩
    · rw [List.mem_singleton.1 hc];exact ⟨hi,hI⟩
theorem chn_len {t : List Nod} {V : List ByteArray} (hT : treeB t = true) : ∀ {n i : Nat},i < t.length→InV t V i→(chn t n i).length≤i + 1
  | 0,i,_,_=>by simp [chn]
  | n + 1,i,hi,hI=>by
    rw [chn]
    split
    · rename_i hp
      obtain ⟨a1,a2,a3,-⟩:=kid_ok hT hi hI (pm_kind hp) (j:=0) (by omega)
      have:=chn_len hT (n:=n) a1 a2
      rw [List.length_append,List.length_singleton];omega
    · simp
theorem own_lt {t : List Nod} {V : List ByteArray} (hT : treeB t = true) (hV : V.length≤5) {j : Nat} (hj : j < t.length) (hI : InV t V j) : (ownM t V j).1 < 4294967296:=by
  unfold ownM
  split
  · show (1 : Nat) < 4294967296;omega
  · exact opM_lt hT hV hj hI
theorem stp_lt {t : List Nod} {V : List ByteArray} {P c : Nat × Bool} (hP : P.1 < 4294967296) (ho : (ownM t V c.1).1 < 4294967296) : (stp t V P c).1 < 4294967296:=by
  unfold stp
  split
  · show (0 : Nat) < 4294967296;omega
  · show (if _ then _ else _ : Nat) < 4294967296
    split
    · exact Nat.or_lt_two_pow (n:=32) hP ho
    · exact andN_lt _ _
theorem stp_fold_lt {t : List Nod} {V : List ByteArray} : ∀ {C : List (Nat × Bool)} {P : Nat × Bool},P.1 < 4294967296→(∀ c ∈ C,(ownM t V c.1).1 < 4294967296)→(C.foldl (stp t V) P).1 < 4294967296
  | [],P,h,_=>h
  | c :: C,P,h,hc=>stp_fold_lt (C:=C) (stp_lt h (hc c (List.mem_cons_self ..))) fun d hd=>hc d (List.mem_cons_of_mem _ hd)
theorem stp_fold_no {t : List Nod} {V : List ByteArray} : ∀ {C : List (Nat × Bool)},C.foldl (stp t V) (0,false) = (0,false)
  | []=>rfl
  | c :: C=>by
    rw [List.foldl_cons]
    have : stp t V (0,false) c = (0,false):=by unfold stp;rw [if_pos (.inl rfl)]
    rw [this];exact stp_fold_no
theorem cfold_take {β : Type} (f : β→Nat × Bool→β) (b : β) {L : List (Nat × Bool)} {i : Nat} (h : i < L.length) : (L.take (i + 1)).foldl f b = f ((L.take i).foldl f b) (L.getD i default):=by
  rw [List.take_succ_eq_append_getElem h,List.foldl_append,List.getD_eq_getElem?_getD,List.getElem?_eq_getElem h];rfl
set_option maxHeartbeats 8000000 in
theorem specStart21_m {t : List Nod} {V : List ByteArray} (hT : treeB t = true) (hV : V.length≤5) : ∀ {n i : Nat},i < n→i < t.length→InV t V i →
    ∃ L : List Int,(GoodT L∧((rtM t V n i).2 = true→SetT L (rtM t V n i).1))∧Meets Try.prog 51 [(false,[encNods t]),(false,[.sc (.int .i64 i)]),(false,[encSs V])] [(false,[encZs L],true),(false,[.sc (.bool (rtM t V n i).2)],true)]
  | 0,i,h,_,_=>by omega
  | n + 1,i,h,hi,hI=>by
    have htl:=tree_len hT
    have hkk:=specKidsT_m t hT i hi
    have hix:=ix_Nod (t:=73) (l:=t) (kd:=.i64) (z:=(i : Int)) (by omega) (by omega)
    simp only [Int.toNat_natCast] at hix
    have hst : ∃ (Lp : List Int) (P c : Nat × Bool),GoodT Lp∧(P.2 = true→SetT Lp P.1)∧rtM t V (n + 1) i = stp t V P c∧c.1 < t.length∧InV t V c.1 ∧
        ((pmB t i = false∧Lp = [0]∧P = (1,true)∧c = (i,true)) ∨ (pmB t i = true∧c.2 = plB t i∧(kidsT t i).length = 2∧(kidsT t i).getD 1 default = ((c.1 : Nat) : Int) ∧
          Meets Try.prog 51 [(false,[encNods t]),(false,[.sc (.int .i64 ((kidsT t i).getD 0 default))]),(false,[encSs V])] [(false,[encZs Lp],true),(false,[.sc (.bool P.2)],true)])):=by
      cases hp : pmB t i
      · refine ⟨[0],(1,true),(i,true),good_one (by omega) (by omega),fun _ z hz=>?_,?_,hi,hI,.inl ⟨rfl,rfl,rfl,rfl⟩⟩
        · rw [List.mem_singleton,show (1 : Nat) = 2 ^ 0 from rfl,Nat.testBit_two_pow,decide_eq_true_eq];omega
        · unfold rtM;rw [chn,hp];rfl
      · have hk:=pm_kind hp
        obtain ⟨a1,a2,a3,a4⟩:=kid_ok hT hi hI hk (j:=0) (by omega)
        obtain ⟨b1,b2,b3,b4⟩:=kid_ok hT hi hI hk (j:=1) (by omega)
        obtain ⟨Lp,⟨gp,sp⟩,hm⟩:=specStart21_m hT hV (n:=n) (i:=kidI t i 0) (by omega) a1 a2
        refine ⟨Lp,rtM t V n (kidI t i 0),(kidI t i 1,plB t i),gp,sp,?_,b1,b2,.inr ⟨rfl,rfl,kids_two hT hi hk,b4,?_⟩⟩
        · unfold rtM;rw [chn,if_pos hp,List.foldl_append];rfl
        · rw [a4];exact hm
    obtain ⟨Lp,P,c,gp,sp,hr,hc1,hcI,hcase⟩:=hst
    rw [hr]
    obtain ⟨j,sg⟩:=c
    obtain ⟨m,ob⟩:=P
    simp only at hcase hc1 hcI sp
    have hjx:=ix_Nod (t:=73) (l:=t) (kd:=.i64) (z:=(j : Int)) (by omega) (by omega)
    simp only [Int.toNat_natCast] at hjx
    have hop : ∃ Lb : List Int,GoodT Lb∧((ownM t V j).2 = true→SetT Lb (ownM t V j).1)∧((zeroB t j = true∧Lb = [0]∧(ownM t V j).2 = true) ∨ (zeroB t j = false∧Meets Try.prog 86 [(false,[encNods t]),(false,[.sc (.int .i64 j)]),(false,[encSs V])] [(false,[encZs Lb],true),(false,[.sc (.bool (ownM t V j).2)],true)])):=by
      unfold ownM
      cases hz : zeroB t j
      · obtain ⟨Lb,⟨gb,sb⟩,hm⟩:=specTerms_m hT hV (n:=t.length) hc1 hc1 hcI
        exact ⟨Lb,gb,sb,.inr ⟨rfl,hm⟩⟩
      · refine ⟨[0],good_one (by omega) (by omega),fun _ z hz=>?_,.inl ⟨rfl,rfl,rfl⟩⟩
        rw [List.mem_singleton,if_pos rfl,show (1 : Nat) = 2 ^ 0 from rfl,Nat.testBit_two_pow,decide_eq_true_eq];omega
    obtain ⟨Lb,gb,sb,hz⟩:=hop
    refine ⟨if (sg != zeroB t j) = true then Lb.foldl (fun o a=>putZ o (id a)) Lp else Lb.foldl withoutZ Lp,⟨?_,?_⟩,?_⟩
    · split
      · exact good_foldP gp gb.2
      · exact good_foldW gp
    · intro hs
      unfold stp at hs ⊢
      split at hs
      · cases hs
      · rename_i hno
        rw [if_neg hno]
        have h1 : ob = true:=by simpa using fun h=>hno (.inl h)
        have h2 : (ownM t V j).2 = true:=by simpa using fun h=>hno (.inr h)
        have s1:=sp h1
        have s2:=sb h2
        show SetT _ (if _ then _ else _)
        split
        · exact set_or s1 s2 fun z=>mem_foldP.trans (by simp)
        · exact set_and s1 s2 fun z=>mem_foldW
    have hok : (stp t V (m,ob) (j,sg)).2 = (ob && (ownM t V j).2):=by
      unfold stp
      simp only
      cases ob <;> cases (ownM t V j).2 <;> simp
    rw [hok]
    have hlp:=good_len gp
    have hlb:=good_len gb
    have hpm : pmB t i = (decide ((t.getD i default).kind = 11) && (decide ((t.getD i default).text = ⟨#[43]⟩) || decide ((t.getD i default).text = ⟨#[45]⟩))):=rfl
    have hmin : pmB t i = true→decide ((t.getD i default).text = ⟨#[45]⟩) = !plB t i:=fun hp=>by
      rw [hpm] at hp
      unfold plB
      by_cases e1 : (t.getD i default).text = ⟨#[43]⟩
      · rw [e1];rfl
      · rw [decide_eq_false e1] at hp ⊢
        simpa using (by simpa using hp : _∧_).2
    have hzr : zeroB t j = (decide ((t.getD j default).kind = 2) && decide ((t.getD j default).num = 0)):=rfl
    generalize hown : ownM t V j = own at *
    obtain ⟨mo,oo⟩:=own
    simp only at hz ⊢
    generalize hzb : zeroB t j = zb at *
    generalize pmB t i = pb at *
    generalize plB t i = sp1 at *
    refine meets_upf Try.func51 u_spec_l21Start_g rfl ?_;simp only [u_spec_l21Start_u]
    generalize hxi : t.getD i default = xi at *
    obtain ⟨kd,nm,tx,lbs,kc⟩:=xi
    generalize hxj : t.getD j default = xj at *
    obtain ⟨kd2,nm2,tx2,lbs2,kc2⟩:=xj
    simp only [encNods,encSs,encNod,encZs] at hix hjx hkk hcase hz hpm hmin hzr ⊢
    simp (disch:=first | omega | (simp only [lnA];omega) | simp only [lnB,Nat.reduceAdd]) only [go_sem,↓reduceIte,Nat.reduceAdd,reduceNeg,Int.reduceAdd,reduceSub,reduceMul,reduceLT,reduceLE,reduceEq,reduceToNat,Nat.reduceBEq,nat1,true_and]
    refine cl_ok hkk rfl ?_
    simp (disch:=first | omega | (simp only [lnA];omega) | simp only [lnB,Nat.reduceAdd]) only [go_sem,↓reduceIte,Nat.reduceAdd,reduceNeg,Int.reduceAdd,reduceSub,reduceMul,reduceLT,reduceLE,reduceEq,reduceToNat,Nat.reduceBEq,nat1,true_and]
    refine jn (fun vs=>vs = [.sc (.bool pb)]) ?_ ?_
    · rw [hpm]
      simp (disch:=first | omega | (simp only [lnA];omega) | simp only [lnB,Nat.reduceAdd]) only [go_sem,↓reduceIte,Nat.reduceAdd,reduceNeg,Int.reduceAdd,reduceSub,reduceMul,reduceLT,reduceLE,reduceEq,reduceToNat,Nat.reduceBEq,nat1,hix]
      refine br_if (fun hbr=>?_) (fun hbr=>?_)
      · subst hbr
        simp (disch:=first | omega | (simp only [lnA];omega) | simp only [lnB,Nat.reduceAdd]) only [go_sem,↓reduceIte,Nat.reduceAdd,reduceNeg,Int.reduceAdd,reduceSub,reduceMul,reduceLT,reduceLE,reduceEq,reduceToNat,Nat.reduceBEq,nat1,hix]
        refine br_if (fun hbr=>?_) (fun hbr=>?_)
        · rw [decide_eq_true hbr]
          simp (disch:=first | omega | (simp only [lnA];omega) | simp only [lnB,Nat.reduceAdd]) only [go_sem,↓reduceIte,Nat.reduceAdd,reduceNeg,Int.reduceAdd,reduceSub,reduceMul,reduceLT,reduceLE,reduceEq,reduceToNat,Nat.reduceBEq,nat1,hix]
          rfl
        · rw [decide_eq_false hbr]
          simp (disch:=first | omega | (simp only [lnA];omega) | simp only [lnB,Nat.reduceAdd]) only [go_sem,↓reduceIte,Nat.reduceAdd,reduceNeg,Int.reduceAdd,reduceSub,reduceMul,reduceLT,reduceLE,reduceEq,reduceToNat,Nat.reduceBEq,nat1,hix]
          simp
      · rw [decide_eq_false hbr]
        simp (disch:=first | omega | (simp only [lnA];omega) | simp only [lnB,Nat.reduceAdd]) only [go_sem,↓reduceIte,Nat.reduceAdd,reduceNeg,Int.reduceAdd,reduceSub,reduceMul,reduceLT,reduceLE,reduceEq,reduceToNat,Nat.reduceBEq,nat1,hix]
        rfl
    rintro vs - rfl
    simp only [u_spec_l21Start_j5]
    simp (disch:=first | omega | (simp only [lnA];omega) | simp only [lnB,Nat.reduceAdd]) only [go_sem,↓reduceIte,Nat.reduceAdd,reduceNeg,Int.reduceAdd,reduceSub,reduceMul,reduceLT,reduceLE,reduceEq,reduceToNat,Nat.reduceBEq,nat1,true_and]
    refine jn (fun vs=>vs = [.sc (.bool (!sg)),.sc (.int .i64 j),.sc (.bool ob),.sl 3 1 (Lp.map encZ)]) ?_ ?_
    · rcases hcase with ⟨e1,e2,e3,e4⟩ | ⟨e1,e2,e3,e4,e5⟩
      · subst e1 e2
        injection e3 with e3 e3'
        injection e4 with e4 e4'
        subst e3' e4 e4'
        simp (disch:=first | omega | (simp only [lnA];omega) | simp only [lnB,Nat.reduceAdd]) only [go_sem,↓reduceIte,Nat.reduceAdd,reduceNeg,Int.reduceAdd,reduceSub,reduceMul,reduceLT,reduceLE,reduceEq,reduceToNat,Nat.reduceBEq,nat1,true_and]
        rfl
      · subst e1 e2
        have e6:=hmin rfl
        repeat' (first | (with_reducible first | refine jn_in ?_ | refine cl_ok (by assumption) rfl ?_ | refine cl_okP (by assumption) rfl ?_ | refine br_x (fun hbr=>?_) fun hbr=>?_) | simp (disch:=first | omega | (simp only [lnA];omega) | simp only [lnB,Nat.reduceAdd]) only [go_sem,↓reduceIte,Nat.reduceAdd,reduceNeg,Int.reduceAdd,reduceSub,reduceMul,reduceLT,reduceLE,reduceEq,reduceToNat,Nat.reduceBEq,nat1,hix,e4,e6])
        all_goals first | omega | rfl | skip
    rintro vs - rfl
    simp only [u_spec_l21Start_j4]
    simp (disch:=first | omega | (simp only [lnA];omega) | simp only [lnB,Nat.reduceAdd]) only [go_sem,↓reduceIte,Nat.reduceAdd,reduceNeg,Int.reduceAdd,reduceSub,reduceMul,reduceLT,reduceLE,reduceEq,reduceToNat,Nat.reduceBEq,nat1,true_and]
    refine jn (fun vs=>vs = [.sc (.bool zb)]) ?_ ?_
    · rw [hzr]
      simp (disch:=first | omega | (simp only [lnA];omega) | simp only [lnB,Nat.reduceAdd]) only [go_sem,↓reduceIte,Nat.reduceAdd,reduceNeg,Int.reduceAdd,reduceSub,reduceMul,reduceLT,reduceLE,reduceEq,reduceToNat,Nat.reduceBEq,nat1,hjx]
      refine br_if (fun hbr=>?_) (fun hbr=>?_)
      · subst hbr
        simp (disch:=first | omega | (simp only [lnA];omega) | simp only [lnB,Nat.reduceAdd]) only [go_sem,↓reduceIte,Nat.reduceAdd,reduceNeg,Int.reduceAdd,reduceSub,reduceMul,reduceLT,reduceLE,reduceEq,reduceToNat,Nat.reduceBEq,nat1,hjx]
      · rw [decide_eq_false hbr]
        simp (disch:=first | omega | (simp only [lnA];omega) | simp only [lnB,Nat.reduceAdd]) only [go_sem,↓reduceIte,Nat.reduceAdd,reduceNeg,Int.reduceAdd,reduceSub,reduceMul,reduceLT,reduceLE,reduceEq,reduceToNat,Nat.reduceBEq,nat1,hjx]
        rfl
    rintro vs - rfl
    simp only [u_spec_l21Start_j3]
    simp (disch:=first | omega | (simp only [lnA];omega) | simp only [lnB,Nat.reduceAdd]) only [go_sem,↓reduceIte,Nat.reduceAdd,reduceNeg,Int.reduceAdd,reduceSub,reduceMul,reduceLT,reduceLE,reduceEq,reduceToNat,Nat.reduceBEq,nat1,true_and]
    refine jn (fun vs=>vs = [.sc (.bool (!(sg != zb))),.sc (.bool (ob && oo)),.sl 3 1 (Lb.map encZ)]) ?_ ?_
    · rcases hz with ⟨rfl,rfl,rfl⟩ | ⟨rfl,hm⟩
      · simp (disch:=first | omega | (simp only [lnA];omega) | simp only [lnB,Nat.reduceAdd]) only [go_sem,↓reduceIte,Nat.reduceAdd,reduceNeg,Int.reduceAdd,reduceSub,reduceMul,reduceLT,reduceLE,reduceEq,reduceToNat,Nat.reduceBEq,nat1,true_and]
        cases sg <;> simp <;> rfl
      · simp (disch:=first | omega | (simp only [lnA];omega) | simp only [lnB,Nat.reduceAdd]) only [go_sem,↓reduceIte,Nat.reduceAdd,reduceNeg,Int.reduceAdd,reduceSub,reduceMul,reduceLT,reduceLE,reduceEq,reduceToNat,Nat.reduceBEq,nat1,true_and]
        refine cl_ok hm rfl ?_
        simp (disch:=first | omega | (simp only [lnA];omega) | simp only [lnB,Nat.reduceAdd]) only [go_sem,↓reduceIte,Nat.reduceAdd,reduceNeg,Int.reduceAdd,reduceSub,reduceMul,reduceLT,reduceLE,reduceEq,reduceToNat,Nat.reduceBEq,nat1,true_and]
        cases ob
        · simp (disch:=first | omega | (simp only [lnA];omega) | simp only [lnB,Nat.reduceAdd]) only [go_sem,↓reduceIte,Nat.reduceAdd,reduceNeg,Int.reduceAdd,reduceSub,reduceMul,reduceLT,reduceLE,reduceEq,reduceToNat,Nat.reduceBEq,nat1,true_and]
          simp
        · simp (disch:=first | omega | (simp only [lnA];omega) | simp only [lnB,Nat.reduceAdd]) only [go_sem,↓reduceIte,Nat.reduceAdd,reduceNeg,Int.reduceAdd,reduceSub,reduceMul,reduceLT,reduceLE,reduceEq,reduceToNat,Nat.reduceBEq,nat1,true_and]
          simp
    rintro vs - rfl
    simp only [u_spec_l21Start_j2]
    simp (disch:=first | omega | (simp only [lnA];omega) | simp only [lnB,Nat.reduceAdd]) only [go_sem,↓reduceIte,Nat.reduceAdd,reduceNeg,Int.reduceAdd,reduceSub,reduceMul,reduceLT,reduceLE,reduceEq,reduceToNat,Nat.reduceBEq,nat1,true_and]
    cases hsz : (sg != zb)
    · simp only [Bool.false_eq_true,if_false,Bool.not_false]
      refine lp_n Lb.length (fun m=>[.sc (.int .i64 m),.sc (.bool (ob && oo)),.sl 3 1 (((Lb.take m).foldl withoutZ Lp).map encZ),.sl 3 1 (Lb.map encZ)]) rfl fun m hm=>?_
      simp only [u_spec_l21Start_l1]
      by_cases hlt : m < Lb.length
      · have ht:=foldl_take withoutZ Lp hlt
        have hg:=good_foldW (l:=Lb.take m) gp
        rw [ht]
        generalize (Lb.take m).foldl withoutZ Lp = o at *
        have hgl:=good_len hg
        have hput:=l21Without_m 3 o (Lb.getD m default) (by omega)
        simp only [encZs] at hput
        repeat' (first | (with_reducible first | refine jn_in ?_ | refine cl_ok (by assumption) rfl ?_ | refine cl_okP (by assumption) rfl ?_ | refine br_x (fun hbr=>?_) fun hbr=>?_) | simp (disch:=first | omega | (simp only [lnA];omega) | simp only [lnB,Nat.reduceAdd]) only [go_sem,↓reduceIte,Nat.reduceAdd,reduceNeg,Int.reduceAdd,reduceSub,reduceMul,reduceLT,reduceLE,reduceEq,reduceToNat,Nat.reduceBEq,nat1,u_spec_l21Start_j0])
        all_goals first | omega | exact ⟨rfl,hlt⟩ | skip
      obtain rfl : m = Lb.length:=by omega
      rw [List.take_length]
      repeat' (first | (with_reducible first | refine jn_in ?_ | refine cl_ok (by assumption) rfl ?_ | refine cl_okP (by assumption) rfl ?_ | refine br_x (fun hbr=>?_) fun hbr=>?_) | simp (disch:=first | omega | (simp only [lnA];omega) | simp only [lnB,Nat.reduceAdd]) only [go_sem,↓reduceIte,Nat.reduceAdd,reduceNeg,Int.reduceAdd,reduceSub,reduceMul,reduceLT,reduceLE,reduceEq,reduceToNat,Nat.reduceBEq,nat1,true_and])
      all_goals first | omega | rfl | skip
    · simp only [if_true,Bool.not_true]
      refine lp_n Lb.length (fun m=>[.sc (.int .i64 m),.sc (.bool (ob && oo)),.sl 3 1 (((Lb.take m).foldl (fun o a=>putZ o (id a)) Lp).map encZ),.sl 3 1 (Lb.map encZ)]) rfl fun m hm=>?_
      simp only [u_spec_l21Start_l1]
      by_cases hlt : m < Lb.length
      · have ht:=foldl_take (fun o a=>putZ o (id a)) Lp hlt
        have hg:=good_foldP (f:=id) (l:=Lb.take m) gp (good_take gb m)
        rw [ht]
        generalize (Lb.take m).foldl (fun o a=>putZ o (id a)) Lp = o at *
        have hgl:=good_len hg
        have hb:=good_at gb hlt
        have hput:=l21Put_m 3 o (Lb.getD m default) (by omega) (by omega) (good_le hg)
        repeat' (first | (with_reducible first | refine jn_in ?_ | refine cl_ok (by assumption) rfl ?_ | refine cl_okP (by assumption) rfl ?_ | refine br_x (fun hbr=>?_) fun hbr=>?_) | simp (disch:=first | omega | (simp only [lnA];omega) | simp only [lnB,Nat.reduceAdd]) only [go_sem,↓reduceIte,Nat.reduceAdd,reduceNeg,Int.reduceAdd,reduceSub,reduceMul,reduceLT,reduceLE,reduceEq,reduceToNat,Nat.reduceBEq,nat1,u_spec_l21Start_j0])
        all_goals first | omega | exact ⟨rfl,hlt⟩ | skip
      obtain rfl : m = Lb.length:=by omega
      rw [List.take_length]
      repeat' (first | (with_reducible first | refine jn_in ?_ | refine cl_ok (by assumption) rfl ?_ | refine cl_okP (by assumption) rfl ?_ | refine br_x (fun hbr=>?_) fun hbr=>?_) | simp (disch:=first | omega | (simp only [lnA];omega) | simp only [lnB,Nat.reduceAdd]) only [go_sem,↓reduceIte,Nat.reduceAdd,reduceNeg,Int.reduceAdd,reduceSub,reduceMul,reduceLT,reduceLE,reduceEq,reduceToNat,Nat.reduceBEq,nat1,true_and])
      all_goals first | omega | rfl | skip
def encBo (b : Bool) : List DV:=[.sc (.bool b)]
def opnL (C : List (Nat × Bool)) : List Int:=C.map fun c=>(c.1 : Int)
def sgnL (C : List (Nat × Bool)) : List Bool:=C.map (·.2)
theorem ix_b {t : Nat} {l : List Bool} {kd : IntKind} {z : Int} (h : 0≤z) (h1 : z < l.length) : eIdx 1 (some (.sl t 1 (l.map encBo))) (some (.sc (.int kd z))) = some [.sc (.bool (l.getD z.toNat default))]:=e_idx_map (fun _=>rfl) h h1
theorem fl_b {t k : Nat} {l : List Bool} : eFlat (some (.sl t k (l.map encBo))) = some []:=e_flat_map fun _=>rfl
theorem app_z {el b : Nat} {x : Int} {l : List Int} (h : l.length≤10000) (hb : b≤140) : eApp el 1 b (some (.sl el 1 [[.sc (.int .i64 x)]])) (some (.sl el 1 (l.map encZ))) = some [.sl el 1 ((x :: l).map encZ)]:=e_app (by simp;omega) hb
theorem app_b {el b : Nat} {x : Bool} {l : List Bool} (h : l.length≤10000) (hb : b≤140) : eApp el 1 b (some (.sl el 1 [[.sc (.bool x)]])) (some (.sl el 1 (l.map encBo))) = some [.sl el 1 ((x :: l).map encBo)]:=e_app (by simp;omega) hb
set_option maxHeartbeats 8000000 in
theorem implRight_m {t : List Nod} {V : List ByteArray} (hT : treeB t = true) (hV : V.length≤5) {n i : Nat} (hn : i < n) (hi : i < t.length) (hI : InV t V i) :
    Meets Try.prog 58 [(false,[encNods t]),(false,[.sc (.int .i64 i)]),(false,[encSs V])] [(false,[.sc (.int .u32 ((rtM t V n i).1 : Nat))],true),(false,[.sc (.bool (rtM t V n i).2)],true)]:=by
  have htl:=tree_len hT
  unfold rtM
  have hCin:=chn_in (n:=n) hT hi hI
  have hCl:=chn_len (n:=n) hT hi hI
  generalize hC : chn t n i = C at *
  refine meets_upf Try.func58 u_impl_rightTerms_g rfl ?_;simp only [u_impl_rightTerms_u]
  simp only [encNods,encSs]
  simp (disch:=first | omega | (simp only [lnA];omega) | simp only [lnB,Nat.reduceAdd]) only [go_sem,↓reduceIte,Nat.reduceAdd,reduceNeg,Int.reduceAdd,reduceSub,reduceMul,reduceLT,reduceLE,reduceEq,reduceToNat,Nat.reduceBEq,nat1,true_and]
  refine lp (fun s : Nat × List (Nat × Bool)=>[.sc (.int .i64 s.1),.sl 4 1 ((sgnL s.2).map encBo),.sl 3 1 ((opnL s.2).map encZ)]) (fun s=>s.1 < t.length∧InV t V s.1∧∃ f,s.1 < f∧chn t f s.1 ++ s.2 = C) (fun s=>s.1) (i,[]) rfl ⟨hi,hI,n,hn,by rw [hC,List.append_nil]⟩ ?_
  rintro ⟨a,T⟩ ⟨ha,haI,f,hf,hCT⟩
  simp only at ha haI hf hCT ⊢
  simp only [u_impl_rightTerms_l5]
  have hkk:=implKidsT_m t hT a ha
  have hix:=ix_Nod (t:=73) (l:=t) (kd:=.i64) (z:=(a : Int)) (by omega) (by omega)
  simp only [Int.toNat_natCast] at hix
  obtain ⟨f,rfl⟩:=Nat.exists_eq_succ_of_ne_zero (show f ≠ 0 by omega)
  simp only [Nat.succ_eq_add_one] at hf hCT
  have hTl : T.length≤300:=by
    have:=congrArg List.length hCT
    rw [List.length_append] at this;omega
  have ho1 : (opnL T).length = T.length:=by simp [opnL]
  have ho2 : (sgnL T).length = T.length:=by simp [sgnL]
  have hpm : pmB t a = (decide ((t.getD a default).kind = 11) && (decide ((t.getD a default).text = ⟨#[43]⟩) || decide ((t.getD a default).text = ⟨#[45]⟩))):=rfl
  simp (disch:=first | omega | (simp only [lnA];omega) | simp only [lnB,Nat.reduceAdd]) only [go_sem,↓reduceIte,Nat.reduceAdd,reduceNeg,Int.reduceAdd,reduceSub,reduceMul,reduceLT,reduceLE,reduceEq,reduceToNat,Nat.reduceBEq,nat1,true_and]
  refine jn (fun vs=>vs = [.sc (.bool (pmB t a))]) ?_ ?_
  · rw [hpm]
    clear hpm hCT
    generalize hxi : t.getD a default = xi at *
    obtain ⟨kd,nm,tx,lbs,kc⟩:=xi
    simp only [encNods,encSs,encNod,encZs] at hix ⊢
    simp (disch:=first | omega | (simp only [lnA];omega) | simp only [lnB,Nat.reduceAdd]) only [go_sem,↓reduceIte,Nat.reduceAdd,reduceNeg,Int.reduceAdd,reduceSub,reduceMul,reduceLT,reduceLE,reduceEq,reduceToNat,Nat.reduceBEq,nat1,hix]
    refine br_if (fun hbr=>?_) (fun hbr=>?_)
    · subst hbr
      simp (disch:=first | omega | (simp only [lnA];omega) | simp only [lnB,Nat.reduceAdd]) only [go_sem,↓reduceIte,Nat.reduceAdd,reduceNeg,Int.reduceAdd,reduceSub,reduceMul,reduceLT,reduceLE,reduceEq,reduceToNat,Nat.reduceBEq,nat1,hix]
      refine br_if (fun hbr=>?_) (fun hbr=>?_)
      · rw [decide_eq_true hbr]
        simp (disch:=first | omega | (simp only [lnA];omega) | simp only [lnB,Nat.reduceAdd]) only [go_sem,↓reduceIte,Nat.reduceAdd,reduceNeg,Int.reduceAdd,reduceSub,reduceMul,reduceLT,reduceLE,reduceEq,reduceToNat,Nat.reduceBEq,nat1,hix]
        rfl
      · rw [decide_eq_false hbr]
        simp (disch:=first | omega | (simp only [lnA];omega) | simp only [lnB,Nat.reduceAdd]) only [go_sem,↓reduceIte,Nat.reduceAdd,reduceNeg,Int.reduceAdd,reduceSub,reduceMul,reduceLT,reduceLE,reduceEq,reduceToNat,Nat.reduceBEq,nat1,hix]
        simp
    · rw [decide_eq_false hbr]
      simp (disch:=first | omega | (simp only [lnA];omega) | simp only [lnB,Nat.reduceAdd]) only [go_sem,↓reduceIte,Nat.reduceAdd,reduceNeg,Int.reduceAdd,reduceSub,reduceMul,reduceLT,reduceLE,reduceEq,reduceToNat,Nat.reduceBEq,nat1,hix]
      rfl
  rintro vs - rfl
  simp only [u_impl_rightTerms_j4]
  cases hp : pmB t a
  rotate_left
  · -- one more operand
    rw [chn,if_pos hp] at hCT
    have hk:=pm_kind hp
    obtain ⟨a1,a2,a3,a4⟩:=kid_ok hT ha haI hk (j:=0) (by omega)
    obtain ⟨b1,b2,b3,b4⟩:=kid_ok hT ha haI hk (j:=1) (by omega)
    have h2:=kids_two hT ha hk
    have hpl : plB t a = decide ((t.getD a default).text = ⟨#[43]⟩):=rfl
    have hap1:=@app_z 3 8 (kidI t a 1 : Int) (opnL T) (by omega) (by decide)
    have hap2:=@app_b 4 1 (plB t a) (sgnL T) (by omega) (by decide)
    have hnew : ∃ s : Nat × List (Nat × Bool),[.sc (.int .i64 (kidI t a 0 : Int)),.sl 4 1 ((plB t a :: sgnL T).map encBo),.sl 3 1 (((kidI t a 1 : Int) :: opnL T).map encZ)] = [DV.sc (.int .i64 s.1),.sl 4 1 ((sgnL s.2).map encBo),.sl 3 1 ((opnL s.2).map encZ)]∧(s.1 < t.length∧InV t V s.1∧∃ f,s.1 < f∧chn t f s.1 ++ s.2 = C)∧s.1 < a :=
      ⟨(kidI t a 0,(kidI t a 1,plB t a) :: T),rfl,⟨a1,a2,f,by simp only;omega,by simpa using hCT⟩,a3⟩
    clear hCT hpm
    generalize plB t a = sp1 at *
    generalize kidI t a 0 = k0 at *
    generalize kidI t a 1 = k1 at *
    generalize kidsT t a = K at *
    generalize hxi : t.getD a default = xi at *
    obtain ⟨kd,nm,tx,lbs,kc⟩:=xi
    simp only at hpl
    generalize opnL T = O at *
    generalize sgnL T = G at *
    simp only [encNods,encSs,encNod,encZs] at hix hkk ⊢
    repeat' (first | (with_reducible first | refine jn_in ?_ | refine cl_ok (by assumption) rfl ?_ | refine cl_okP (by assumption) rfl ?_ | refine br_x (fun hbr=>?_) fun hbr=>?_) | simp (disch:=first | omega | (simp only [lnA];omega) | simp only [lnB,Nat.reduceAdd]) only [go_sem,↓reduceIte,Nat.reduceAdd,reduceNeg,Int.reduceAdd,reduceSub,reduceMul,reduceLT,reduceLE,reduceEq,reduceToNat,Nat.reduceBEq,nat1,hix,a4,b4,← hpl,hap1,hap2,fl_b])
    all_goals first | omega | exact hnew | skip
  rw [chn,hp] at hCT
  simp only [Bool.false_eq_true,if_false] at hCT
  have hap1:=@app_z 3 8 (a : Int) (opnL T) (by omega) (by decide)
  have hap2:=@app_b 4 1 true (sgnL T) (by omega) (by decide)
  have hO : (a : Int) :: opnL T = opnL C:=by rw [← hCT];rfl
  have hG : true :: sgnL T = sgnL C:=by rw [← hCT];rfl
  rw [hO] at hap1
  rw [hG] at hap2
  simp (disch:=first | omega | (simp only [lnA];omega) | simp only [lnB,Nat.reduceAdd]) only [go_sem,↓reduceIte,Nat.reduceAdd,reduceNeg,Int.reduceAdd,reduceSub,reduceMul,reduceLT,reduceLE,reduceEq,reduceToNat,Nat.reduceBEq,nat1,hap1,hap2,fl_b]
  clear hap1 hap2 hO hG hCT hkk hix hpm hC ho1 ho2 hTl
  have hol : ∀ c ∈ C,(ownM t V c.1).1 < 4294967296:=fun c hc=>own_lt hT hV (hCin c hc).1 (hCin c hc).2
  have hl1 : (opnL C).length = C.length:=by simp [opnL]
  have hl2 : (sgnL C).length = C.length:=by simp [sgnL]
  refine lp (fun s : Nat × Nat=>[.sc (.int .i64 s.1),.sc (.int .u32 s.2)]) (fun s=>s.1≤C.length∧(C.take s.1).foldl (stp t V) (1,true) = (s.2,true)) (fun s=>C.length - s.1) (0,1) rfl ⟨Nat.zero_le _,rfl⟩ ?_
  rintro ⟨k,m⟩ ⟨hk,hm⟩
  simp only at hk hm ⊢
  simp only [u_impl_rightTerms_l3]
  have hml : m < 4294967296:=by
    have:=stp_fold_lt (t:=t) (V:=V) (C:=C.take k) (P:=(1,true)) (by show (1 : Nat) < 4294967296;omega) fun c hc=>hol c (List.mem_of_mem_take hc)
    rwa [hm] at this
  by_cases hlt : k < C.length
  rotate_left
  · obtain rfl : k = C.length:=by omega
    rw [List.take_length] at hm
    rw [hm]
    repeat' (first | (with_reducible first | refine jn_in ?_ | refine cl_ok (by assumption) rfl ?_ | refine cl_okP (by assumption) rfl ?_ | refine br_x (fun hbr=>?_) fun hbr=>?_) | simp (disch:=first | omega | (simp only [lnA];omega) | simp only [lnB,Nat.reduceAdd]) only [go_sem,↓reduceIte,Nat.reduceAdd,reduceNeg,Int.reduceAdd,reduceSub,reduceMul,reduceLT,reduceLE,reduceEq,reduceToNat,Nat.reduceBEq,nat1,true_and])
    all_goals first | omega | rfl | skip
  have hst:=cfold_take (stp t V) (1,true) hlt
  rw [hm] at hst
  have hcm : C.getD k default ∈ C:=getD_mem hlt
  have hg1 : (opnL C).getD k default = ((C.getD k default).1 : Int):=by
    unfold opnL
    rw [List.getD_eq_getElem?_getD,List.getElem?_map,List.getElem?_eq_getElem hlt,List.getD_eq_getElem?_getD,List.getElem?_eq_getElem hlt];rfl
  have hg2 : (sgnL C).getD k default = (C.getD k default).2:=by
    unfold sgnL
    rw [List.getD_eq_getElem?_getD,List.getElem?_map,List.getElem?_eq_getElem hlt,List.getD_eq_getElem?_getD,List.getElem?_eq_getElem hlt];rfl
  have hib:=ix_b (t:=4) (l:=sgnL C) (kd:=.i64) (z:=(k : Int)) (by omega) (by omega)
  rw [Int.toNat_natCast,hg2] at hib
  have hrest : (C.take (k + 1)).foldl (stp t V) (1,true) = (0,false)→C.foldl (stp t V) (1,true) = (0,false):=fun h0=>by
    conv=>lhs;rw [← List.take_append_drop (k + 1) C]
    rw [List.foldl_append,h0,stp_fold_no]
  obtain ⟨hj,hjI⟩:=hCin _ hcm
  have howl:=hol _ hcm
  generalize C.getD k default = c at *
  obtain ⟨j,sg⟩:=c
  simp only at hst hg1 hib hj hjI howl
  have hjx:=ix_Nod (t:=73) (l:=t) (kd:=.i64) (z:=(j : Int)) (by omega) (by omega)
  simp only [Int.toNat_natCast] at hjx
  have hzr : zeroB t j = (decide ((t.getD j default).kind = 2) && decide ((t.getD j default).num = 0)):=rfl
  have hop : (zeroB t j = true∧ownM t V j = (1,true)) ∨ (zeroB t j = false∧Meets Try.prog 91 [(false,[encNods t]),(false,[.sc (.int .i64 j)]),(false,[encSs V])] [(false,[.sc (.int .u32 ((ownM t V j).1 : Nat))],true),(false,[.sc (.bool (ownM t V j).2)],true)]):=by
    unfold ownM
    cases hz : zeroB t j
    · refine .inr ⟨rfl,?_⟩
      exact implTerms_m hT hV (n:=t.length) hj hj hjI
    · exact .inl ⟨rfl,rfl⟩
  have hstp : ((ownM t V j).2 = false∧stp t V (m,true) (j,sg) = (0,false)) ∨ ((ownM t V j).2 = true∧stp t V (m,true) (j,sg) = (if (sg != zeroB t j) = true then m ||| (ownM t V j).1 else andN m (ownM t V j).1,true)):=by
    unfold stp
    simp only
    cases (ownM t V j).2 <;> simp
  generalize stp t V (m,true) (j,sg) = R at *
  generalize ownM t V j = own at *
  obtain ⟨mo,oo⟩:=own
  simp only at howl hop hstp
  generalize hzb : zeroB t j = zb at *
  generalize hxj : t.getD j default = xj at *
  obtain ⟨kd2,nm2,tx2,lbs2,kc2⟩:=xj
  simp only [encNods,encSs,encNod,encZs] at hjx hzr hop ⊢
  have hor:=@e_or32 false m mo hml howl
  have han:=@e_andN false m mo
  have hbr0 : (k : Int) < C.length:=by omega
  simp (disch:=first | omega | (simp only [lnA];omega) | simp only [lnB,Nat.reduceAdd]) only [go_sem,↓reduceIte,Nat.reduceAdd,reduceNeg,Int.reduceAdd,reduceSub,reduceMul,reduceLT,reduceLE,reduceEq,reduceToNat,Nat.reduceBEq,nat1,hg1,hl1]
  refine br_if (fun hbr=>?_) (fun hbr=>?_)
  rotate_left
  · omega
  simp (disch:=first | omega | (simp only [lnA];omega) | simp only [lnB,Nat.reduceAdd]) only [go_sem,↓reduceIte,Nat.reduceAdd,reduceNeg,Int.reduceAdd,reduceSub,reduceMul,reduceLT,reduceLE,reduceEq,reduceToNat,Nat.reduceBEq,nat1,hg1,hl1]
  refine jn_in ?_
  simp (disch:=first | omega | (simp only [lnA];omega) | simp only [lnB,Nat.reduceAdd]) only [go_sem,↓reduceIte,Nat.reduceAdd,reduceNeg,Int.reduceAdd,reduceSub,reduceMul,reduceLT,reduceLE,reduceEq,reduceToNat,Nat.reduceBEq,nat1,hg1,hl1]
  refine jn (fun vs=>vs = [.sc (.bool zb)]) ?_ ?_
  · rw [hzr]
    simp (disch:=first | omega | (simp only [lnA];omega) | simp only [lnB,Nat.reduceAdd]) only [go_sem,↓reduceIte,Nat.reduceAdd,reduceNeg,Int.reduceAdd,reduceSub,reduceMul,reduceLT,reduceLE,reduceEq,reduceToNat,Nat.reduceBEq,nat1,hjx]
    refine br_if (fun hbr=>?_) (fun hbr=>?_)
    · subst hbr
      simp (disch:=first | omega | (simp only [lnA];omega) | simp only [lnB,Nat.reduceAdd]) only [go_sem,↓reduceIte,Nat.reduceAdd,reduceNeg,Int.reduceAdd,reduceSub,reduceMul,reduceLT,reduceLE,reduceEq,reduceToNat,Nat.reduceBEq,nat1,hjx]
    · rw [decide_eq_false hbr]
      simp (disch:=first | omega | (simp only [lnA];omega) | simp only [lnB,Nat.reduceAdd]) only [go_sem,↓reduceIte,Nat.reduceAdd,reduceNeg,Int.reduceAdd,reduceSub,reduceMul,reduceLT,reduceLE,reduceEq,reduceToNat,Nat.reduceBEq,nat1,hjx]
      rfl
  rintro vs - rfl
  simp only [u_impl_rightTerms_j1]
  simp (disch:=first | omega | (simp only [lnA];omega) | simp only [lnB,Nat.reduceAdd]) only [go_sem,↓reduceIte,Nat.reduceAdd,reduceNeg,Int.reduceAdd,reduceSub,reduceMul,reduceLT,reduceLE,reduceEq,reduceToNat,Nat.reduceBEq,nat1,true_and]
  refine jn (fun vs=>vs = [.sc (.bool oo),.sc (.int .u32 mo)]) ?_ ?_
  · rcases hop with ⟨e1,e2⟩ | ⟨e1,e2⟩
    · injection e2 with e2 e3
      subst e1 e2 e3
      simp (disch:=first | omega | (simp only [lnA];omega) | simp only [lnB,Nat.reduceAdd]) only [go_sem,↓reduceIte,Nat.reduceAdd,reduceNeg,Int.reduceAdd,reduceSub,reduceMul,reduceLT,reduceLE,reduceEq,reduceToNat,Nat.reduceBEq,nat1,true_and]
      rfl
    · subst e1
      simp (disch:=first | omega | (simp only [lnA];omega) | simp only [lnB,Nat.reduceAdd]) only [go_sem,↓reduceIte,Nat.reduceAdd,reduceNeg,Int.reduceAdd,reduceSub,reduceMul,reduceLT,reduceLE,reduceEq,reduceToNat,Nat.reduceBEq,nat1,true_and]
      refine cl_ok e2 rfl ?_
      simp (disch:=first | omega | (simp only [lnA];omega) | simp only [lnB,Nat.reduceAdd]) only [go_sem,↓reduceIte,Nat.reduceAdd,reduceNeg,Int.reduceAdd,reduceSub,reduceMul,reduceLT,reduceLE,reduceEq,reduceToNat,Nat.reduceBEq,nat1,true_and]
  rintro vs - rfl
  simp only [u_impl_rightTerms_j0]
  rcases hstp with ⟨e1,e2⟩ | ⟨e1,e2⟩
  · subst e1
    have:=hrest (by rw [hst,e2])
    rw [this]
    repeat' (first | (with_reducible first | refine jn_in ?_ | refine cl_ok (by assumption) rfl ?_ | refine cl_okP (by assumption) rfl ?_ | refine br_x (fun hbr=>?_) fun hbr=>?_) | simp (disch:=first | omega | (simp only [lnA];omega) | simp only [lnB,Nat.reduceAdd]) only [go_sem,↓reduceIte,Nat.reduceAdd,reduceNeg,Int.reduceAdd,reduceSub,reduceMul,reduceLT,reduceLE,reduceEq,reduceToNat,Nat.reduceBEq,nat1,true_and])
    all_goals first | omega | rfl | skip
  · subst e1
    cases hsz : (sg != zb)
    · rw [hsz] at e2
      simp only [Bool.false_eq_true,if_false] at e2
      have hbe : (!(sg == zb)) = false:=hsz
      repeat' (first | (with_reducible first | refine jn_in ?_ | refine cl_ok (by assumption) rfl ?_ | refine cl_okP (by assumption) rfl ?_ | refine br_x (fun hbr=>?_) fun hbr=>?_) | simp (disch:=first | omega | (simp only [lnA];omega) | simp only [lnB,Nat.reduceAdd]) only [go_sem,↓reduceIte,Nat.reduceAdd,reduceNeg,Int.reduceAdd,reduceSub,reduceMul,reduceLT,reduceLE,reduceEq,reduceToNat,Nat.reduceBEq,nat1,hib,hbe,han,u_impl_rightTerms_j2])
      all_goals first | omega | exact ⟨(k + 1,andN m mo),rfl,⟨by simp only;omega,by simp only;rw [hst,e2]⟩,by simp only;omega⟩ | skip
    · rw [hsz] at e2
      simp only [if_true] at e2
      have hbe : (!(sg == zb)) = true:=hsz
      repeat' (first | (with_reducible first | refine jn_in ?_ | refine cl_ok (by assumption) rfl ?_ | refine cl_okP (by assumption) rfl ?_ | refine br_x (fun hbr=>?_) fun hbr=>?_) | simp (disch:=first | omega | (simp only [lnA];omega) | simp only [lnB,Nat.reduceAdd]) only [go_sem,↓reduceIte,Nat.reduceAdd,reduceNeg,Int.reduceAdd,reduceSub,reduceMul,reduceLT,reduceLE,reduceEq,reduceToNat,Nat.reduceBEq,nat1,hib,hbe,hor,u_impl_rightTerms_j2])
      all_goals first | omega | exact ⟨(k + 1,m ||| mo),rfl,⟨by simp only;omega,by simp only;rw [hst,e2]⟩,by simp only;omega⟩ | skip
theorem sumOf_bd {α : Type} {f : α→Nat} {c : Nat} : ∀ {l : List α},(∀ y ∈ l,f y≤c)→sumOf f l≤l.length * c
  | [],_=>Nat.zero_le _
  | x :: l,h=>by
    have h1:=h x (List.mem_cons_self ..)
    have h2:=sumOf_bd (l:=l) fun y hy=>h y (List.mem_cons_of_mem _ hy)
    rw [List.length_cons,Nat.succ_mul]
    simp only [sumOf];omega
theorem varsU_mem (u : Nat) (V : List ByteArray) : ∀ i,i≤V.length→∀ y ∈ varsU u V i,y ∈ V
  | 0,_,y,hy=>by cases hy
  | i + 1,hi,y,hy=>by
    rw [varsU] at hy
    split at hy
    · rcases List.mem_append.1 hy with hy | hy
      · exact varsU_mem u V i (by omega) y hy
      · rw [List.mem_singleton.1 hy];exact getD_mem (by omega)
    · exact varsU_mem u V i (by omega) y hy
theorem fml_name {f : Fml} (h : fmlB f = true) : f.response.size≤20∧∀ y ∈ f.variables,y.size≤20:=by
  unfold fmlB at h
  simp only [Bool.and_eq_true] at h
  refine ⟨(nameB_size h.1).2,fun y hy=>?_⟩
  obtain ⟨j,hj,rfl⟩:=List.mem_iff_getElem.1 hy
  have:=allB_iff.1 h.2.2.2.1 j hj
  unfold fmlV at this
  simp only [Bool.and_eq_true] at this
  have:=nameB_size this.1
  rw [List.getD_eq_getElem?_getD,List.getElem?_eq_getElem hj] at this
  exact this.2
theorem or_lt2 {n a b : Nat} (ha : a < 2 ^ n) (hb : b < 2 ^ n) : a ||| b < 2 ^ n:=Nat.or_lt_two_pow ha hb
def BitsIn (m n : Nat) : Prop:=∀ z,m.testBit z = true→z < 2 ^ n
theorem bits_or {a b n : Nat} (ha : BitsIn a n) (hb : BitsIn b n) : BitsIn (a ||| b) n:=fun z hz=>by
  rw [Nat.testBit_or,Bool.or_eq_true] at hz
  exact hz.elim (ha z) (hb z)
theorem bits_and {a b n : Nat} (ha : BitsIn a n) : BitsIn (andN a b) n:=fun z hz=>by
  by_cases h : z < 32
  · rw [andN_bit h,Bool.and_eq_true] at hz;exact ha z hz.1
  · have:=Nat.testBit_lt_two_pow (i:=z) (x:=andN a b) (Nat.lt_of_lt_of_le (andN_lt a b) (Nat.pow_le_pow_right (n:=2) (by decide) (show 32≤z by omega)))
    rw [this] at hz;cases hz
theorem bits_crs {a b n : Nat} (ha : BitsIn a n) (hb : BitsIn b n) : BitsIn (crs a b) n:=fun z hz=>by
  obtain ⟨x,y,-,-,h1,h2,rfl⟩:=crX_bit.1 hz
  exact or_lt2 (ha x h1) (hb y h2)
theorem bits_one {k n : Nat} (h : k < 2 ^ n) : BitsIn (2 ^ k) n:=fun z hz=>by
  rw [Nat.testBit_two_pow,decide_eq_true_eq] at hz;omega
theorem bits_1 {n : Nat} : BitsIn 1 n:=bits_one (k:=0) (Nat.pow_pos (by decide))
theorem bits_0 {n : Nat} : BitsIn 0 n:=fun z hz=>by simp at hz
theorem find1_in' {V : List ByteArray} {s : ByteArray} (h : s ∈ V) : ∃ k : Nat,find1 V s = k∧k < V.length:=by
  rcases find1_spec V s with ⟨-,h2⟩ | ⟨k,h1,h2,-⟩
  · exact absurd h h2
  · exact ⟨k,h1,(List.getElem?_eq_some_iff.1 h2).1⟩
theorem opM_bits {t : List Nod} {V : List ByteArray} (hT : treeB t = true) : ∀ {n i : Nat},i < t.length→InV t V i→BitsIn (opM t V n i).1 V.length
  | 0,_,_,_=>bits_0
  | n + 1,i,hi,hI=>by
    rw [opM]
    split
    · rename_i hk
      obtain ⟨k,h1,h2⟩:=find1_in' (hI i (startT_le t i) (Nat.le_refl _) hk)
      rw [h1,Int.toNat_natCast]
      exact bits_one (Nat.pow_lt_pow_right (by decide) h2)
    split
    · exact bits_1
    split
    · exact bits_0
    rename_i hk
    have hk2 : (t.getD i default).kind = 11:=by simpa using hk
    split
    · exact bits_0
    obtain ⟨a1,a2,a3,-⟩:=kid_ok hT hi hI hk2 (j:=0) (by omega)
    obtain ⟨b1,b2,b3,-⟩:=kid_ok hT hi hI hk2 (j:=1) (by omega)
    have m0:=opM_bits hT (n:=n) a1 a2
    have m1:=opM_bits hT (n:=n) b1 b2
    split
    · exact bits_or m0 m1
    split
    · exact bits_and m0
    split
    · exact bits_crs m0 m1
    split
    · exact bits_or (bits_or m0 m1) (bits_crs m0 m1)
    · exact bits_0
theorem fold_bits {t : List Nod} {V : List ByteArray} (hT : treeB t = true) : ∀ {C : List (Nat × Bool)} {P : Nat × Bool},BitsIn P.1 V.length→(∀ c ∈ C,c.1 < t.length∧InV t V c.1)→BitsIn (C.foldl (stp t V) P).1 V.length
  | [],P,h,_=>h
  | c :: C,P,h,hc=>by
    refine fold_bits hT (C:=C) ?_ fun d hd=>hc d (List.mem_cons_of_mem _ hd)
    obtain ⟨h1,h2⟩:=hc c (List.mem_cons_self ..)
    have ho : BitsIn (ownM t V c.1).1 V.length:=by
      unfold ownM
      split
      · exact bits_1
      · exact opM_bits hT h1 h2
    unfold stp
    split
    · exact bits_0
    · show BitsIn (if _ then _ else _) _
      split
      · exact bits_or h ho
      · exact bits_and h
theorem rtM_bits {t : List Nod} {V : List ByteArray} (hT : treeB t = true) {n i : Nat} (hi : i < t.length) (hI : InV t V i) : BitsIn (rtM t V n i).1 V.length:=fold_bits hT bits_1 (chn_in hT hi hI)
theorem rtM_lt {t : List Nod} {V : List ByteArray} (hT : treeB t = true) (hV : V.length≤5) {n i : Nat} (hi : i < t.length) (hI : InV t V i) : (rtM t V n i).1 < 4294967296 :=
  stp_fold_lt (by show (1 : Nat) < 4294967296;omega) fun c hc=>own_lt hT hV (chn_in hT hi hI c hc).1 (chn_in hT hi hI c hc).2
def bitsL (m : Nat) : Nat→List Int
  | 0=>[]
  | x + 1=>if 1≤x∧m.testBit x = true then bitsL m x ++ [(x : Int)] else bitsL m x
theorem bitsL_len (m : Nat) : ∀ x,(bitsL m x).length≤x
  | 0=>Nat.le_refl _
  | x + 1=>by
    have:=bitsL_len m x
    rw [bitsL];split
    · rw [List.length_append,List.length_singleton];omega
    · omega
theorem bitsL_mem {m : Nat} {z : Int} : ∀ {k},z ∈ bitsL m k ↔ ∃ x : Nat,z = x∧1≤x∧x < k∧m.testBit x = true
  | 0=>by simp [bitsL]
  | k + 1=>by
    rw [bitsL]
    split
    · rename_i h
      rw [List.mem_append,List.mem_singleton,bitsL_mem]
      constructor
      · rintro (⟨x,h1,h2,h3,h4⟩ | h1)
        · exact ⟨x,h1,h2,by omega,h4⟩
        · exact ⟨k,h1,h.1,by omega,h.2⟩
      · rintro ⟨x,h1,h2,h3,h4⟩
        by_cases e : x = k
        · subst e;exact .inr h1
        · exact .inl ⟨x,h1,h2,by omega,h4⟩
    · rename_i h
      rw [bitsL_mem]
      constructor
      · rintro ⟨x,h1,h2,h3,h4⟩;exact ⟨x,h1,h2,by omega,h4⟩
      · rintro ⟨x,h1,h2,h3,h4⟩
        by_cases e : x = k
        · subst e;exact absurd ⟨h2,h4⟩ h
        · exact ⟨x,h1,h2,by omega,h4⟩
theorem bitsL_nodup {m : Nat} : ∀ {k},(bitsL m k).Nodup
  | 0=>List.nodup_nil
  | k + 1=>by
    rw [bitsL]
    split
    · rw [List.nodup_append]
      refine ⟨bitsL_nodup,List.nodup_cons.2 ⟨List.not_mem_nil,List.nodup_nil⟩,fun a ha b hb=>?_⟩
      obtain ⟨x,h1,-,h3,-⟩:=bitsL_mem.1 ha
      rw [List.mem_singleton] at hb;omega
    · exact bitsL_nodup
theorem foldI_asc : ∀ {l a : List Int},Asc a→l.Nodup→(∀ x ∈ l,x ∉ a)→Asc (l.foldl insI a)
  | [],a,h,_,_=>h
  | x :: l,a,h,hn,hd=>by
    obtain ⟨h1,h2⟩:=List.nodup_cons.1 hn
    refine foldI_asc (l:=l) (asc_ins h (hd x (List.mem_cons_self ..))) h2 fun y hy hm=>?_
    rcases mem_insI hm with hm | hm
    · exact hd y (List.mem_cons_of_mem _ hy) hm
    · subst hm;exact h1 hy
theorem insT_asc {l : List Int} (h : l.Nodup) : Asc (insT l):=foldI_asc (fun i j _ h=>by simp at h) h fun x _=>by simp
theorem insI_mem {l : List Int} {x z : Int} : z ∈ insI l x ↔ z ∈ l ∨ z = x:=mid_mem
theorem foldI_mem {z : Int} : ∀ {l a : List Int},z ∈ l.foldl insI a ↔ z ∈ a ∨ z ∈ l
  | [],a=>by simp
  | x :: l,a=>by rw [List.foldl_cons,foldI_mem,insI_mem,List.mem_cons,or_assoc]
theorem insT_mem {l : List Int} {z : Int} : z ∈ insT l ↔ z ∈ l:=by unfold insT;rw [foldI_mem];simp
theorem orL_bits {T : List Int} {i : Nat} : ∀ {n},n≤T.length→((orL T n).testBit i = true ↔ ∃ x ∈ T.take n,x.toNat.testBit i = true)
  | 0,_=>by simp [orL]
  | n + 1,h=>by
    rw [orL,Nat.testBit_or,Bool.or_eq_true,orL_bits (by omega),List.take_add_one,List.getElem?_eq_getElem (show n < T.length by omega),List.getD_eq_getElem?_getD,List.getElem?_eq_getElem (show n < T.length by omega)]
    simp only [List.mem_append,Option.toList_some,List.mem_singleton,Option.getD_some]
    constructor
    · rintro (⟨x,h1,h2⟩ | h)
      · exact ⟨x,.inl h1,h2⟩
      · exact ⟨_,.inr rfl,h⟩
    · rintro ⟨x,h1 | rfl,h2⟩
      · exact .inl ⟨x,h1,h2⟩
      · exact .inr h2
theorem orT_congr {S T : List Int} (h : ∀ z,z ∈ S ↔ z ∈ T) : orT S = orT T:=by
  apply Nat.eq_of_testBit_eq
  intro i
  rw [Bool.eq_iff_iff]
  unfold orT
  rw [orL_bits (Nat.le_refl _),orL_bits (Nat.le_refl _),List.take_length,List.take_length]
  constructor
  · rintro ⟨x,h1,h2⟩;exact ⟨x,(h x).1 h1,h2⟩
  · rintro ⟨x,h1,h2⟩;exact ⟨x,(h x).2 h1,h2⟩
theorem sub_orT {T : List Int} {x : Int} (h : x ∈ T) : Sub x.toNat (orT T):=fun i hi=>by
  obtain ⟨j,hj,rfl⟩:=List.mem_iff_getElem.1 h
  refine orL_bit (T:=T) (i:=i) (n:=T.length) (j:=j) hj ?_
  rw [List.getD_eq_getElem?_getD,List.getElem?_eq_getElem hj];exact hi
theorem cmpZ_inj {u n : Nat} {x y : Int} (hx : Sub x.toNat u) (hy : Sub y.toNat u) (h0 : 0≤x) (h1 : 0≤y) (hxn : x.toNat < 2 ^ n) (hyn : y.toNat < 2 ^ n) (h : cmpZ u n x = cmpZ u n y) : x = y:=by
  have m1:=(cmp_mono hx hy n).1
  have m2:=(cmp_mono hy hx n).1
  rw [Nat.mod_eq_of_lt hxn,Nat.mod_eq_of_lt hyn] at m1 m2
  unfold cmpZ at h
  omega
theorem terms_same {S T : List Int} {n : Nat} (hS : Asc S) (hT : T.Nodup) (h : ∀ z,z ∈ S ↔ z ∈ T) (hb : ∀ z ∈ S,0≤z∧z.toNat < 2 ^ n) : orT T = orT S∧insT (T.map (cmpZ (orT T) n)) = S.map (cmpZ (orT S) n):=by
  have e:=(orT_congr h).symm
  refine ⟨e,?_⟩
  rw [e]
  refine pw_ext (asc_pw.1 (insT_asc ?_)) (asc_pw.1 (asc_cmp hS fun i hi=>hb _ (getD_mem hi))) fun z=>?_
  · refine List.Pairwise.map _ ?_ (List.Pairwise.and_mem.1 hT)
    rintro a b ⟨ha,hbm,hne⟩ heq
    have h1:=hb a ((h a).2 ha)
    have h2:=hb b ((h b).2 hbm)
    exact hne (cmpZ_inj (sub_orT ((h a).2 ha)) (sub_orT ((h b).2 hbm)) h1.1 h2.1 h1.2 h2.2 heq)
  · rw [insT_mem,List.mem_map,List.mem_map]
    constructor
    · rintro ⟨x,h1,h2⟩;exact ⟨x,(h x).2 h1,h2⟩
    · rintro ⟨x,h1,h2⟩;exact ⟨x,(h x).1 h1,h2⟩
theorem zero_first {L : List Int} (h : GoodT L) : (decide (0 < L.length) && decide (L.getD 0 default = 0)) = decide ((0 : Int) ∈ L):=by
  by_cases hz : (0 : Int) ∈ L
  · rw [decide_eq_true hz]
    obtain ⟨j,hj,hj2⟩:=List.mem_iff_getElem.1 hz
    have hL : L.getD j default = 0:=by rw [List.getD_eq_getElem?_getD,List.getElem?_eq_getElem hj];exact hj2
    have h0:=good_at h (show 0 < L.length by omega)
    rw [decide_eq_true (show 0 < L.length by omega),Bool.true_and,decide_eq_true_eq]
    by_cases e : j = 0
    · subst e;exact hL
    · have h1:=tLess_iff.1 (h.1 0 j (by omega) hj)
      rw [hL,bitC_neg (Int.le_refl 0)] at h1
      have h2 : 0≤bitC (L.getD 0 default):=Int.natCast_nonneg _
      omega
  · rw [decide_eq_false hz]
    by_cases h1 : 0 < L.length
    · rw [Bool.and_eq_false_iff]
      right
      rw [decide_eq_false_iff_not]
      intro e
      exact hz (by rw [← e];exact getD_mem h1)
    · rw [decide_eq_false h1];rfl
def nmV (t : List Nod) : List ByteArray:=sortS (nmT t 1 (t.length - 2))
def headB (t : List Nod) : Bool:=treeB t && (decide ((t.getD (t.length - 1) default).kind = 11) && (decide ((t.getD (t.length - 1) default).text = ⟨#[126]⟩) && (decide ((t.getD 0 default).kind = 7) && decide ((kidsT t (t.length - 1)).getD 0 default = 0))))
def frm (r : ByteArray) (V : List ByteArray) (m : Nat) : Fml:=⟨r,m.testBit 0,varsU (orT (bitsL m 32)) V V.length,insT ((bitsL m 32).map (cmpZ (orT (bitsL m 32)) V.length))⟩
def noF : Fml:=⟨⟨#[]⟩,false,[],[]⟩
def fofT (t : List Nod) : Fml × Bool :=
  if headB t = false then (noF,false)
  else if ¬ (nmV t).length≤5 then (noF,false)
  else if (rtM t (nmV t) t.length (t.length - 2)).2 = false then (noF,false)
  else if fmlB (frm (t.getD 0 default).text (nmV t) (rtM t (nmV t) t.length (t.length - 2)).1) = false then (noF,false)
  else (frm (t.getD 0 default).text (nmV t) (rtM t (nmV t) t.length (t.length - 2)).1,true)
theorem putB_mem {l : List ByteArray} {s z : ByteArray} : z ∈ putB l s ↔ z ∈ l ∨ z = s:=by
  unfold putB
  split
  · rename_i h
    rw [hasB_iff] at h
    constructor
    · exact .inl
    · rintro (h1 | rfl)
      · exact h1
      · exact h
  · simp
theorem nmT_mem {t : List Nod} {a : Nat} {j : Nat} : ∀ {n},j < n→a + n≤t.length→(t.getD (a + j) default).kind = 7→(t.getD (a + j) default).text ∈ nmT t a n
  | n + 1,h,hn,hk=>by
    rw [nmT_step (by omega)]
    unfold nmN
    by_cases e : j = n
    · subst e;rw [if_pos hk,putB_mem];exact .inr rfl
    · have:=nmT_mem (n:=n) (show j < n by omega) (by omega) hk
      split
      · exact putB_mem.2 (.inl this)
      · exact this
theorem nmT_src {t : List Nod} {a : Nat} {z : ByteArray} : ∀ {n},a + n≤t.length→z ∈ nmT t a n→∃ j,a≤j∧j < a + n∧(t.getD j default).kind = 7∧z = (t.getD j default).text
  | 0,_,h=>by simp [nmT] at h
  | n + 1,hn,h=>by
    rw [nmT_step (by omega)] at h
    unfold nmN at h
    split at h
    · rename_i hk
      rcases putB_mem.1 h with h | h
      · obtain ⟨j,h1,h2,h3⟩:=nmT_src (n:=n) (by omega) h;exact ⟨j,h1,by omega,h3⟩
      · exact ⟨a + n,by omega,by omega,hk,h⟩
    · obtain ⟨j,h1,h2,h3⟩:=nmT_src (n:=n) (by omega) h;exact ⟨j,h1,by omega,h3⟩
theorem lenT_last {t : List Nod} (h : treeB t = true) : lenT t t.length = 1:=by
  unfold treeB at h
  unfold lenT
  rw [Bool.and_eq_true] at h
  cases hs : stkT t t.length with
  | none=>rw [hs] at h;simp at h
  | some s=>rw [hs] at h;simp only [Bool.and_eq_true,decide_eq_true_eq] at h;exact h.2.1
theorem lenT_pos' {t : List Nod} (h : treeB t = true) {j : Nat} (h0 : 0 < j) (hj : j≤t.length) : 1≤lenT t j:=by
  obtain ⟨k,rfl⟩:=Nat.exists_eq_succ_of_ne_zero (show j ≠ 0 by omega)
  exact lenT_pos h (by omega)
theorem root_kids {t : List Nod} (h : treeB t = true) (hk : (t.getD (t.length - 1) default).kind = 11) : 3≤t.length∧kidsT t (t.length - 1) = [((startT t (t.length - 2) - 1 : Nat) : Int),((t.length - 2 : Nat) : Int)]∧1≤startT t (t.length - 2)∧startT t (startT t (t.length - 2) - 1) = 0:=by
  have htl:=tree_len h
  have hr : t.length - 1 < t.length:=by omega
  obtain ⟨k,h1,h2,h3,h4⟩:=lenT_step h hr
  have hk2:=nB_two h4 hk
  have h5:=lenT_last h
  rw [show t.length - 1 + 1 = t.length by omega,h5] at h3
  have h6 : lenT t (t.length - 1) = 2:=by omega
  have h7:=lenT_le t (t.length - 1)
  have h9:=startT_len h (i:=t.length - 2) (by omega)
  rw [show t.length - 2 + 1 = t.length - 1 by omega,h6] at h9
  have h10 : 1≤startT t (t.length - 2):=by
    rcases Nat.eq_zero_or_pos (startT t (t.length - 2)) with e | e
    · rw [e,lenT_0] at h9;omega
    · exact e
  have h11:=startT_le t (t.length - 2)
  have h12:=startT_len h (i:=startT t (t.length - 2) - 1) (by omega)
  rw [show startT t (t.length - 2) - 1 + 1 = startT t (t.length - 2) by omega] at h12
  refine ⟨by omega,?_,h10,?_⟩
  · unfold kidsT
    rw [hk2]
    show rootsT t (t.length - 1) 2 = _
    rw [rootsT,rootsT,rootsT,show t.length - 1 - 1 = t.length - 2 by omega];rfl
  · rcases Nat.eq_zero_or_pos (startT t (startT t (t.length - 2) - 1)) with e | e
    · exact e
    · have:=lenT_pos' h e (by have:=startT_le t (startT t (t.length - 2) - 1);omega)
      omega
theorem first_name {t : List Nod} (h : treeB t = true) (hk : (t.getD (t.length - 1) default).kind = 11) : ((t.getD (startT t (t.length - 2) - 1) default).kind = 7) ↔ ((t.getD 0 default).kind = 7∧startT t (t.length - 2) - 1 = 0):=by
  obtain ⟨h1,h2,h3,h4⟩:=root_kids h hk
  have h5:=startT_le t (t.length - 2)
  constructor
  · intro h7
    obtain ⟨k,g1,g2,g3,g4⟩:=lenT_step h (j:=startT t (t.length - 2) - 1) (by omega)
    have hz : k = 0:=by
      have : (t.getD (startT t (t.length - 2) - 1) default).kids = 0:=by
        unfold nB nodB at g4
        simp only [Bool.and_eq_true] at g4
        have g4:=g4.2.1
        rw [h7] at g4
        simpa [kidB] using g4
      omega
    have e : startT t (startT t (t.length - 2) - 1) = startT t (t.length - 2) - 1:=stF_hit (by omega)
    rw [h4] at e
    rw [← e] at h7
    exact ⟨h7,e.symm⟩
  · rintro ⟨h7,e⟩
    rw [e];exact h7
theorem inV_all {t : List Nod} (h : treeB t = true) (h3 : 3≤t.length) (hs : startT t (t.length - 2) = 1) : InV t (nmV t) (t.length - 2):=fun j h1 h2 hk=>by
  rw [hs] at h1
  have:=nmT_mem (t:=t) (a:=1) (j:=j - 1) (n:=t.length - 2) (by omega) (by omega) (by rw [show 1 + (j - 1) = j by omega];exact hk)
  rw [show 1 + (j - 1) = j by omega] at this
  exact sortS_mem.2 this
theorem nmV_size {t : List Nod} (h : treeB t = true) : ∀ x ∈ nmV t,x.size≤20:=fun x hx=>by
  have htl:=tree_len h
  have hx:=sortS_mem.1 hx
  by_cases h2 : 2≤t.length
  · obtain ⟨j,h1,h2,h3,rfl⟩:=nmT_src (by omega) hx
    exact (nameB_size (nB_name (tree_nB h (i:=j) (by omega)) (by unfold namK;rw [h3];decide))).2
  · rw [show t.length - 2 = 0 by omega] at hx
    simp [nmT] at hx
theorem frm_ok {r : ByteArray} {V : List ByteArray} {m : Nat} (hr : r.size≤1048576) (hV : V.length≤5) (hs : ∀ x ∈ V,x.size≤20) : FmlOk (frm r V m):=by
  have h1:=varsU_len (orT (bitsL m 32)) V V.length
  have h2:=cntU_le (orT (bitsL m 32)) V.length
  have h3:=bitsL_len m 32
  refine ⟨?_,?_,fun x hx=>?_,?_,fun x hx=>?_⟩
  · show r.size≤_;omega
  · show (varsU (orT (bitsL m 32)) V V.length).length≤_;omega
  · have:=hs x (varsU_mem _ V V.length (Nat.le_refl _) x hx);omega
  · show (insT _).length≤_
    rw [insT_len,List.length_map];omega
  · obtain ⟨y,_,rfl⟩:=List.mem_map.1 (mem_insT hx)
    have:=cmpZ_lt (u:=orT (bitsL m 32)) hV y
    omega
theorem frm_spec {r : ByteArray} {V : List ByteArray} {m : Nat} {L : List Int} (hV : V.length≤5) (g : GoodT L) (s : SetT L m) (hb : BitsIn m V.length) :
    frm r V m = ⟨r,decide (0 < L.length) && decide (L.getD 0 default = 0),varsU (orT (withoutZ L 0)) V V.length,(withoutZ L 0).map (cmpZ (orT (withoutZ L 0)) V.length)⟩:=by
  have hp:=pow_le5 hV
  have hm : ∀ z,z ∈ withoutZ L 0 ↔ z ∈ bitsL m 32:=fun z=>by
    rw [mem_without,bitsL_mem]
    constructor
    · rintro ⟨h1,h2⟩
      have h3:=g.2 z h1
      refine ⟨z.toNat,by omega,by omega,by omega,(s z.toNat (by omega)).1 ?_⟩
      rw [Int.toNat_of_nonneg h3.1];exact h1
    · rintro ⟨x,rfl,h2,h3,h4⟩
      exact ⟨(s x h3).2 h4,by omega⟩
  obtain ⟨e1,e2⟩:=terms_same (n:=V.length) (asc_without (x:=0) g.1) bitsL_nodup hm fun z hz=>by
    obtain ⟨h1,h2⟩:=mem_without.1 hz
    have h3:=g.2 z h1
    refine ⟨h3.1,hb _ ((s z.toNat (by omega)).1 ?_)⟩
    rw [Int.toNat_of_nonneg h3.1];exact h1
  have e3 : m.testBit 0 = decide ((0 : Int) ∈ L):=by
    rw [Bool.eq_iff_iff,decide_eq_true_eq]
    exact (s 0 (by decide)).symm
  unfold frm
  rw [e2,e1,e3,zero_first g]
def u_impl_subtree_h : List Hint:=[]
def u_impl_subtree_d : List (Nat × Nat × Bool × List Nat):=[]
def u_impl_subtree_u : UP:=.cl 89 [(false,[1]),(false,[0])] [(false,[none],true)] <| .po (.k (.int .i64 1)) <| .po (.bin .add false 2 0) <| .po (.cutL 5 4 (some 2) (some 0)) <| .ret [(false,[0])]
theorem u_impl_subtree_g : toUPrf Try.prog 55 Try.f55 owA u_impl_subtree_h u_impl_subtree_d = some ([(false,1),(false,1)],u_impl_subtree_u):=by kernel_rfl
def BdN (t : List Nod) : Prop:=t.length≤1048576∧∀ x ∈ t,x.text.size≤1048576∧x.labels.length≤1048576∧∀ y ∈ x.labels,y.size≤1048576
theorem BdN.of {t : List Nod} (h : wtNods t≤1048576) : BdN t:=wtNods_ok h
theorem implSub_m (t : List Nod) (h : treeB t = true) (i : Nat) (hi : i < t.length) : Meets Try.prog 55 [(false,[encNods t]),(false,[.sc (.int .i64 i)])] [(false,[encNods (subT t i)],false)]:=by
  have h1:=implStart_m t h i hi
  have hs:=startT_le t i
  have hl:=tree_len h
  have e1 : ((i : Int) + 1).toNat = i + 1:=by omega
  refine meets_uprf Try.func55 u_impl_subtree_g rfl ?_;simp only [u_impl_subtree_u]
  unfold subT
  simp only [encNods] at h1 ⊢
  repeat' (first | (with_reducible first | refine jn_in ?_ | refine cl_ok (by assumption) rfl ?_ | refine cl_okP (by assumption) rfl ?_ | refine br_x (fun hbr=>?_) fun hbr=>?_) | simp (disch:=first | omega | (simp only [lnA];omega) | simp only [lnB,Nat.reduceAdd]) only [go_sem,↓reduceIte,Nat.reduceAdd,Int.reduceNeg,Int.reduceAdd,Int.reduceSub,Int.reduceMul,Int.reduceLT,Int.reduceLE,Int.reduceEq,Int.reduceToNat,Nat.reduceBEq,nat1,e_cL,e1,Int.toNat_natCast])
  rfl
theorem fof_no {t : List Nod} (h : headB t = false) : fofT t = (noF,false):=by unfold fofT;rw [if_pos h]
theorem noF_enc : encFml noF = [.sc (.string ⟨#[]⟩),.sc (.bool false),.sl 9 1 [],.sl 3 1 []]:=rfl
set_option maxHeartbeats 8000000 in
theorem specFof_m (t : List Nod) (ht : BdN t) : Meets Try.prog 19 [(false,[encNods t])] [(true,encFml (fofT t).1,true),(false,[.sc (.bool (fofT t).2)],true)]:=by
  have h1:=specTree_m t ht.1 ht.2
  cases hT : treeB t
  · rw [fof_no (by unfold headB;rw [hT];rfl),noF_enc]
    rw [hT] at h1
    refine meets_upf Try.func19 u_spec_FormulaOf_g rfl ?_;simp only [u_spec_FormulaOf_u]
    simp only [encNods] at h1 ⊢
    repeat' (first | (with_reducible first | refine jn_in ?_ | refine cl_ok (by assumption) rfl ?_ | refine cl_okP (by assumption) rfl ?_ | refine br_x (fun hbr=>?_) fun hbr=>?_) | simp (disch:=first | omega | (simp only [lnA];omega) | simp only [lnB,Nat.reduceAdd]) only [go_sem,↓reduceIte,Nat.reduceAdd,reduceNeg,Int.reduceAdd,reduceSub,reduceMul,reduceLT,reduceLE,reduceEq,reduceToNat,Nat.reduceBEq,nat1,true_and])
    all_goals first | omega | rfl | skip
  rw [hT] at h1
  have htl:=tree_len hT
  have hir : eIdx 5 (some (.sl 73 5 (t.map encNod))) (some (.sc (.int .i64 ((t.length : Int) - 1)))) = some (encNod (t.getD (t.length - 1) default)):=by rw [ix_Nod (by omega) (by omega)];congr 3;omega
  have hi0 : eIdx 5 (some (.sl 73 5 (t.map encNod))) (some (.sc (.int .i64 0))) = some (encNod (t.getD 0 default)):=by rw [ix_Nod (by omega) (by omega)];rfl
  have hhd : headB t = (decide ((t.getD (t.length - 1) default).kind = 11) && (decide ((t.getD (t.length - 1) default).text = ⟨#[126]⟩) && (decide ((t.getD 0 default).kind = 7) && decide ((kidsT t (t.length - 1)).getD 0 default = 0)))):=by unfold headB;rw [hT];rfl
  by_cases c1 : (t.getD (t.length - 1) default).kind = 11
  rotate_left
  · rw [fof_no (by rw [hhd,decide_eq_false c1];rfl),noF_enc]
    clear hhd
    generalize t.getD (t.length - 1) default = xr at *
    obtain ⟨kd,nm,tx,lbs,kc⟩:=xr
    simp only at c1
    refine meets_upf Try.func19 u_spec_FormulaOf_g rfl ?_;simp only [u_spec_FormulaOf_u]
    simp only [encNods,encNod,encSs] at h1 hir ⊢
    repeat' (first | (with_reducible first | refine jn_in ?_ | refine cl_ok (by assumption) rfl ?_ | refine cl_okP (by assumption) rfl ?_ | refine br_x (fun hbr=>?_) fun hbr=>?_) | simp (disch:=first | omega | (simp only [lnA];omega) | simp only [lnB,Nat.reduceAdd]) only [go_sem,↓reduceIte,Nat.reduceAdd,reduceNeg,Int.reduceAdd,reduceSub,reduceMul,reduceLT,reduceLE,reduceEq,reduceToNat,Nat.reduceBEq,nat1,hir,c1,decide_false])
    all_goals first | omega | rfl | skip
  by_cases c2 : (t.getD (t.length - 1) default).text = ⟨#[126]⟩
  rotate_left
  · rw [fof_no (by rw [hhd,decide_eq_false c2,decide_eq_true c1];rfl),noF_enc]
    clear hhd
    generalize t.getD (t.length - 1) default = xr at *
    obtain ⟨kd,nm,tx,lbs,kc⟩:=xr
    simp only at c1 c2
    subst c1
    refine meets_upf Try.func19 u_spec_FormulaOf_g rfl ?_;simp only [u_spec_FormulaOf_u]
    simp only [encNods,encNod,encSs] at h1 hir ⊢
    repeat' (first | (with_reducible first | refine jn_in ?_ | refine cl_ok (by assumption) rfl ?_ | refine cl_okP (by assumption) rfl ?_ | refine br_x (fun hbr=>?_) fun hbr=>?_) | simp (disch:=first | omega | (simp only [lnA];omega) | simp only [lnB,Nat.reduceAdd]) only [go_sem,↓reduceIte,Nat.reduceAdd,reduceNeg,Int.reduceAdd,reduceSub,reduceMul,reduceLT,reduceLE,reduceEq,reduceToNat,Nat.reduceBEq,nat1,hir,c2,decide_false])
    all_goals first | omega | rfl | skip
  by_cases c3 : (t.getD 0 default).kind = 7
  rotate_left
  · rw [fof_no (by rw [hhd,decide_eq_true c2,decide_eq_true c1,decide_eq_false c3];rfl),noF_enc]
    clear hhd
    generalize t.getD (t.length - 1) default = xr at *
    obtain ⟨kd,nm,tx,lbs,kc⟩:=xr
    generalize t.getD 0 default = x0 at *
    obtain ⟨kd0,nm0,tx0,lbs0,kc0⟩:=x0
    simp only at c1 c2 c3
    subst c1 c2
    refine meets_upf Try.func19 u_spec_FormulaOf_g rfl ?_;simp only [u_spec_FormulaOf_u]
    simp only [encNods,encNod,encSs] at h1 hir hi0 ⊢
    repeat' (first | (with_reducible first | refine jn_in ?_ | refine cl_ok (by assumption) rfl ?_ | refine cl_okP (by assumption) rfl ?_ | refine br_x (fun hbr=>?_) fun hbr=>?_) | simp (disch:=first | omega | (simp only [lnA];omega) | simp only [lnB,Nat.reduceAdd]) only [go_sem,↓reduceIte,Nat.reduceAdd,reduceNeg,Int.reduceAdd,reduceSub,reduceMul,reduceLT,reduceLE,reduceEq,reduceToNat,Nat.reduceBEq,nat1,hir,hi0,c3,decide_false])
    all_goals first | omega | rfl | skip
  obtain ⟨r1,r2,r3,r4⟩:=root_kids hT c1
  have hkk:=specKidsT_m t hT (t.length - 1) (by omega)
  have e0 : (((t.length - 1 : Nat)) : Int) = (t.length : Int) - 1:=by omega
  rw [e0] at hkk
  rw [r2] at hhd hkk
  have hg0 : ([((startT t (t.length - 2) - 1 : Nat) : Int),((t.length - 2 : Nat) : Int)] : List Int).getD 0 default = ((startT t (t.length - 2) - 1 : Nat) : Int):=rfl
  have hkl : ([((startT t (t.length - 2) - 1 : Nat) : Int),((t.length - 2 : Nat) : Int)] : List Int).length = 2:=rfl
  rw [hg0] at hhd
  by_cases c4 : startT t (t.length - 2) - 1 = 0
  rotate_left
  · rw [fof_no (by rw [hhd,decide_eq_true c2,decide_eq_true c1,decide_eq_true c3,decide_eq_false (by omega)];rfl),noF_enc]
    clear hhd
    generalize ([((startT t (t.length - 2) - 1 : Nat) : Int),((t.length - 2 : Nat) : Int)] : List Int) = K at *
    generalize t.getD (t.length - 1) default = xr at *
    obtain ⟨kd,nm,tx,lbs,kc⟩:=xr
    generalize t.getD 0 default = x0 at *
    obtain ⟨kd0,nm0,tx0,lbs0,kc0⟩:=x0
    simp only at c1 c2 c3
    subst c1 c2 c3
    refine meets_upf Try.func19 u_spec_FormulaOf_g rfl ?_;simp only [u_spec_FormulaOf_u]
    simp only [encNods,encNod,encSs,encZs] at h1 hir hi0 hkk ⊢
    repeat' (first | (with_reducible first | refine jn_in ?_ | refine cl_ok (by assumption) rfl ?_ | refine cl_okP (by assumption) rfl ?_ | refine br_x (fun hbr=>?_) fun hbr=>?_) | simp (disch:=first | omega | (simp only [lnA];omega) | simp only [lnB,Nat.reduceAdd]) only [go_sem,↓reduceIte,Nat.reduceAdd,reduceNeg,Int.reduceAdd,reduceSub,reduceMul,reduceLT,reduceLE,reduceEq,reduceToNat,Nat.reduceBEq,nat1,hir,hi0,hg0])
    all_goals first | omega | rfl | skip
  have hH : headB t = true:=by rw [hhd,decide_eq_true c2,decide_eq_true c1,decide_eq_true c3,decide_eq_true (by omega)];rfl
  have hnm:=l21Names_m t hT 1 (t.length - 2) (by omega) (by omega)
  rw [show t.length - 2 + 1 - 1 = t.length - 2 by omega,show ((1 : Nat) : Int) = 1 from rfl,show ((t.length - 2 : Nat) : Int) = (t.length : Int) - 1 - 1 by omega] at hnm
  have hnv : sortS (nmT t 1 (t.length - 2)) = nmV t:=rfl
  rw [hnv] at hnm
  have hf1 : fofT t = if ¬ (nmV t).length≤5 then (noF,false)
      else if (rtM t (nmV t) t.length (t.length - 2)).2 = false then (noF,false)
      else if fmlB (frm (t.getD 0 default).text (nmV t) (rtM t (nmV t) t.length (t.length - 2)).1) = false then (noF,false)
      else (frm (t.getD 0 default).text (nmV t) (rtM t (nmV t) t.length (t.length - 2)).1,true):=by unfold fofT;rw [if_neg (by rw [hH];decide)]
  have hI:=inV_all hT r1 (by omega)
  have hsz:=nmV_size hT
  have hl3:=nmT_len t 1 (t.length - 2)
  have hl4:=sortS_len (nmT t 1 (t.length - 2))
  rw [hnv] at hl4
  clear hhd hnv
  by_cases c5 : (nmV t).length≤5
  rotate_left
  · rw [hf1,if_pos c5,noF_enc]
    clear hf1 hI hsz
    generalize ([((startT t (t.length - 2) - 1 : Nat) : Int),((t.length - 2 : Nat) : Int)] : List Int) = K at *
    generalize nmV t = V at *
    generalize t.getD (t.length - 1) default = xr at *
    obtain ⟨kd,nm,tx,lbs,kc⟩:=xr
    generalize t.getD 0 default = x0 at *
    obtain ⟨kd0,nm0,tx0,lbs0,kc0⟩:=x0
    simp only at c1 c2 c3
    subst c1 c2 c3
    refine meets_upf Try.func19 u_spec_FormulaOf_g rfl ?_;simp only [u_spec_FormulaOf_u]
    simp only [encNods,encNod,encSs,encZs] at h1 hir hi0 hkk hnm ⊢
    repeat' (first | (with_reducible first | refine jn_in ?_ | refine cl_ok (by assumption) rfl ?_ | refine cl_okP (by assumption) rfl ?_ | refine br_x (fun hbr=>?_) fun hbr=>?_) | simp (disch:=first | omega | (simp only [lnA];omega) | simp only [lnB,Nat.reduceAdd]) only [go_sem,↓reduceIte,Nat.reduceAdd,reduceNeg,Int.reduceAdd,reduceSub,reduceMul,reduceLT,reduceLE,reduceEq,reduceToNat,Nat.reduceBEq,nat1,hir,hi0,hg0])
    all_goals first | omega | rfl | skip
  obtain ⟨L,⟨g,s⟩,hst⟩:=specStart21_m hT c5 (n:=t.length) (i:=t.length - 2) (by omega) (by omega) hI
  have hbits:=rtM_bits (n:=t.length) hT (by omega) hI
  rw [show ((t.length - 2 : Nat) : Int) = (t.length : Int) - 1 - 1 by omega] at hst
  by_cases c6 : (rtM t (nmV t) t.length (t.length - 2)).2 = false
  · rw [hf1,if_neg (by omega),if_pos c6,noF_enc]
    rw [c6] at hst
    clear hf1 hI hsz hbits s
    generalize ([((startT t (t.length - 2) - 1 : Nat) : Int),((t.length - 2 : Nat) : Int)] : List Int) = K at *
    generalize nmV t = V at *
    generalize t.getD (t.length - 1) default = xr at *
    obtain ⟨kd,nm,tx,lbs,kc⟩:=xr
    generalize t.getD 0 default = x0 at *
    obtain ⟨kd0,nm0,tx0,lbs0,kc0⟩:=x0
    simp only at c1 c2 c3
    subst c1 c2 c3
    refine meets_upf Try.func19 u_spec_FormulaOf_g rfl ?_;simp only [u_spec_FormulaOf_u]
    simp only [encNods,encNod,encSs,encZs] at h1 hir hi0 hkk hnm hst ⊢
    repeat' (first | (with_reducible first | refine jn_in ?_ | refine cl_ok (by assumption) rfl ?_ | refine cl_okP (by assumption) rfl ?_ | refine br_x (fun hbr=>?_) fun hbr=>?_) | simp (disch:=first | omega | (simp only [lnA];omega) | simp only [lnB,Nat.reduceAdd]) only [go_sem,↓reduceIte,Nat.reduceAdd,reduceNeg,Int.reduceAdd,reduceSub,reduceMul,reduceLT,reduceLE,reduceEq,reduceToNat,Nat.reduceBEq,nat1,hir,hi0,hg0])
    all_goals first | omega | rfl | skip
  have c6' : (rtM t (nmV t) t.length (t.length - 2)).2 = true:=by simpa using c6
  rw [hf1,if_neg (by omega),if_neg c6]
  rw [c6'] at hst
  have hx0:=ht.2 _ (getD_mem (l:=t) (i:=0) (by omega))
  have hfs:=frm_spec (r:=(t.getD 0 default).text) c5 g (s c6') hbits
  have hfo:=frm_ok (r:=(t.getD 0 default).text) (m:=(rtM t (nmV t) t.length (t.length - 2)).1) hx0.1 c5 hsz
  rw [hfs] at hfo ⊢
  have hF:=specFml_m _ hfo
  have hgl:=good_len g
  have hw0:=l21Without_m 3 L 0 (by omega)
  have hwl:=withoutZ_len L 0
  have htd:=specTidy_m (nmV t) (withoutZ L 0) c5 (by omega) (fun i hi=>good_at (good_without g) hi)
  have hwg:=good_le (good_without (x:=0) g)
  have hif : ∀ F : Fml,((if fmlB F = false then (noF,false) else (F,true)).1 = if fmlB F = false then noF else F)∧((if fmlB F = false then (noF,false) else (F,true)).2 = fmlB F):=fun F=>by cases fmlB F <;> simp
  rw [(hif _).1,(hif _).2]
  clear hif hfs hf1 hI hsz hbits s hH hl3 hl4
  have hzf : (decide (0 < L.length) && decide (L.getD 0 default = 0)) = (decide (0 < (L.length : Int)) && decide (L.getD 0 default = 0)):=by congr 1;simp
  rw [hzf] at hfo hF ⊢
  generalize hbz : (decide (0 < (L.length : Int)) && decide (L.getD 0 default = 0)) = bz at *
  generalize ([((startT t (t.length - 2) - 1 : Nat) : Int),((t.length - 2 : Nat) : Int)] : List Int) = K at *
  generalize withoutZ L 0 = W at *
  generalize hVV : varsU (orT W) (nmV t) (nmV t).length = VV at *
  generalize hTT : W.map (cmpZ (orT W) (nmV t).length) = TT at *
  generalize nmV t = V at *
  generalize t.getD (t.length - 1) default = xr at *
  obtain ⟨kd,nm,tx,lbs,kc⟩:=xr
  generalize t.getD 0 default = x0 at *
  obtain ⟨kd0,nm0,tx0,lbs0,kc0⟩:=x0
  simp only at c1 c2 c3
  subst c1 c2 c3
  generalize hfb : fmlB _ = fb at *
  refine meets_upf Try.func19 u_spec_FormulaOf_g rfl ?_;simp only [u_spec_FormulaOf_u]
  simp only [encNods,encNod,encSs,encZs,encFml] at h1 hir hi0 hkk hnm hst hw0 htd hF ⊢
  by_cases hL0 : 0 < (L.length : Int)
  · rw [decide_eq_true hL0,Bool.true_and] at hbz
    cases fb
    · repeat' (first | (with_reducible first | refine jn_in ?_ | refine cl_ok (by assumption) rfl ?_ | refine cl_okP (by assumption) rfl ?_ | refine br_x (fun hbr=>?_) fun hbr=>?_) | simp (disch:=first | omega | (simp only [lnA];omega) | simp only [lnB,Nat.reduceAdd]) only [go_sem,↓reduceIte,Nat.reduceAdd,reduceNeg,Int.reduceAdd,reduceSub,reduceMul,reduceLT,reduceLE,reduceEq,reduceToNat,Nat.reduceBEq,nat1,hir,hi0,hg0,hbz])
      all_goals first | omega | rfl | skip
    · repeat' (first | (with_reducible first | refine jn_in ?_ | refine cl_ok (by assumption) rfl ?_ | refine cl_okP (by assumption) rfl ?_ | refine br_x (fun hbr=>?_) fun hbr=>?_) | simp (disch:=first | omega | (simp only [lnA];omega) | simp only [lnB,Nat.reduceAdd]) only [go_sem,↓reduceIte,Nat.reduceAdd,reduceNeg,Int.reduceAdd,reduceSub,reduceMul,reduceLT,reduceLE,reduceEq,reduceToNat,Nat.reduceBEq,nat1,hir,hi0,hg0,hbz])
      all_goals first | omega | rfl | skip
  · rw [decide_eq_false hL0,Bool.false_and] at hbz
    subst hbz
    cases fb
    · repeat' (first | (with_reducible first | refine jn_in ?_ | refine cl_ok (by assumption) rfl ?_ | refine cl_okP (by assumption) rfl ?_ | refine br_x (fun hbr=>?_) fun hbr=>?_) | simp (disch:=first | omega | (simp only [lnA];omega) | simp only [lnB,Nat.reduceAdd]) only [go_sem,↓reduceIte,Nat.reduceAdd,reduceNeg,Int.reduceAdd,reduceSub,reduceMul,reduceLT,reduceLE,reduceEq,reduceToNat,Nat.reduceBEq,nat1,hir,hi0,hg0])
      all_goals first | omega | rfl | skip
    · repeat' (first | (with_reducible first | refine jn_in ?_ | refine cl_ok (by assumption) rfl ?_ | refine cl_okP (by assumption) rfl ?_ | refine br_x (fun hbr=>?_) fun hbr=>?_) | simp (disch:=first | omega | (simp only [lnA];omega) | simp only [lnB,Nat.reduceAdd]) only [go_sem,↓reduceIte,Nat.reduceAdd,reduceNeg,Int.reduceAdd,reduceSub,reduceMul,reduceLT,reduceLE,reduceEq,reduceToNat,Nat.reduceBEq,nat1,hir,hi0,hg0])
      all_goals first | omega | rfl | skip
theorem bitsL_t {m x : Nat} (h0 : 1≤x) (h : m.testBit x = true) : bitsL m (x + 1) = bitsL m x ++ [(x : Int)]:=by rw [bitsL,if_pos ⟨h0,h⟩]
theorem bitsL_f {m x : Nat} (h : m.testBit x = false) : bitsL m (x + 1) = bitsL m x:=by rw [bitsL,if_neg (by rw [h];simp)]
set_option maxHeartbeats 8000000 in
theorem implFof_m (t : List Nod) (ht : BdN t) : Meets Try.prog 21 [(false,[encNods t])] [(true,encFml (fofT t).1,true),(false,[.sc (.bool (fofT t).2)],true)]:=by
  have h1:=implTree_m t ht.1 ht.2
  cases hT : treeB t
  · rw [fof_no (by unfold headB;rw [hT];rfl),noF_enc]
    rw [hT] at h1
    refine meets_upf Try.func21 u_impl_FormulaOf_g rfl ?_;simp only [u_impl_FormulaOf_u]
    simp only [encNods] at h1 ⊢
    repeat' (first | (with_reducible first | refine jn_in ?_ | refine cl_ok (by assumption) rfl ?_ | refine cl_okP (by assumption) rfl ?_ | refine br_x (fun hbr=>?_) fun hbr=>?_) | simp (disch:=first | omega | (simp only [lnA];omega) | simp only [lnB,Nat.reduceAdd]) only [go_sem,↓reduceIte,Nat.reduceAdd,reduceNeg,Int.reduceAdd,reduceSub,reduceMul,reduceLT,reduceLE,reduceEq,reduceToNat,Nat.reduceBEq,nat1,true_and])
    all_goals first | omega | rfl | skip
  rw [hT] at h1
  have htl:=tree_len hT
  have hir : eIdx 5 (some (.sl 73 5 (t.map encNod))) (some (.sc (.int .i64 ((t.length : Int) - 1)))) = some (encNod (t.getD (t.length - 1) default)):=by rw [ix_Nod (by omega) (by omega)];congr 3;omega
  have hhd : headB t = (decide ((t.getD (t.length - 1) default).kind = 11) && (decide ((t.getD (t.length - 1) default).text = ⟨#[126]⟩) && (decide ((t.getD 0 default).kind = 7) && decide ((kidsT t (t.length - 1)).getD 0 default = 0)))):=by unfold headB;rw [hT];rfl
  by_cases c1 : (t.getD (t.length - 1) default).kind = 11
  rotate_left
  · rw [fof_no (by rw [hhd,decide_eq_false c1];rfl),noF_enc]
    clear hhd
    generalize t.getD (t.length - 1) default = xr at *
    obtain ⟨kd,nm,tx,lbs,kc⟩:=xr
    simp only at c1
    refine meets_upf Try.func21 u_impl_FormulaOf_g rfl ?_;simp only [u_impl_FormulaOf_u]
    simp only [encNods,encNod,encSs] at h1 hir ⊢
    repeat' (first | (with_reducible first | refine jn_in ?_ | refine cl_ok (by assumption) rfl ?_ | refine cl_okP (by assumption) rfl ?_ | refine br_x (fun hbr=>?_) fun hbr=>?_) | simp (disch:=first | omega | (simp only [lnA];omega) | simp only [lnB,Nat.reduceAdd]) only [go_sem,↓reduceIte,Nat.reduceAdd,reduceNeg,Int.reduceAdd,reduceSub,reduceMul,reduceLT,reduceLE,reduceEq,reduceToNat,Nat.reduceBEq,nat1,hir,c1,decide_false])
    all_goals first | omega | rfl | skip
  by_cases c2 : (t.getD (t.length - 1) default).text = ⟨#[126]⟩
  rotate_left
  · rw [fof_no (by rw [hhd,decide_eq_false c2,decide_eq_true c1];rfl),noF_enc]
    clear hhd
    generalize t.getD (t.length - 1) default = xr at *
    obtain ⟨kd,nm,tx,lbs,kc⟩:=xr
    simp only at c1 c2
    subst c1
    refine meets_upf Try.func21 u_impl_FormulaOf_g rfl ?_;simp only [u_impl_FormulaOf_u]
    simp only [encNods,encNod,encSs] at h1 hir ⊢
    repeat' (first | (with_reducible first | refine jn_in ?_ | refine cl_ok (by assumption) rfl ?_ | refine cl_okP (by assumption) rfl ?_ | refine br_x (fun hbr=>?_) fun hbr=>?_) | simp (disch:=first | omega | (simp only [lnA];omega) | simp only [lnB,Nat.reduceAdd]) only [go_sem,↓reduceIte,Nat.reduceAdd,reduceNeg,Int.reduceAdd,reduceSub,reduceMul,reduceLT,reduceLE,reduceEq,reduceToNat,Nat.reduceBEq,nat1,hir,c2,decide_false])
    all_goals first | omega | rfl | skip
  obtain ⟨r1,r2,r3,r4⟩:=root_kids hT c1
  have hfn:=first_name hT c1
  have hkk:=implKidsT_m t hT (t.length - 1) (by omega)
  have e0 : (((t.length - 1 : Nat)) : Int) = (t.length : Int) - 1:=by omega
  rw [e0] at hkk
  rw [r2] at hhd hkk
  have hg0 : ([((startT t (t.length - 2) - 1 : Nat) : Int),((t.length - 2 : Nat) : Int)] : List Int).getD 0 default = ((startT t (t.length - 2) - 1 : Nat) : Int):=rfl
  have hg1 : ([((startT t (t.length - 2) - 1 : Nat) : Int),((t.length - 2 : Nat) : Int)] : List Int).getD 1 default = ((t.length - 2 : Nat) : Int):=rfl
  have hkl : ([((startT t (t.length - 2) - 1 : Nat) : Int),((t.length - 2 : Nat) : Int)] : List Int).length = 2:=rfl
  rw [hg0] at hhd
  have hsl:=startT_le t (t.length - 2)
  have hi0 : eIdx 5 (some (.sl 73 5 (t.map encNod))) (some (.sc (.int .i64 ((startT t (t.length - 2) - 1 : Nat) : Int)))) = some (encNod (t.getD (startT t (t.length - 2) - 1) default)):=by rw [ix_Nod (by omega) (by omega)];rfl
  by_cases c3 : (t.getD (startT t (t.length - 2) - 1) default).kind = 7
  rotate_left
  · have hno : headB t = false:=by
      rw [hhd,decide_eq_true c2,decide_eq_true c1]
      simp only [Bool.true_and,Bool.and_eq_false_iff,decide_eq_false_iff_not]
      by_cases h7 : (t.getD 0 default).kind = 7
      · right;intro h8;exact c3 (hfn.2 ⟨h7,by omega⟩)
      · exact .inl h7
    rw [fof_no hno,noF_enc]
    clear hhd hfn
    generalize ([((startT t (t.length - 2) - 1 : Nat) : Int),((t.length - 2 : Nat) : Int)] : List Int) = K at *
    generalize t.getD (t.length - 1) default = xr at *
    obtain ⟨kd,nm,tx,lbs,kc⟩:=xr
    generalize t.getD (startT t (t.length - 2) - 1) default = x0 at *
    obtain ⟨kd0,nm0,tx0,lbs0,kc0⟩:=x0
    simp only at c1 c2 c3
    subst c1 c2
    refine meets_upf Try.func21 u_impl_FormulaOf_g rfl ?_;simp only [u_impl_FormulaOf_u]
    simp only [encNods,encNod,encSs,encZs] at h1 hir hi0 hkk ⊢
    repeat' (first | (with_reducible first | refine jn_in ?_ | refine cl_ok (by assumption) rfl ?_ | refine cl_okP (by assumption) rfl ?_ | refine br_x (fun hbr=>?_) fun hbr=>?_) | simp (disch:=first | omega | (simp only [lnA];omega) | simp only [lnB,Nat.reduceAdd]) only [go_sem,↓reduceIte,Nat.reduceAdd,reduceNeg,Int.reduceAdd,reduceSub,reduceMul,reduceLT,reduceLE,reduceEq,reduceToNat,Nat.reduceBEq,nat1,hir,hg0,hi0,c3,decide_false])
    all_goals first | omega | rfl | skip
  obtain ⟨c3',c4⟩:=hfn.1 c3
  have hH : headB t = true:=by rw [hhd,decide_eq_true c2,decide_eq_true c1,decide_eq_true c3',decide_eq_true (by omega)];rfl
  have hs1 : startT t (t.length - 2) = 1:=by omega
  have hsub:=implSub_m t hT (t.length - 2) (by omega)
  have hW : subT t (t.length - 2) = (t.drop 1).take (t.length - 2):=by unfold subT;rw [hs1];rfl
  have hWl : (subT t (t.length - 2)).length = t.length - 2:=by rw [hW];simp;omega
  have hWt : ∀ i,i≤t.length - 2→((subT t (t.length - 2)).take i).foldl nmN [] = nmT t 1 i:=fun i hi=>by
    rw [hW,List.take_take,Nat.min_eq_left hi];rfl
  have hWg : ∀ i,i < t.length - 2→(subT t (t.length - 2)).getD i default = t.getD (1 + i) default:=fun i hi=>by
    rw [hW,List.getD_eq_getElem?_getD,List.getElem?_take,if_pos hi,List.getElem?_drop,List.getD_eq_getElem?_getD]
  have hg0:=hg0.trans (show ((startT t (t.length - 2) - 1 : Nat) : Int) = 0 by rw [c4];rfl)
  rw [c4] at hi0
  have hc4 : ((0 : Nat) : Int) = 0:=rfl
  rw [hc4] at hi0
  have hnl:=nmT_len t 1 (t.length - 2)
  have hI:=inV_all hT r1 hs1
  have hsz:=nmV_size hT
  have hx0:=ht.2 _ (getD_mem (l:=t) (i:=0) (by omega))
  have hf1 : fofT t = if ¬ (nmV t).length≤5 then (noF,false)
      else if (rtM t (nmV t) t.length (t.length - 2)).2 = false then (noF,false)
      else if fmlB (frm (t.getD 0 default).text (nmV t) (rtM t (nmV t) t.length (t.length - 2)).1) = false then (noF,false)
      else (frm (t.getD 0 default).text (nmV t) (rtM t (nmV t) t.length (t.length - 2)).1,true):=by unfold fofT;rw [if_neg (by rw [hH];decide)]
  have hvl : (nmV t).length = (nmT t 1 (t.length - 2)).length:=sortS_len _
  have hstep:=fun i (hi : 1 + i < t.length)=>nmT_step (t:=t) (a:=1) (n:=i) hi
  have hlen:=fun i=>nmT_len t 1 i
  have hput:=fun i (s : ByteArray)=>implPut_m (nmT t 1 i) s
  have hnv : sortS (nmT t 1 (t.length - 2)) = nmV t:=rfl
  have hsort:=fun h=>sortTexts_m (nmT t 1 (t.length - 2)) h
  rw [hnv] at hsort
  have hwn : ∀ i,i < t.length - 2→eIdx 5 (some (.sl 73 5 ((subT t (t.length - 2)).map encNod))) (some (.sc (.int .i64 (i : Nat)))) = some (encNod (t.getD (1 + i) default)):=fun i hi=>by
    rw [ix_Nod (by omega) (by rw [hWl];omega),Int.toNat_natCast,hWg i hi]
  have hrt:=fun h5=>implRight_m (V:=nmV t) hT h5 (n:=t.length) (i:=t.length - 2) (by omega) (by omega) hI
  have hml:=fun h5=>rtM_lt (V:=nmV t) hT h5 (n:=t.length) (i:=t.length - 2) (by omega) hI
  have hfo:=fun h5=>frm_ok (r:=(t.getD 0 default).text) (m:=(rtM t (nmV t) t.length (t.length - 2)).1) hx0.1 h5 hsz
  have hfm : ∀ m,frm (t.getD 0 default).text (nmV t) m = ⟨(t.getD 0 default).text,m.testBit 0,varsU (orT (bitsL m 32)) (nmV t) (nmV t).length,insT ((bitsL m 32).map (cmpZ (orT (bitsL m 32)) (nmV t).length))⟩:=fun m=>rfl
  have hnum:=fun m h5=>implNum_m (t.getD 0 default).text (m.testBit 0) (nmV t) (bitsL m 32) h5
  rw [hf1]
  clear hf1 hhd hfn hWg hW hI hH hnv hs1
  generalize ([((startT t (t.length - 2) - 1 : Nat) : Int),((t.length - 2 : Nat) : Int)] : List Int) = K at *
  generalize subT t (t.length - 2) = W at *
  generalize nmV t = V at *
  generalize hR : rtM t V t.length (t.length - 2) = R at *
  obtain ⟨m,ro⟩:=R
  generalize t.getD (t.length - 1) default = xr at *
  obtain ⟨kd,nm,tx,lbs,kc⟩:=xr
  generalize t.getD 0 default = x0 at *
  obtain ⟨kd0,nm0,tx0,lbs0,kc0⟩:=x0
  simp only at c1 c2 c3' hrt hml hfo hfm hnum ⊢
  subst c1 c2 c3'
  refine meets_upf Try.func21 u_impl_FormulaOf_g rfl ?_;simp only [u_impl_FormulaOf_u]
  simp only [encNods,encNod,encSs,encZs] at h1 hir hi0 hkk hsub hwn hput hrt hsort ⊢
  repeat' (first | (with_reducible first | refine jn_in ?_ | refine cl_ok (by assumption) rfl ?_ | refine cl_okP (by assumption) rfl ?_ | refine br_x (fun hbr=>?_) fun hbr=>?_) | simp (disch:=first | omega | (simp only [lnA];omega) | simp only [lnB,Nat.reduceAdd]) only [go_sem,↓reduceIte,Nat.reduceAdd,reduceNeg,Int.reduceAdd,reduceSub,reduceMul,reduceLT,reduceLE,reduceEq,reduceToNat,Nat.reduceBEq,nat1,hir,hg0,hg1,hi0])
  all_goals first | omega | skip
  refine lp_n (t.length - 2) (fun i=>[.sc (.int .i64 i),.sl 9 1 ((nmT t 1 i).map encS)]) rfl fun i hi=>?_
  simp only [u_impl_FormulaOf_l3]
  by_cases hlt : i < t.length - 2
  · have hs:=hstep i (by omega)
    have hp:=hput i (t.getD (1 + i) default).text (by have:=hlen i;omega)
    have hw:=hwn i hlt
    rw [hs]
    generalize t.getD (1 + i) default = x at *
    obtain ⟨kx,nx,sx,lx,cx⟩:=x
    simp only at hp hw
    by_cases hk : kx = 7
    · subst hk
      have hn : nmN (nmT t 1 i) ⟨7,nx,sx,lx,cx⟩ = putB (nmT t 1 i) sx:=by unfold nmN;rw [if_pos rfl]
      rw [hn]
      repeat' (first | (with_reducible first | refine jn_in ?_ | refine cl_ok (by assumption) rfl ?_ | refine cl_okP (by assumption) rfl ?_ | refine br_x (fun hbr=>?_) fun hbr=>?_) | simp (disch:=first | omega | (simp only [lnA];omega) | simp only [lnB,Nat.reduceAdd]) only [go_sem,↓reduceIte,Nat.reduceAdd,reduceNeg,Int.reduceAdd,reduceSub,reduceMul,reduceLT,reduceLE,reduceEq,reduceToNat,Nat.reduceBEq,nat1,hw,hWl,u_impl_FormulaOf_j0])
      all_goals first | omega | exact ⟨rfl,hlt⟩ | skip
    · have hn : nmN (nmT t 1 i) ⟨kx,nx,sx,lx,cx⟩ = nmT t 1 i:=by unfold nmN;rw [if_neg hk]
      rw [hn]
      repeat' (first | (with_reducible first | refine jn_in ?_ | refine cl_ok (by assumption) rfl ?_ | refine cl_okP (by assumption) rfl ?_ | refine br_x (fun hbr=>?_) fun hbr=>?_) | simp (disch:=first | omega | (simp only [lnA];omega) | simp only [lnB,Nat.reduceAdd]) only [go_sem,↓reduceIte,Nat.reduceAdd,reduceNeg,Int.reduceAdd,reduceSub,reduceMul,reduceLT,reduceLE,reduceEq,reduceToNat,Nat.reduceBEq,nat1,hw,hWl,hk,decide_false,u_impl_FormulaOf_j0])
      all_goals first | omega | exact ⟨rfl,hlt⟩ | skip
  obtain rfl : i = t.length - 2:=by omega
  have hnl5:=hlen (t.length - 2)
  have hsrt:=hsort (by omega)
  by_cases c5 : V.length≤5
  rotate_left
  · rw [if_pos c5,noF_enc]
    repeat' (first | (with_reducible first | refine jn_in ?_ | refine cl_ok (by assumption) rfl ?_ | refine cl_okP (by assumption) rfl ?_ | refine br_x (fun hbr=>?_) fun hbr=>?_) | simp (disch:=first | omega | (simp only [lnA];omega) | simp only [lnB,Nat.reduceAdd]) only [go_sem,↓reduceIte,Nat.reduceAdd,reduceNeg,Int.reduceAdd,reduceSub,reduceMul,reduceLT,reduceLE,reduceEq,reduceToNat,Nat.reduceBEq,nat1,hWl])
    all_goals first | omega | rfl | skip
  rw [if_neg (by omega)]
  have hrt:=hrt c5
  cases ro
  · rw [if_pos rfl,noF_enc]
    repeat' (first | (with_reducible first | refine jn_in ?_ | refine cl_ok (by assumption) rfl ?_ | refine cl_okP (by assumption) rfl ?_ | refine br_x (fun hbr=>?_) fun hbr=>?_) | simp (disch:=first | omega | (simp only [lnA];omega) | simp only [lnB,Nat.reduceAdd]) only [go_sem,↓reduceIte,Nat.reduceAdd,reduceNeg,Int.reduceAdd,reduceSub,reduceMul,reduceLT,reduceLE,reduceEq,reduceToNat,Nat.reduceBEq,nat1,hWl,hg1])
    all_goals first | omega | rfl | skip
  rw [if_neg (by simp)]
  have hml:=hml c5
  have hfo:=hfo c5
  have hnum:=hnum m c5 (by have:=bitsL_len m 32;omega) (fun i hi=>by
    obtain ⟨x,h1,h2,h3,-⟩:=bitsL_mem.1 (getD_mem hi)
    rw [h1];exact ⟨by omega,by omega⟩)
  have hF:=implFml_m _ hfo
  have hif : ∀ F : Fml,((if fmlB F = false then (noF,false) else (F,true)).1 = if fmlB F = false then noF else F)∧((if fmlB F = false then (noF,false) else (F,true)).2 = fmlB F):=fun F=>by cases fmlB F <;> simp
  rw [(hif _).1,(hif _).2]
  rw [hfm m] at hF ⊢
  have hhas:=fun x hx=>has_m m x hml hx
  have hh0:=hhas 0 (by omega)
  rw [hc4] at hh0
  have hbl:=fun x=>bitsL_len m x
  have hbt:=fun x=>@bitsL_t m x
  have hbf:=fun x=>@bitsL_f m x
  have hb1 : bitsL m 1 = []:=rfl
  clear hif hfm hfo
  generalize hVV : varsU (orT (bitsL m 32)) V V.length = VV at *
  generalize hTT : insT ((bitsL m 32).map (cmpZ (orT (bitsL m 32)) V.length)) = TT at *
  generalize hb0 : m.testBit 0 = b0 at *
  generalize hfb : fmlB _ = fb at *
  simp only [encSs,encZs,encFml] at hnum hF ⊢
  repeat' (first | (with_reducible first | refine jn_in ?_ | refine cl_ok (by assumption) rfl ?_ | refine cl_okP (by assumption) rfl ?_ | refine br_x (fun hbr=>?_) fun hbr=>?_) | simp (disch:=first | omega | (simp only [lnA];omega) | simp only [lnB,Nat.reduceAdd]) only [go_sem,↓reduceIte,Nat.reduceAdd,reduceNeg,Int.reduceAdd,reduceSub,reduceMul,reduceLT,reduceLE,reduceEq,reduceToNat,Nat.reduceBEq,nat1,hWl,hg1])
  all_goals first | omega | skip
  refine lp (fun x : Nat=>[.sc (.int .i64 x),.sl 3 1 ((bitsL m x).map encZ)]) (fun x=>1≤x∧x≤32) (fun x=>32 - x) 1 rfl ⟨by omega,by omega⟩ ?_
  rintro x ⟨hx1,hx2⟩
  simp only [u_impl_FormulaOf_l2]
  by_cases hxl : x < 32
  · have hh:=hhas x hxl
    have hb:=hbl x
    cases hbit : m.testBit x
    · rw [hbit] at hh
      have:=hbf x hbit
      repeat' (first | (with_reducible first | refine jn_in ?_ | refine cl_ok (by assumption) rfl ?_ | refine cl_okP (by assumption) rfl ?_ | refine br_x (fun hbr=>?_) fun hbr=>?_) | simp (disch:=first | omega | (simp only [lnA];omega) | simp only [lnB,Nat.reduceAdd]) only [go_sem,↓reduceIte,Nat.reduceAdd,reduceNeg,Int.reduceAdd,reduceSub,reduceMul,reduceLT,reduceLE,reduceEq,reduceToNat,Nat.reduceBEq,nat1,u_impl_FormulaOf_j1])
      all_goals first | omega | exact ⟨x + 1,by rw [this],⟨by omega,by omega⟩,by omega⟩ | skip
    · rw [hbit] at hh
      have:=hbt x hx1 hbit
      repeat' (first | (with_reducible first | refine jn_in ?_ | refine cl_ok (by assumption) rfl ?_ | refine cl_okP (by assumption) rfl ?_ | refine br_x (fun hbr=>?_) fun hbr=>?_) | simp (disch:=first | omega | (simp only [lnA];omega) | simp only [lnB,Nat.reduceAdd]) only [go_sem,↓reduceIte,Nat.reduceAdd,reduceNeg,Int.reduceAdd,reduceSub,reduceMul,reduceLT,reduceLE,reduceEq,reduceToNat,Nat.reduceBEq,nat1,u_impl_FormulaOf_j1])
      all_goals first | omega | exact ⟨x + 1,by rw [this],⟨by omega,by omega⟩,by omega⟩ | skip
  obtain rfl : x = 32:=by omega
  clear hhas hbt hbf
  have hb:=hbl 32
  cases fb
  · repeat' (first | (with_reducible first | refine jn_in ?_ | refine cl_ok (by assumption) rfl ?_ | refine cl_okP (by assumption) rfl ?_ | refine br_x (fun hbr=>?_) fun hbr=>?_) | simp (disch:=first | omega | (simp only [lnA];omega) | simp only [lnB,Nat.reduceAdd]) only [go_sem,↓reduceIte,Nat.reduceAdd,reduceNeg,Int.reduceAdd,reduceSub,reduceMul,reduceLT,reduceLE,reduceEq,reduceToNat,Nat.reduceBEq,nat1,hg0,hi0])
    all_goals first | omega | rfl | skip
  · repeat' (first | (with_reducible first | refine jn_in ?_ | refine cl_ok (by assumption) rfl ?_ | refine cl_okP (by assumption) rfl ?_ | refine br_x (fun hbr=>?_) fun hbr=>?_) | simp (disch:=first | omega | (simp only [lnA];omega) | simp only [lnB,Nat.reduceAdd]) only [go_sem,↓reduceIte,Nat.reduceAdd,reduceNeg,Int.reduceAdd,reduceSub,reduceMul,reduceLT,reduceLE,reduceEq,reduceToNat,Nat.reduceBEq,nat1,hg0,hi0])
    all_goals first | omega | rfl | skip
def u_laws_heldFormula_h : List Hint:=[]
def u_laws_heldFormula_d : List (Nat × Nat × Bool × List Nat):=[]
def u_laws_heldFormula_u : UP:=.po (.k (.int .i64 0)) <| .cl 38 [(false,[3]),(false,[1])] [(false,[none],true)] <| .po (.k (.int .i64 0)) <| .po (.bin .lss false 1 0) <| .ite 0 (.po (.k (.int .i64 (-1))) <| .po (.sc 0) <| .ret [(false,[0])]) <| .sel [2,5] <| .cl 39 [(false,[1]),(false,[0])] [(false,[none],true)] <| .po (.k (.int .i64 0)) <| .po (.bin .lss false 1 0) <| .ite 0 (.po (.k (.int .i64 (-1))) <| .po (.sc 0) <| .ret [(false,[0])]) <| .po (.sc 2) <| .ret [(false,[2])]
theorem u_laws_heldFormula_g : toUPf Try.prog 12 Try.f12 owA u_laws_heldFormula_h u_laws_heldFormula_d = some ([(true,4),(false,1)],u_laws_heldFormula_u):=by kernel_rfl
def u_laws_heldIntS_h : List Hint:=[⟨3000002,2,⟨[(5,.p false [.d 4]),(4,.p false [.d 2]),(0,.p false [.d 0]),(1,.p false [.d 5])],[],0,0,6,[]⟩,[]⟩]
def u_laws_heldIntS_d : List (Nat × Nat × Bool × List Nat):=[]
def u_laws_heldIntS_l0 : UP:=.po (.lenL 5) <| .po (.bin .lss false 2 0) <| .ite 0 (.po (.isI 3) <| .po (.idx 1 7 3) <| .po (.bin .neq false 0 3) <| .ite 0 (.po (.k (.int .i64 (-1))) <| .po (.sc 0) <| .ret [(false,[0])]) <| .po (.k (.int .i64 1)) <| .po (.bin .add false 5 0) <| .po (.k (.int .i64 1)) <| .po (.bin .add false 8 0) <| .jump 0 [0,2]) <| .po (.sc 2) <| .ret [(false,[2])]
def u_laws_heldIntS_u : UP:=.po (.k (.int .i64 0)) <| .po (.k (.int .i64 0)) <| .loop [0,2] u_laws_heldIntS_l0
theorem u_laws_heldIntS_g : toUPf Try.prog 39 Try.f39 owA u_laws_heldIntS_h u_laws_heldIntS_d = some ([(false,1),(false,1)],u_laws_heldIntS_u):=by kernel_rfl
def u_laws_heldStringS_h : List Hint:=[⟨3000002,2,⟨[(5,.p false [.d 4]),(4,.p false [.d 2]),(0,.p false [.d 0]),(1,.p false [.d 5])],[],0,0,6,[]⟩,[]⟩]
def u_laws_heldStringS_d : List (Nat × Nat × Bool × List Nat):=[(4,7,false,[])]
def u_laws_heldStringS_l0 : UP:=.po (.lenL 5) <| .po (.bin .lss false 2 0) <| .ite 0 (.po (.isI 3) <| .po (.idx 1 7 3) <| .po (.sc 0) <| .sel [0,3,4] <| .cl 46 [(false,[1])] [(false,[none],true)] <| .po (.bin .neq false 1 0) <| .po (.sc 0) <| .ite 0 (.po (.k (.int .i64 (-1))) <| .po (.sc 0) <| .ret [(false,[0])]) <| .po (.k (.int .i64 1)) <| .po (.bin .add false 4 0) <| .po (.k (.int .i64 1)) <| .po (.bin .add false 7 0) <| .jump 0 [0,2]) <| .po (.sc 2) <| .ret [(false,[2])]
def u_laws_heldStringS_u : UP:=.po (.k (.int .i64 0)) <| .po (.k (.int .i64 0)) <| .loop [0,2] u_laws_heldStringS_l0
theorem u_laws_heldStringS_g : toUPf Try.prog 38 Try.f38 owA u_laws_heldStringS_h u_laws_heldStringS_d = some ([(false,1),(false,1)],u_laws_heldStringS_u):=by kernel_rfl
def u_laws_markText_h : List Hint:=[⟨3000004,2,⟨[(3,.p false [.d 5]),(5,.p false [.d 3]),(2,.p false [.d 1]),(0,.p false [.d 6])],[],0,0,7,[(3,false)]⟩,[]⟩]
def u_laws_markText_d : List (Nat × Nat × Bool × List Nat):=[]
def u_laws_markText_l0 : UP:=.po (.k (.int .i64 0)) <| .po (.bin .gtr false 1 0) <| .ite 0 (.po (.k (.int .i64 10)) <| .po (.bin .rem false 3 0) <| .po (.k (.int .i64 48)) <| .po (.bin .add false 0 1) <| .po (.cvI .u8 0) <| .po (.sc 0) <| .po (.mk 5 1 [[0]]) <| .po (.cvB 0) <| .po (.bin .add false 0 10) <| .po (.k (.int .i64 10)) <| .po (.bin .quo false 11 0) <| .jump 0 [2,0]) <| .po (.k (.string ⟨#[109]⟩)) <| .po (.bin .add false 0 4) <| .po (.sc 0) <| .ret [(false,[0])]
def u_laws_markText_u : UP:=.po (.k (.string ⟨#[]⟩)) <| .po (.k (.int .i64 0)) <| .po (.bin .leq false 2 0) <| .ite 0 (.po (.k (.string ⟨#[109,48]⟩)) <| .po (.sc 0) <| .ret [(false,[0])]) <| .po (.k (.string ⟨#[]⟩)) <| .loop [0,4] u_laws_markText_l0
theorem u_laws_markText_g : toUPf Try.prog 46 Try.f46 owA u_laws_markText_h u_laws_markText_d = some ([(false,1)],u_laws_markText_u):=by kernel_rfl
def markT (k : Nat) : ByteArray:=ofN (109 :: dgs k)
theorem markText_m (k : Nat) (h0 : 0 < k) (h1 : k≤4611686018427387904) : Meets Try.prog 46 [(false,[.sc (.int .i64 k)])] [(false,[.sc (.string (markT k))],true)]:=by
  have hlen:=dgs_len19 (m:=k) (by omega)
  refine meets_upf Try.func46 u_laws_markText_g rfl ?_;simp only [u_laws_markText_u]
  simp (disch:=first | omega | (simp only [lnA];omega) | simp only [lnB,Nat.reduceAdd]) only [go_sem,↓reduceIte,Nat.reduceAdd,reduceNeg,Int.reduceAdd,reduceSub,reduceMul,reduceLT,reduceLE,reduceEq,reduceToNat,Nat.reduceBEq,nat1,true_and]
  refine br_if (fun h=>absurd h (by omega)) (fun h=>?_)
  simp (disch:=first | omega | (simp only [lnA];omega) | simp only [lnB,Nat.reduceAdd]) only [go_sem,↓reduceIte,Nat.reduceAdd,reduceNeg,Int.reduceAdd,reduceSub,reduceMul,reduceLT,reduceLE,reduceEq,reduceToNat,Nat.reduceBEq,nat1,true_and]
  refine lp (fun s : Nat × List Nat=>[.sc (.string (ofN s.2)),.sc (.int .i64 (s.1 : Nat))]) (fun s=>s.1≤k∧dgs s.1 ++ s.2 = dgs k) (fun s=>s.1) (k,[]) rfl ⟨Nat.le_refl _,by simp⟩ ?_
  rintro ⟨x,acc⟩ ⟨g1,g2⟩
  simp only at g1 g2 ⊢
  simp only [u_laws_markText_l0]
  have hal : acc.length≤19:=by have:=congrArg List.length g2;rw [List.length_append] at this;omega
  by_cases hx : x = 0
  · subst hx
    rw [dgs_zero,List.nil_append] at g2
    have e1 : (⟨#[109]⟩ : ByteArray).size + (ofN acc).size≤maxLen:=by
      have e : (⟨#[109]⟩ : ByteArray).size = 1:=rfl
      rw [ofN_size];unfold maxLen;omega
    repeat' (first | (with_reducible first | refine jn_in ?_ | refine cl_ok (by assumption) rfl ?_ | refine cl_okP (by assumption) rfl ?_ | refine br_x (fun hbr=>?_) fun hbr=>?_) | simp (disch:=first | omega | (simp only [lnA];omega) | simp only [lnB,Nat.reduceAdd]) only [go_sem,↓reduceIte,Nat.reduceAdd,reduceNeg,Int.reduceAdd,reduceSub,reduceMul,reduceLT,reduceLE,reduceEq,reduceToNat,Nat.reduceBEq,nat1,e_cat e1])
    refine ret_s ?_
    unfold markT;rw [g2];exact ofN_app [109] _
  · have hd:=dgs_pos hx
    have d1 : (x : Int).tmod 10 = ((x % 10 : Nat) : Int):=rfl
    have d2 : (x : Int).tdiv 10 = ((x / 10 : Nat) : Int):=rfl
    have d3 : (48 : Int) + ((x % 10 : Nat) : Int) = ((48 + x % 10 : Nat) : Int):=rfl
    have d4 : IntKind.u8.wrap ((48 + x % 10 : Nat) : Int) = ((48 + x % 10 : Nat) : Int):=wrap8 (by omega) (by omega)
    have d5 : eCvB (some (.sl 5 1 [[.sc (.int .u8 ((48 + x % 10 : Nat) : Int))]])) = some [.sc (.string (ofN [48 + x % 10]))]:=cvB_u (l:=[48 + x % 10])
    have e1 : (ofN [48 + x % 10]).size + (ofN acc).size≤maxLen:=by rw [ofN_size,ofN_size];unfold maxLen;simp;omega
    have happ : ofN [48 + x % 10] ++ ofN acc = ofN ((48 + x % 10) :: acc):=(ofN_app [48 + x % 10] acc).symm
    repeat' (first | (with_reducible first | refine jn_in ?_ | refine cl_ok (by assumption) rfl ?_ | refine cl_okP (by assumption) rfl ?_ | refine br_x (fun hbr=>?_) fun hbr=>?_) | simp (disch:=first | omega | (simp only [lnA];omega) | simp only [lnB,Nat.reduceAdd]) only [go_sem,↓reduceIte,Nat.reduceAdd,reduceNeg,Int.reduceAdd,reduceSub,reduceMul,reduceLT,reduceLE,reduceEq,reduceToNat,Nat.reduceBEq,nat1,d1,d2,d3,d4,d5,e_cat e1,happ])
    all_goals first | omega | exact ⟨(x / 10,(48 + x % 10) :: acc),rfl,⟨by simp only;omega,by rw [← g2,hd];simp⟩,by simp only;omega⟩
theorem argR_i {w : World} {B : Nat→Prop} {k : Int} : ArgR w B (.int .i64 k) (false,[.sc (.int .i64 k)]):=.sc trivial .nil
theorem markText_x (x : Int) (K : Nat) (w : World) (hx : x = K) (h0 : 0 < K) (h1 : K≤4611686018427387904) :
    Calls Try.prog 46 #[.int .i64 x] w fun e w'=>e = .returned (.string (markT K))∧Below w.heap.size w w':=by
  subst hx
  exact run_law (markText_m K h0 h1) (ArgsR.cons argR_i ArgsR.nil)
theorem own_flat_nil {w : World} {base : Nat} {vals : List Value} {ds : List DV} {g : List Nat} (h : OwnL w base vals ds g) (hf : Flat ds) : g = []:=by
  induction h with
  | nil=>rfl
  | sc _ _ ih=>exact ih (fun d hd=>hf d (List.mem_cons_of_mem _ hd))
  | sl=>obtain ⟨v,hv⟩:=hf _ (List.mem_cons_self ..);cases hv
theorem wrote_grown {w w' : World} {v : Value} (h : w.grownBy w' v.ownBlock) : Wrote w w' ([v.ownBlock.toList] : List (List Nat)).flatten :=
  ⟨h.os,h.tape,h.output,h.size,fun b hb hn=>h.block b hb (fun e=>hn (by simp [← e]))⟩
def cellsZ (l : List Int) : List Value:=l.map (Value.int .i64)
def cellsS (l : List ByteArray) : List Value:=l.map Value.string
def marksZ (k n : Nat) : List Int:=(List.range n).map fun i=>((k + i : Nat) : Int)
def marksS (k n : Nat) : List ByteArray:=(List.range n).map fun i=>markT (k + i)
theorem marksZ_len (k n : Nat) : (marksZ k n).length = n:=by simp [marksZ]
theorem marksS_len (k n : Nat) : (marksS k n).length = n:=by simp [marksS]
theorem marks_step {α β : Type} (f : α→β) (g : Nat→α) (l : List α) (k : Nat) (h : k < l.length) : (((List.range k).map g ++ l.drop k).map f).set k (f (g k)) = ((List.range (k + 1)).map g ++ l.drop (k + 1)).map f:=by
  rw [List.map_append,List.set_append_right _ _ (by simp),List.length_map,List.length_map,List.length_range,Nat.sub_self,List.drop_eq_getElem_cons h,List.map_cons,List.set_cons_zero,List.range_succ]
  simp
def MRel (n : Nat) (w : World) (base : Nat) (t : TypeId) (A : Option Addr) (c k0 : Nat) (cells : Nat→List Value) (v1 v5 : Value) (wr : World) : Prop :=
  ∃ k : Nat,k≤n∧v5 = .int .i64 k∧v1 = .int .i64 ((k0 + k : Nat) : Int)∧wr.ownsRow base t 1 (.slice A n c) n (cells k)∧w.grownBy wr (Value.slice A n c).ownBlock
theorem markIntS_any (A : Option Addr) (n c base k0 : Nat) (l : List Int) (w : World) (ha : w.ownsRow base 3 1 (.slice A n c) n (cellsZ l)) (hl : l.length = n) (h0 : 0 < k0) (h1 : k0 + n≤4611686018427387904) :
    Calls Try.prog 37 #[.slice A n c,.int .i64 k0] w fun e w'=>e = .returned (.int .i64 ((k0 + n : Nat) : Int))∧w'.ownsRow base 3 1 (.slice A n c) n (cellsZ (marksZ k0 n))∧w.grownBy w' (Value.slice A n c).ownBlock:=by
  have HL:=Lib.hid hl;clear hl
  go_enter Try.func37,Try.ntmps37
  go_wp2
  go_loopw [1,5] (MRel n w base 3 A c k0 (fun k=>cellsZ (marksZ k0 k ++ l.drop k))) (fun _ i _=>n - (intOf i).toNat)
  case atStart=>exact ⟨0,Nat.zero_le _,rfl,rfl,by simpa [marksZ] using ha,World.grownBy.refl w _⟩
  case round =>
    obtain ⟨k,hk,rfl,rfl,hown,hg⟩:=hrel
    by_cases hlt : k < n
    · obtain ⟨g,cap,hv,-,-⟩:=hown.form (by omega)
      injection hv with e1 e2 e3
      subst e1 e3
      have hown : wr.ownsRow base 3 1 (.slice (some ⟨g,0,none⟩) n c) n (cellsZ (marksZ k0 k ++ l.drop k)):=hown
      have hst:=hown.stored k (.int .i64 ((k0 + k : Nat) : Int))
      have hfl : (cellsZ (marksZ k0 k ++ l.drop k)).length = n:=by have:=HL.out;simp [cellsZ,marksZ_len];omega
      obtain ⟨z0,c0⟩ : ∃ z,wr.cell? ⟨g,k,none⟩ = some z:=⟨_,(hown.cellAt k (by omega)).trans (List.getElem?_eq_getElem (by omega))⟩
      have f0:=hown.frozenAt k
      have HS:=Lib.hid hst
      have HG:=Lib.hid hg
      clear hown hg ha hfl hst
      go_wp2
      refine ⟨⟨k + 1,hlt,rfl,rfl,?_,HG.out.trans HS.out.2⟩,by simp [intOf];omega⟩
      have hsp:=marks_step (Value.int .i64) (fun i=>((k0 + i : Nat) : Int)) l k (by rw [HL.out];omega)
      have:=HS.out.1
      unfold cellsZ marksZ at this
      rw [hsp] at this
      exact this
    · go_wp2
      go_ret
      obtain rfl : k = n:=by omega
      rw [List.drop_of_length_le (by rw [HL.out];omega),List.append_nil] at hown
      exact ⟨ret_i rfl,hown,hg⟩
theorem markStringS_any (A : Option Addr) (n c base k0 : Nat) (l : List ByteArray) (w : World) (ha : w.ownsRow base 9 1 (.slice A n c) n (cellsS l)) (hl : l.length = n) (h0 : 0 < k0) (h1 : k0 + n≤4611686018427387904) :
    Calls Try.prog 36 #[.slice A n c,.int .i64 k0] w fun e w'=>e = .returned (.int .i64 ((k0 + n : Nat) : Int))∧w'.ownsRow base 9 1 (.slice A n c) n (cellsS (marksS k0 n))∧w.grownBy w' (Value.slice A n c).ownBlock:=by
  have HL:=Lib.hid hl;clear hl
  go_enter Try.func36,Try.ntmps36
  go_wp2
  go_loopw [1,5] (MRel n w base 9 A c k0 (fun k=>cellsS (marksS k0 k ++ l.drop k))) (fun _ i _=>n - (intOf i).toNat)
  case atStart=>exact ⟨0,Nat.zero_le _,rfl,rfl,by simpa [marksS] using ha,World.grownBy.refl w _⟩
  case round =>
    obtain ⟨k,hk,rfl,rfl,hown,hg⟩:=hrel
    by_cases hlt : k < n
    · obtain ⟨g,cap,hv,-,-⟩:=hown.form (by omega)
      injection hv with e1 e2 e3
      subst e1 e3
      have hown : wr.ownsRow base 9 1 (.slice (some ⟨g,0,none⟩) n c) n (cellsS (marksS k0 k ++ l.drop k)):=hown
      have hgl:=(own_blk hown rfl).2
      have HO:=Lib.hid hown
      have HG:=Lib.hid hg
      clear hown hg ha
      go_wp2_with fail
      refine (markText_x _ (k0 + k) _ (by omega) (by omega) (by omega)).mono ?_
      rintro e w2 ⟨rfl,hb⟩
      have hown2:=own_below HO.out hb (Nat.le_refl _)
      have hst:=hown2.stored k (.string (markT (k0 + k)))
      have hfl : (cellsS (marksS k0 k ++ l.drop k)).length = n:=by have:=HL.out;simp [cellsS,marksS_len];omega
      obtain ⟨z0,c0⟩ : ∃ z,w2.cell? ⟨g,k,none⟩ = some z:=⟨_,(hown2.cellAt k (by omega)).trans (List.getElem?_eq_getElem (by omega))⟩
      have f0:=hown2.frozenAt k
      have hgb : wr.grownBy w2 (some g):=⟨hb.os,hb.tape,hb.output,hb.size,fun i hi _=>hb.block i hi⟩
      have HS:=Lib.hid hst
      have HB:=Lib.hid hgb
      clear hown2 hst hb hfl hgb
      go_wp2
      refine ⟨⟨k + 1,hlt,rfl,rfl,?_,(HG.out.trans HB.out).trans HS.out.2⟩,by simp [intOf];omega⟩
      have hsp:=marks_step Value.string (fun i=>markT (k0 + i)) l k (by rw [HL.out];omega)
      have:=HS.out.1
      unfold cellsS marksS at this
      rw [hsp] at this
      exact this
    · go_wp2
      go_ret
      obtain rfl : k = n:=by omega
      have hown : wr.ownsRow base 9 1 (.slice A k c) k (cellsS (marksS k0 k ++ l.drop k)):=hown
      rw [List.drop_of_length_le (by rw [HL.out];omega),List.append_nil] at hown
      exact ⟨ret_i rfl,hown,hg⟩
theorem own_row {w : World} {base t k : Nat} {es : List (List DV)} {cells : List Value} {v : Value} {f : List Nat} (hf : es.flatten = cells.map .sc) (h : OwnL w base [v] [.sl t k es] f) : w.ownsRow base t k v es.length cells∧f = v.ownBlock.toList:=by
  cases h with
  | @sl _ _ _ _ cs g vs ds f' h1 h2 h3 h4 h5 h6 =>
    cases h5
    have hfl : Flat es.flatten:=by rw [hf];intro d hd;obtain ⟨x,_,rfl⟩:=List.mem_map.1 hd;exact ⟨x,rfl⟩
    have hg:=own_flat_nil h4 hfl
    subst hg
    have hc:=h4.rep
    rw [hf] at hc
    have : cs = cells:=by
      have key : ∀ {A : Nat→Prop} {a b : List Value},RepL w A a (b.map .sc)→a = b:=by
        intro A a b
        induction b generalizing a with
        | nil=>intro h;cases h;rfl
        | cons x b ih=>intro h;cases h with | sc _ h2=>rw [ih h2]
      exact key hc
    subst this
    exact ⟨h1,by simp⟩
theorem row_own {w : World} {base t k : Nat} {es : List (List DV)} {cells : List Value} {v : Value} (hf : es.flatten = cells.map .sc) (hs : ∀ u ∈ cells,Sc u) (hk : 0 < k) (he : ∀ e ∈ es,e.length = k) (h : w.ownsRow base t k v es.length cells) : OwnL w base [v] [.sl t k es] v.ownBlock.toList:=by
  have hf2 : OwnL w base cells es.flatten []:=by
    rw [hf]
    clear h hf
    induction cells with
    | nil=>exact .nil
    | cons x b ih=>exact .sc (hs x (List.mem_cons_self ..)) (ih fun v hv=>hs v (List.mem_cons_of_mem _ hv))
  have:=OwnL.sl (t:=t) (k:=k) (es:=es) (vs:=[]) (ds:=[]) (f:=[]) h hk he hf2 .nil (by cases v.ownBlock <;> simp)
  simpa using this
theorem flatZ (l : List Int) : (l.map encZ).flatten = (cellsZ l).map .sc:=by
  induction l with
  | nil=>rfl
  | cons x l ih=>rw [List.map_cons,List.flatten_cons,ih];rfl
theorem flatS (l : List ByteArray) : (l.map encS).flatten = (cellsS l).map .sc:=by
  induction l with
  | nil=>rfl
  | cons x l ih=>rw [List.map_cons,List.flatten_cons,ih];rfl
theorem markIntS_k (l : List Int) (k0 : Nat) (h0 : 0 < k0) (h1 : k0 + l.length≤4611686018427387904) : Marks Try.prog 37 false [encZs l] k0 [encZs (marksZ k0 l.length)] ((k0 + l.length : Nat) : Int):=by
  refine ⟨by kernel_rfl,fun w base v vals fs hv ho hnd=>?_⟩
  have hv : vals = [v]:=hv
  subst hv
  obtain ⟨_,_,f,_,e,rfl,o0,ho⟩:=ownP_cons ho
  injection e with e1 e2
  subst e1 e2
  obtain ⟨-,rfl⟩:=ownP_nil ho
  obtain ⟨h2,rfl⟩:=own_row (flatZ l) o0
  rw [List.length_map] at h2
  obtain ⟨A,c,rfl,-,-⟩:=own_shape h2
  refine (markIntS_any A l.length c base k0 l w h2 rfl h0 h1).mono ?_
  rintro e w' ⟨rfl,h3,h4⟩
  exact ⟨rfl,⟨row_own (flatZ _) (by intro u hu;obtain ⟨x,_,rfl⟩:=List.mem_map.1 hu;trivial) (by decide) (by simp [encZ]) (by rw [List.length_map,marksZ_len];exact h3),trivial⟩,wrote_grown h4⟩
theorem markStringS_k (l : List ByteArray) (k0 : Nat) (h0 : 0 < k0) (h1 : k0 + l.length≤4611686018427387904) : Marks Try.prog 36 false [encSs l] k0 [encSs (marksS k0 l.length)] ((k0 + l.length : Nat) : Int):=by
  refine ⟨by kernel_rfl,fun w base v vals fs hv ho hnd=>?_⟩
  have hv : vals = [v]:=hv
  subst hv
  obtain ⟨_,_,f,_,e,rfl,o0,ho⟩:=ownP_cons ho
  injection e with e1 e2
  subst e1 e2
  obtain ⟨-,rfl⟩:=ownP_nil ho
  obtain ⟨h2,rfl⟩:=own_row (flatS l) o0
  rw [List.length_map] at h2
  obtain ⟨A,c,rfl,-,-⟩:=own_shape h2
  refine (markStringS_any A l.length c base k0 l w h2 rfl h0 h1).mono ?_
  rintro e w' ⟨rfl,h3,h4⟩
  exact ⟨rfl,⟨row_own (flatS _) (by intro u hu;obtain ⟨x,_,rfl⟩:=List.mem_map.1 hu;trivial) (by decide) (by simp [encS]) (by rw [List.length_map,marksS_len];exact h3),trivial⟩,wrote_grown h4⟩
theorem marksZ_get {k n i : Nat} (h : i < n) : (marksZ k n).getD i default = ((k + i : Nat) : Int):=by
  rw [List.getD_eq_getElem?_getD];simp [marksZ,h]
theorem marksS_get {k n i : Nat} (h : i < n) : (marksS k n).getD i default = markT (k + i):=by
  rw [List.getD_eq_getElem?_getD];simp [marksS,h]
theorem heldIntS_m (k0 n : Nat) (h0 : 0 < k0) (h1 : k0 + n≤4611686018427387904) : Meets Try.prog 39 [(false,[encZs (marksZ k0 n)]),(false,[.sc (.int .i64 k0)])] [(false,[.sc (.int .i64 ((k0 + n : Nat) : Int))],true)]:=by
  have hl:=marksZ_len k0 n
  refine meets_upf Try.func39 u_laws_heldIntS_g rfl ?_;simp only [u_laws_heldIntS_u]
  simp only [encZs]
  simp (disch:=first | omega | (simp only [lnA];omega) | simp only [lnB,Nat.reduceAdd]) only [go_sem,↓reduceIte,Nat.reduceAdd,reduceNeg,Int.reduceAdd,reduceSub,reduceMul,reduceLT,reduceLE,reduceEq,reduceToNat,Nat.reduceBEq,nat1,true_and]
  refine lp_n n (fun i=>[.sc (.int .i64 i),.sc (.int .i64 ((k0 + i : Nat) : Int))]) rfl fun i hi=>?_
  simp only [u_laws_heldIntS_l0]
  by_cases hlt : i < n
  · have hg:=marksZ_get (k:=k0) hlt
    have hk : ((k0 + i : Nat) : Int) + 1 = ((k0 + (i + 1) : Nat) : Int):=by omega
    repeat' (first | (with_reducible first | refine jn_in ?_ | refine cl_ok (by assumption) rfl ?_ | refine cl_okP (by assumption) rfl ?_ | refine br_x (fun hbr=>?_) fun hbr=>?_) | simp (disch:=first | omega | (simp only [lnA];omega) | simp only [lnB,Nat.reduceAdd]) only [go_sem,↓reduceIte,Nat.reduceAdd,reduceNeg,Int.reduceAdd,reduceSub,reduceMul,reduceLT,reduceLE,reduceEq,reduceToNat,Nat.reduceBEq,nat1,hl,hg,eq_self,hk])
    all_goals first | omega | exact ⟨rfl,hlt⟩
  · obtain rfl : i = n:=by omega
    repeat' (first | (with_reducible first | refine jn_in ?_ | refine cl_ok (by assumption) rfl ?_ | refine cl_okP (by assumption) rfl ?_ | refine br_x (fun hbr=>?_) fun hbr=>?_) | simp (disch:=first | omega | (simp only [lnA];omega) | simp only [lnB,Nat.reduceAdd]) only [go_sem,↓reduceIte,Nat.reduceAdd,reduceNeg,Int.reduceAdd,reduceSub,reduceMul,reduceLT,reduceLE,reduceEq,reduceToNat,Nat.reduceBEq,nat1,hl])
    all_goals first | omega | rfl
theorem heldStringS_m (k0 n : Nat) (h0 : 0 < k0) (h1 : k0 + n≤4611686018427387904) : Meets Try.prog 38 [(false,[encSs (marksS k0 n)]),(false,[.sc (.int .i64 k0)])] [(false,[.sc (.int .i64 ((k0 + n : Nat) : Int))],true)]:=by
  have hl:=marksS_len k0 n
  refine meets_upf Try.func38 u_laws_heldStringS_g rfl ?_;simp only [u_laws_heldStringS_u]
  simp only [encSs]
  simp (disch:=first | omega | (simp only [lnA];omega) | simp only [lnB,Nat.reduceAdd]) only [go_sem,↓reduceIte,Nat.reduceAdd,reduceNeg,Int.reduceAdd,reduceSub,reduceMul,reduceLT,reduceLE,reduceEq,reduceToNat,Nat.reduceBEq,nat1,true_and]
  refine lp_n n (fun i=>[.sc (.int .i64 i),.sc (.int .i64 ((k0 + i : Nat) : Int))]) rfl fun i hi=>?_
  simp only [u_laws_heldStringS_l0]
  by_cases hlt : i < n
  · have hg:=marksS_get (k:=k0) hlt
    have hm:=markText_m (k0 + i) (by omega) (by omega)
    have hk : ((k0 + i : Nat) : Int) + 1 = ((k0 + (i + 1) : Nat) : Int):=by omega
    repeat' (first | (with_reducible first | refine jn_in ?_ | refine cl_ok (by assumption) rfl ?_ | refine cl_okP (by assumption) rfl ?_ | refine br_x (fun hbr=>?_) fun hbr=>?_) | simp (disch:=first | omega | (simp only [lnA];omega) | simp only [lnB,Nat.reduceAdd]) only [go_sem,↓reduceIte,Nat.reduceAdd,reduceNeg,Int.reduceAdd,reduceSub,reduceMul,reduceLT,reduceLE,reduceEq,reduceToNat,Nat.reduceBEq,nat1,hl,hg,eq_self,hk])
    all_goals first | omega | exact ⟨rfl,hlt⟩
  · obtain rfl : i = n:=by omega
    repeat' (first | (with_reducible first | refine jn_in ?_ | refine cl_ok (by assumption) rfl ?_ | refine cl_okP (by assumption) rfl ?_ | refine br_x (fun hbr=>?_) fun hbr=>?_) | simp (disch:=first | omega | (simp only [lnA];omega) | simp only [lnB,Nat.reduceAdd]) only [go_sem,↓reduceIte,Nat.reduceAdd,reduceNeg,Int.reduceAdd,reduceSub,reduceMul,reduceLT,reduceLE,reduceEq,reduceToNat,Nat.reduceBEq,nat1,hl])
    all_goals first | omega | rfl
section
variable {w w' : World} {base : Nat} {vs : List Value} {ds : List DV} {f : List Nat}
theorem OwnL.setSc (h : OwnL w base vs ds f) : ∀ {p : Nat} {x u : Value},ds[p]? = some (.sc x)→Sc u→OwnL w base (vs.set p u) (ds.set p (.sc u)) f:=by
  induction h with
  | nil=>intro p x u hp;simp at hp
  | @sc v vs ds f h1 h2 ih =>
    intro p x u hp hu
    cases p with
    | zero=>exact .sc hu h2
    | succ p=>exact .sc h1 (ih (by simpa using hp) hu)
  | sl h1 h2 h3 h4 h5 h6 _ ih =>
    intro p x u hp hu
    cases p with
    | zero=>simp at hp
    | succ p=>exact .sl h1 h2 h3 h4 (ih (by simpa using hp) hu) h6
theorem OwnL.one_at (h : OwnL w base vs ds f) : ∀ {p : Nat} {d : DV},ds[p]? = some d→∃ u f2,vs[p]? = some u∧OwnL w base [u] [d] f2∧(∀ b ∈ f2,b ∈ f) ∧
    ∀ (w' : World) (d' : DV),(∀ b ∈ f,b ∉ f2→w'.heap[b]? = w.heap[b]?)→OwnL w' base [u] [d'] f2→OwnL w' base vs (ds.set p d') f:=by
  induction h with
  | nil=>intro p d hp;simp at hp
  | @sc v vs ds f h1 h2 ih =>
    intro p d hp
    cases p with
    | zero =>
      simp at hp;subst hp
      refine ⟨v,[],rfl,.sc h1 .nil,by simp,fun w' d' hk ho=>?_⟩
      have:=ho.app (h2.keep fun b hb=>hk b hb (by simp)) (by simp)
      simpa using this
    | succ p =>
      obtain ⟨u,f2,a1,a2,a3,a4⟩:=ih (by simpa using hp)
      exact ⟨u,f2,by simpa using a1,a2,a3,fun w' d' hk ho=>.sc h1 (a4 w' d' hk ho)⟩
  | @sl v t k es cells g vs ds f h1 h2 h3 h4 h5 h6 ih1 ih2 =>
    intro p d hp
    rw [← List.append_assoc] at h6
    obtain ⟨n1,n2,n3⟩:=List.nodup_append.1 h6
    cases p with
    | zero =>
      simp at hp;subst hp
      refine ⟨v,v.ownBlock.toList ++ g,rfl,?_,fun b hb=>?_,fun w' d' hk ho=>?_⟩
      · have:=OwnL.sl (vs:=[]) (ds:=[]) (f:=[]) h1 h2 h3 h4 .nil (by simpa using n1)
        simpa using this
      · rw [← List.append_assoc];exact List.mem_append_left _ hb
      · have hk2 : OwnL w' base vs ds f:=h5.keep fun b hb=>hk b (by rw [← List.append_assoc];exact List.mem_append_right _ hb) (fun hc=>n3 b hc b hb rfl)
        have:=ho.app hk2 (fun b hb hc=>n3 b hb b hc rfl)
        simpa using this
    | succ p =>
      obtain ⟨u,f2,a1,a2,a3,a4⟩:=ih2 (by simpa using hp)
      refine ⟨u,f2,by simpa using a1,a2,fun b hb=>by rw [← List.append_assoc];exact List.mem_append_right _ (a3 b hb),fun w' d' hk ho=>?_⟩
      have hx : ∀ b,b ∈ v.ownBlock.toList ++ g→w'.heap[b]? = w.heap[b]?:=fun b hb=>hk b (by rw [← List.append_assoc];exact List.mem_append_left _ hb) (fun hc=>n3 b hb b (a3 b hc) rfl)
      refine .sl (own_keep h1 fun b hb=>hx b (by simp [hb])) h2 h3 (h4.keep fun b hb=>hx b (by simp [hb])) (a4 w' d' (fun b hb hn=>hk b (by rw [← List.append_assoc];exact List.mem_append_right _ hb) hn) ho) (by rw [← List.append_assoc];exact h6)
theorem flat_set1 {α : Type} {k : Nat} {d : α} : ∀ {es : List (List α)} {j off : Nat} {e : List α},(∀ e ∈ es,e.length = k)→es[j]? = some e→off < k→(es.set j (e.set off d)).flatten = es.flatten.set (j * k + off) d
  | [],j,off,e,_,h,_=>by simp at h
  | a :: es,0,off,e,hk,h,ho=>by
    simp at h;subst h
    have:=hk a (List.mem_cons_self ..)
    simp only [List.set_cons_zero,List.flatten_cons,Nat.zero_mul,Nat.zero_add]
    rw [List.set_append_left _ _ (by omega)]
  | a :: es,j + 1,off,e,hk,h,ho=>by
    have ha:=hk a (List.mem_cons_self ..)
    have ih:=flat_set1 (d:=d) (es:=es) (j:=j) (off:=off) (e:=e) (fun e he=>hk e (List.mem_cons_of_mem _ he)) (by simpa using h) ho
    simp only [List.set_cons_succ,List.flatten_cons,ih]
    rw [List.set_append_right _ _ (by rw [Nat.succ_mul];omega)]
    congr 2
    rw [Nat.succ_mul];omega
theorem flat_get1 {α : Type} {k : Nat} {es : List (List α)} {j off : Nat} {e : List α} {d : α} (hk : ∀ e ∈ es,e.length = k) (h : es[j]? = some e) (ho : e[off]? = some d) : es.flatten[j * k + off]? = some d:=by
  have h1:=flat_at hk h
  have hlt : off < e.length:=(List.getElem?_eq_some_iff.1 ho).1
  have : ((es.flatten.drop (j * k)).take k)[off]? = some d:=by rw [h1];exact ho
  rw [List.getElem?_take,if_pos (by rw [← hk e (List.mem_of_getElem? h)];exact hlt),List.getElem?_drop] at this
  exact this
variable {t k : Nat} {es : List (List DV)} {g n c : Nat}
theorem own_lens (h : OwnL w base [.slice (some ⟨g,0,none⟩) n c] [.sl t k es] f) : n = es.length∧0 < k∧(∀ e ∈ es,e.length = k)∧g ∈ f∧base≤g∧g < w.heap.size:=by
  cases h with
  | sl h1 h2 h3 h4 h5 h6 =>
    obtain ⟨a,c',e,_⟩:=own_shape h1
    injection e with _ e _
    have:=own_blk h1 rfl
    exact ⟨e,h2,h3,by simp [Value.ownBlock],this.1,this.2⟩
theorem own_store (h : OwnL w base [.slice (some ⟨g,0,none⟩) n c] [.sl t k es] f) {j off : Nat} {e : List DV} {x u : Value} (he : es[j]? = some e) (ho : e[off]? = some (.sc x)) (hu : Sc u) :
    OwnL (w.setCell ⟨g,j * k + off,none⟩ u) base [.slice (some ⟨g,0,none⟩) n c] [.sl t k (es.set j (e.set off (.sc u)))] f∧(∃ z,w.cell? ⟨g,j * k + off,none⟩ = some z)∧w.frozen? ⟨g,j * k + off,none⟩ = false:=by
  cases h with
  | @sl v t k es cells f1 vs ds f2 h1 h2 h3 h4 h5 h6 =>
    cases h5
    obtain ⟨_,_,en,_⟩:=own_shape h1
    injection en with _ en _
    subst en
    have hcl : cells.length = es.length * k:=h1.1
    have hek : e.length = k:=h3 e (List.mem_of_getElem? he)
    have hlt : off < k:=by rw [← hek];exact (List.getElem?_eq_some_iff.1 ho).1
    have hp:=flat_get1 h3 he ho
    have hlen : (es.set j (e.set off (.sc u))).length = es.length:=by simp
    have hst:=h1.stored (j * k + off) u
    have hset:=h4.setSc hp hu
    rw [← flat_set1 h3 he hlt] at hset
    have hnd : ∀ b ∈ f1,b ≠ g:=by
      intro b hb e
      subst e
      have:=(List.nodup_append.1 h6).2.2 b (by simp [Value.ownBlock]) b (by simp [hb])
      exact this rfl
    have hpc : j * k + off < cells.length:=by rw [h4.rep.len];exact (List.getElem?_eq_some_iff.1 hp).1
    refine ⟨?_,⟨_,(h1.cellAt (j * k + off) (by omega)).trans (List.getElem?_eq_getElem hpc)⟩,h1.frozenAt _⟩
    · refine .sl (by rw [hlen];exact hst.1) h2 (fun e' he'=>?_) (hset.keep fun b hb=>?_) .nil h6
      · rcases List.mem_or_eq_of_mem_set he' with h | h
        · exact h3 e' h
        · subst h;simpa using hek
      · exact Below.heap_setCell w ⟨g,j * k + off,none⟩ u b (fun e=>hnd b hb e)
theorem own_sub (h : OwnL w base [.slice (some ⟨g,0,none⟩) n c] [.sl t k es] f) {j off : Nat} {e : List DV} {d : DV} (he : es[j]? = some e) (ho : e[off]? = some d) :
    ∃ u f2,w.cell? ⟨g,j * k + off,none⟩ = some u∧OwnL w base [u] [d] f2∧(∀ b ∈ f2,b ∈ f∧b ≠ g) ∧
      ∀ (w' : World) (d' : DV),(∀ b ∈ f,b ∉ f2→w'.heap[b]? = w.heap[b]?)→OwnL w' base [u] [d'] f2→OwnL w' base [.slice (some ⟨g,0,none⟩) n c] [.sl t k (es.set j (e.set off d'))] f:=by
  cases h with
  | @sl v t k es cells f1 vs ds f2 h1 h2 h3 h4 h5 h6 =>
    cases h5
    obtain ⟨_,_,en,_⟩:=own_shape h1
    injection en with _ en _
    subst en
    have hcl : cells.length = es.length * k:=h1.1
    have hek : e.length = k:=h3 e (List.mem_of_getElem? he)
    have hlt : off < k:=by rw [← hek];exact (List.getElem?_eq_some_iff.1 ho).1
    have hp:=flat_get1 h3 he ho
    have hnd : ∀ b ∈ f1,b ≠ g:=by
      intro b hb e
      subst e
      exact (List.nodup_append.1 h6).2.2 b (by simp [Value.ownBlock]) b (by simp [hb]) rfl
    obtain ⟨u,f3,a1,a2,a3,a4⟩:=h4.one_at hp
    refine ⟨u,f3,(h1.cellAt (j * k + off) (by rw [← hcl];exact (List.getElem?_eq_some_iff.1 a1).1)).trans a1,a2,fun b hb=>⟨by simp [a3 b hb],hnd b (a3 b hb)⟩,fun w' d' hk ho'=>?_⟩
    have hc:=a4 w' d' (fun b hb hn=>hk b (by simp [hb]) hn) ho'
    rw [← flat_set1 h3 he hlt] at hc
    have hkg : w'.heap[g]? = w.heap[g]?:=hk g (by simp [Value.ownBlock]) (fun hx=>hnd _ (a3 _ hx) rfl)
    have ho1 : w'.ownsRow base t k (Value.slice (some ⟨g,0,none⟩) es.length c) es.length cells:=own_keep h1 fun b hb=>by
      injection hb with hb
      subst hb
      exact hkg
    refine .sl (by rw [List.length_set];exact ho1) h2 (fun e' he'=>?_) hc .nil h6
    rcases List.mem_or_eq_of_mem_set he' with h | h
    · exact h3 e' h
    · subst h;simpa using hek
end
end Go.Proofs.Ytgmpajfhjnojiaa
namespace Go.Proofs.Ytgmpajfhjnojiaa
open Go.RowKit
section
variable {w w1 w2 w3 : World} {f f2 : List Nat}
theorem Wrote.refl (w : World) (f : List Nat) : Wrote w w f:=⟨rfl,rfl,rfl,Nat.le_refl _,fun _ _ _=>rfl⟩
theorem Wrote.trans (h : Wrote w w1 f) (k : Wrote w1 w2 f) : Wrote w w2 f :=
  ⟨k.os.trans h.os,k.tape.trans h.tape,k.output.trans h.output,Nat.le_trans h.size k.size,fun b hb hn=>(k.block b (Nat.lt_of_lt_of_le hb h.size) hn).trans (h.block b hb hn)⟩
theorem Wrote.mono (h : Wrote w w1 f2) (hs : ∀ b ∈ f2,b ∈ f) : Wrote w w1 f:=⟨h.os,h.tape,h.output,h.size,fun b hb hn=>h.block b hb fun hx=>hn (hs b hx)⟩
theorem Wrote.below (h : Below w.heap.size w w1) : Wrote w w1 f:=⟨h.os,h.tape,h.output,h.size,fun b hb _=>h.block b hb⟩
theorem Wrote.cell (w : World) {g o : Nat} {u : Value} (h : g ∈ f) (hg : g < w.heap.size) : Wrote w (w.setCell ⟨g,o,none⟩ u) f:=by
  have hb:=Below.setCell (Below.refl 0 w) (p:=⟨g,o,none⟩) (Nat.zero_le _) u
  refine ⟨hb.os,hb.tape,hb.output,hb.size,fun b hb hn=>?_⟩
  exact Below.heap_setCell w ⟨g,o,none⟩ u b (fun e=>hn (e ▸ h))
end
theorem OwnL.wrote {w w' : World} {base : Nat} {vs : List Value} {ds : List DV} {f f2 : List Nat} (h : OwnL w base vs ds f) (hw : Wrote w w' f2) (hd : ∀ b ∈ f,b ∉ f2) : OwnL w' base vs ds f :=
  h.keep fun b hb=>hw.block b (h.blocks b hb).2 (hd b hb)
section
variable {wr : World} {base n c t k g : Nat} {es : List (List DV)} {f : List Nat} {d0 d1 d2 d4 u0 u1 u2 u4 : Value} {d3 : DV}
theorem nod_cells (h : OwnL wr base [.slice (some ⟨g,0,none⟩) n c] [.sl t 5 es] f) (he : es[k]? = some [.sc d0,.sc d1,.sc d2,d3,.sc d4]) :
    (∃ z,wr.cell? ⟨g,k * 5,none⟩ = some z)∧(∃ z,wr.cell? ⟨g,k * 5 + 1,none⟩ = some z)∧(∃ z,wr.cell? ⟨g,k * 5 + 2,none⟩ = some z)∧(∃ z,wr.cell? ⟨g,k * 5 + 4,none⟩ = some z) ∧
    wr.frozen? ⟨g,k * 5,none⟩ = false∧wr.frozen? ⟨g,k * 5 + 1,none⟩ = false∧wr.frozen? ⟨g,k * 5 + 2,none⟩ = false∧wr.frozen? ⟨g,k * 5 + 4,none⟩ = false ∧
    ∃ u,wr.cell? ⟨g,k * 5 + 3,none⟩ = some u:=by
  obtain ⟨-,a1,a2⟩:=own_store h (off:=0) (u:=.bool true) he rfl trivial
  obtain ⟨-,b1,b2⟩:=own_store h (off:=1) (u:=.bool true) he rfl trivial
  obtain ⟨-,c1,c2⟩:=own_store h (off:=2) (u:=.bool true) he rfl trivial
  obtain ⟨-,e1,e2⟩:=own_store h (off:=4) (u:=.bool true) he rfl trivial
  obtain ⟨u,-,hu,-⟩:=own_sub h (off:=3) he rfl
  exact ⟨a1,b1,c1,e1,a2,b2,c2,e2,u,hu⟩
theorem adr_ne {g o o' : Nat} (h : o ≠ o') : (⟨g,o,none⟩ : Addr) ≠ ⟨g,o',none⟩:=fun e=>h (by injection e)
theorem nod_step (h : OwnL wr base [.slice (some ⟨g,0,none⟩) n c] [.sl t 5 es] f) (he : es[k]? = some [.sc d0,.sc d1,.sc d2,d3,.sc d4]) (s0 : Sc u0) (s1 : Sc u1) (s2 : Sc u2) (s4 : Sc u4) {u : Value} (hu : wr.cell? ⟨g,k * 5 + 3,none⟩ = some u)
    {w2 : World} (hb : Below ((wr.setCell ⟨g,k * 5,none⟩ u0).setCell ⟨g,k * 5 + 1,none⟩ u1).heap.size ((wr.setCell ⟨g,k * 5,none⟩ u0).setCell ⟨g,k * 5 + 1,none⟩ u1) w2) :
    ∃ f2,OwnL (w2.setCell ⟨g,k * 5 + 2,none⟩ u2) base [u] [d3] f2∧∀ (w4 : World) (d3' : DV),OwnL w4 base [u] [d3'] f2→Wrote (w2.setCell ⟨g,k * 5 + 2,none⟩ u2) w4 f2 →
      (∃ z,w4.cell? ⟨g,k * 5 + 4,none⟩ = some z)∧w4.frozen? ⟨g,k * 5 + 4,none⟩ = false ∧
      OwnL (w4.setCell ⟨g,k * 5 + 4,none⟩ u4) base [.slice (some ⟨g,0,none⟩) n c] [.sl t 5 (es.set k [.sc u0,.sc u1,.sc u2,d3',.sc u4])] f∧Wrote wr (w4.setCell ⟨g,k * 5 + 4,none⟩ u4) f:=by
  have hk : k < es.length:=(List.getElem?_eq_some_iff.1 he).1
  have hg:=own_lens h
  obtain ⟨-,-,-,gf,-,gs⟩:=hg
  have a1:=(own_store h (off:=0) (u:=u0) he rfl s0).1
  have e1 : (es.set k ([.sc d0,.sc d1,.sc d2,d3,.sc d4].set 0 (.sc u0)))[k]? = some [.sc u0,.sc d1,.sc d2,d3,.sc d4]:=by rw [List.getElem?_set,if_pos rfl,if_pos hk];rfl
  have a2:=(own_store a1 (off:=1) (u:=u1) e1 rfl s1).1
  have e2 : ((es.set k ([.sc d0,.sc d1,.sc d2,d3,.sc d4].set 0 (.sc u0))).set k ([.sc u0,.sc d1,.sc d2,d3,.sc d4].set 1 (.sc u1)))[k]? = some [.sc u0,.sc u1,.sc d2,d3,.sc d4]:=by rw [List.getElem?_set,if_pos rfl,if_pos (by simpa using hk)];rfl
  have wA : Wrote wr ((wr.setCell ⟨g,k * 5,none⟩ u0).setCell ⟨g,k * 5 + 1,none⟩ u1) f:=(Wrote.cell wr gf gs).trans (Wrote.cell _ gf (by simpa using gs))
  generalize hW : (wr.setCell ⟨g,k * 5,none⟩ u0).setCell ⟨g,k * 5 + 1,none⟩ u1 = W at *
  have a2 : OwnL W base [.slice (some ⟨g,0,none⟩) n c] [.sl t 5 ((es.set k ([.sc d0,.sc d1,.sc d2,d3,.sc d4].set 0 (.sc u0))).set k ([.sc u0,.sc d1,.sc d2,d3,.sc d4].set 1 (.sc u1)))] f:=a2
  have a3:=a2.keep fun b hbf=>hb.block b (a2.blocks b hbf).2
  have gs2:=(own_lens a3).2.2.2.2.2
  have wB : Wrote wr w2 f:=wA.trans (Wrote.below hb)
  have a4:=(own_store a3 (off:=2) (u:=u2) e2 rfl s2).1
  have e4 : (((es.set k ([.sc d0,.sc d1,.sc d2,d3,.sc d4].set 0 (.sc u0))).set k ([.sc u0,.sc d1,.sc d2,d3,.sc d4].set 1 (.sc u1))).set k ([.sc u0,.sc u1,.sc d2,d3,.sc d4].set 2 (.sc u2)))[k]? = some [.sc u0,.sc u1,.sc u2,d3,.sc d4]:=by rw [List.getElem?_set,if_pos rfl,if_pos (by simpa using hk)];rfl
  have wC : Wrote wr (w2.setCell ⟨g,k * 5 + 2,none⟩ u2) f:=wB.trans (Wrote.cell _ gf gs2)
  obtain ⟨u',f2,b1,b2,b3,b4⟩:=own_sub a4 (off:=3) e4 rfl
  have hu' : u' = u:=by
    rw [World.cell?_setCell_other (h:=adr_ne (by omega))] at b1
    have hgW : g < W.heap.size:=(own_lens a2).2.2.2.2.2
    have : w2.cell? ⟨g,k * 5 + 3,none⟩ = W.cell? ⟨g,k * 5 + 3,none⟩:=(bcell hb).1 g _ hgW
    rw [this,← hW,World.cell?_setCell_other (h:=adr_ne (by omega)),World.cell?_setCell_other (h:=adr_ne (by omega)),hu] at b1
    injection b1 with b1;exact b1.symm
  subst hu'
  refine ⟨f2,b2,fun w4 d3' ho hw=>?_⟩
  have a5:=b4 w4 d3' (fun b hbf hn=>hw.block b (a4.blocks b hbf).2 hn) ho
  have e5 : ((((es.set k ([.sc d0,.sc d1,.sc d2,d3,.sc d4].set 0 (.sc u0))).set k ([.sc u0,.sc d1,.sc d2,d3,.sc d4].set 1 (.sc u1))).set k ([.sc u0,.sc u1,.sc d2,d3,.sc d4].set 2 (.sc u2))).set k ([.sc u0,.sc u1,.sc u2,d3,.sc d4].set 3 d3'))[k]? = some [.sc u0,.sc u1,.sc u2,d3',.sc d4]:=by rw [List.getElem?_set,if_pos rfl,if_pos (by simpa using hk)];rfl
  obtain ⟨a6,z6,f6⟩:=own_store a5 (off:=4) (u:=u4) e5 rfl s4
  refine ⟨z6,f6,?_,(wC.trans (hw.mono fun b hb=>(b3 b hb).1)).trans (Wrote.cell _ gf (own_lens a5).2.2.2.2.2)⟩
  simpa using a6
end
def wNd (x : Nod) : Nat:=4 + x.labels.length
def mkNd (o : Nat) (x : Nod) : Nod:=⟨(o : Nat),(o + 1 : Nat),markT (o + 2),marksS (o + 3) x.labels.length,(o + 3 + x.labels.length : Nat)⟩
def offN (l : List Nod) (i : Nat) : Nat:=sumOf wNd (l.take i)
def mixN (k0 : Nat) (l : List Nod) (i : Nat) : List Nod:=((List.range i).map fun j=>mkNd (k0 + offN l j) (l.getD j default)) ++ l.drop i
def marksN (k0 : Nat) (l : List Nod) : List Nod:=(List.range l.length).map fun j=>mkNd (k0 + offN l j) (l.getD j default)
theorem offN_succ {l : List Nod} {i : Nat} (h : i < l.length) : offN l (i + 1) = offN l i + (4 + (l.getD i default).labels.length):=sumOf_take wNd h
theorem offN_le (l : List Nod) (i : Nat) : offN l i≤sumOf wNd l:=sumOf_le wNd l i
theorem mixN_0 (k0 : Nat) (l : List Nod) : mixN k0 l 0 = l:=by simp [mixN]
theorem mixN_end (k0 : Nat) (l : List Nod) : mixN k0 l l.length = marksN k0 l:=by simp [mixN,marksN]
theorem mixN_len {k0 : Nat} {l : List Nod} {i : Nat} (h : i≤l.length) : (mixN k0 l i).length = l.length:=by simp [mixN];omega
theorem mixN_get {k0 : Nat} {l : List Nod} {i : Nat} (h : i < l.length) : ((mixN k0 l i).map encNod)[i]? = some (encNod (l.getD i default)):=by
  unfold mixN
  rw [List.getElem?_map,List.getElem?_append_right (by simp),List.length_map,List.length_range,Nat.sub_self,List.getElem?_drop,Nat.add_zero,List.getD_eq_getElem?_getD,List.getElem?_eq_getElem h];rfl
theorem own_some {w : World} {base n c t k : Nat} {A : Option Addr} {es : List (List DV)} {f : List Nat} (h : OwnL w base [.slice A n c] [.sl t k es] f) (hn : 0 < es.length) : ∃ g,A = some ⟨g,0,none⟩:=by
  cases h with
  | sl h1 h2 h3 h4 h5 h6 =>
    obtain ⟨g,cap,hv,-,-⟩:=h1.form hn
    injection hv with e1 e2 e3
    exact ⟨g,e1⟩
theorem mixN_set {k0 : Nat} {l : List Nod} {i : Nat} (h : i < l.length) : ((mixN k0 l i).map encNod).set i (encNod (mkNd (k0 + offN l i) (l.getD i default))) = (mixN k0 l (i + 1)).map encNod:=marks_step encNod (fun j=>mkNd (k0 + offN l j) (l.getD j default)) l i h
theorem own_cap {w : World} {base n c t k : Nat} {A : Option Addr} {es : List (List DV)} {f : List Nat} (h : OwnL w base [.slice A n c] [.sl t k es] f) : n≤9223372036854775807:=by
  cases h with
  | sl h1 h2 h3 h4 h5 h6 =>
    obtain ⟨A,c',e,e1,e2⟩:=own_shape h1
    injection e with _ e _
    unfold maxLen at e2
    omega
theorem marks_x {P : Program} {fn : FuncId} {d d' : DV} {k k' : Int} (h : Marks P fn false [d] k [d'] k') {w : World} {base : Nat} {u : Value} {f2 : List Nat} (ho : OwnL w base [u] [d] f2) {x : Int} (hx : x = k) :
    Calls P fn #[u,.int .i64 x] w fun e w'=>e = .returned (.int .i64 k')∧OwnL w' base [u] [d'] f2∧Wrote w w' f2:=by
  subst hx
  refine (h.2 w base u [u] [f2] rfl ⟨ho,trivial⟩ (by simpa using ho.nodup)).mono ?_
  rintro e w' ⟨h1,⟨h2,-⟩,h3⟩
  exact ⟨h1,h2,by simpa using h3⟩
def NRel (k0 n : Nat) (w : World) (base : Nat) (A : Option Addr) (c : Nat) (l : List Nod) (f : List Nat) (v1 v5 : Value) (wr : World) : Prop :=
  ∃ k : Nat,k≤n∧v5 = .int .i64 k∧v1 = .int .i64 ((k0 + offN l k : Nat) : Int)∧OwnL wr base [.slice A n c] [.sl 73 5 ((mixN k0 l k).map encNod)] f∧Wrote w wr f
set_option maxRecDepth 100000 in
theorem markNodeS_any (A : Option Addr) (n c base k0 : Nat) (l : List Nod) (f : List Nat) (w : World) (ha : OwnL w base [.slice A n c] [.sl 73 5 (l.map encNod)] f) (hl : l.length = n) (h0 : 0 < k0) (h1 : k0 + sumOf wNd l≤4611686018427387904) :
    Calls Try.prog 23 #[.slice A n c,.int .i64 k0] w fun e w'=>e = .returned (.int .i64 ((k0 + sumOf wNd l : Nat) : Int))∧OwnL w' base [.slice A n c] [.sl 73 5 ((marksN k0 l).map encNod)] f∧Wrote w w' f:=by
  have HL:=Lib.hid hl;clear hl
  go_enter Try.func23,Try.ntmps23
  go_wp2
  go_loopw [1,5] (NRel k0 n w base A c l f) (fun _ i _=>n - (intOf i).toNat)
  case atStart=>exact ⟨0,Nat.zero_le _,rfl,by simp [offN,sumOf],by rw [mixN_0];exact ha,Wrote.refl _ _⟩
  case round =>
    obtain ⟨k,hk,rfl,rfl,hown,hg⟩:=hrel
    by_cases hlt : k < n
    · have hkl : k < l.length:=by have:=HL.out;omega
      have he:=mixN_get (k0:=k0) hkl
      obtain ⟨g,rfl⟩:=own_some hown (by rw [List.length_map,mixN_len (by omega)];omega)
      obtain ⟨-,-,-,gf,-,gs⟩:=own_lens hown
      have hcp:=own_cap hown
      have hof:=offN_succ hkl
      have hol:=offN_le l (k + 1)
      have hms:=mixN_set (k0:=k0) hkl
      generalize l.getD k default = x at *
      generalize hes : (mixN k0 l k).map encNod = es at *
      obtain ⟨⟨z0,c0⟩,⟨z1,c1⟩,⟨z2,c2⟩,⟨z4,c4⟩,q0,q1,q2,q4,u,c3⟩:=nod_cells hown he
      generalize hK : k0 + offN l k = K at *
      have hKb : K + 4 + x.labels.length≤4611686018427387904:=by omega
      have NS:=fun (w2 : World) hb=>nod_step (u0:=.int .i64 K) (u1:=.int .i64 ((K : Int) + 1)) (u2:=.string (markT (K + 2))) (u4:=.int .i64 ((K + 3 + x.labels.length : Nat) : Int)) hown he trivial trivial trivial trivial c3 (w2:=w2) hb
      have HR:=Lib.hid NS
      have HG:=Lib.hid hg
      have HE:=Lib.hid hes
      have HK:=Lib.hid hK
      have HM:=Lib.hid hms
      have HF:=Lib.hid hof
      clear hown hg ha he NS hes hK hms hof hol
      go_wp2_with fail
      refine (markText_x _ (K + 2) _ (by omega) (by omega) (by omega)).mono ?_
      rintro e w2 ⟨rfl,hb⟩
      obtain ⟨f2,o3,HN⟩:=HR.out w2 hb
      obtain ⟨hc,hf⟩:=bcell hb
      have hz : g < w2.heap.size:=by have:=hb.size;simp at this;omega
      have HN:=Lib.hid HN
      have HO:=Lib.hid o3
      clear hb HR o3
      go_wp2_with fail
      refine (marks_x (markStringS_k x.labels (K + 3) (by omega) (by omega)) HO.out (by omega)).mono ?_
      rintro e w4 ⟨rfl,o4,wr4⟩
      obtain ⟨⟨z5,c5⟩,q5,o5,wr5⟩:=HN.out w4 _ o4 wr4
      have HW:=Lib.hid wr5
      have HP:=Lib.hid o5
      clear o4 wr4 o5 wr5 HN HO hc hf c0 c1 c2 c3 c4 q0 q1 q2 q4
      go_wp2
      go_roundw
      case rel =>
        refine ⟨k + 1,hlt,rfl,?_,?_,HG.out.trans HW.out⟩
        · congr 1;have:=HF.out;have:=HK.out;omega
        · rw [← HM.out]
          have:=HP.out
          unfold mkNd encNod encSs
          exact this
      case measure=>simp [intOf];omega
    · go_wp2
      go_ret
      obtain rfl : k = n:=by omega
      obtain rfl : l.length = k:=HL.out
      have he : offN l l.length = sumOf wNd l:=by unfold offN;rw [List.take_length]
      rw [mixN_end] at hown
      exact ⟨ret_i (by rw [he]),hown,hg⟩
theorem markNodeS_k (l : List Nod) (k0 : Nat) (h0 : 0 < k0) (h1 : k0 + sumOf wNd l≤4611686018427387904) : Marks Try.prog 23 false [encNods l] k0 [encNods (marksN k0 l)] ((k0 + sumOf wNd l : Nat) : Int):=by
  refine ⟨by kernel_rfl,fun w base v vals fs hv ho hnd=>?_⟩
  have hv : vals = [v]:=hv
  subst hv
  obtain ⟨_,_,f,_,e,rfl,o0,ho⟩:=ownP_cons ho
  injection e with e1 e2
  subst e1 e2
  obtain ⟨-,rfl⟩:=ownP_nil ho
  obtain ⟨A,n,c,rfl,hn⟩ : ∃ A n c,v = .slice A n c∧n = l.length:=by
    unfold encNods at o0
    cases o0 with
    | sl h1 h2 h3 h4 h5 h6 =>
      obtain ⟨A,c,e,-,-⟩:=own_shape h1
      exact ⟨A,_,c,e,by rw [List.length_map]⟩
  refine (markNodeS_any A n c base k0 l f w o0 hn.symm h0 h1).mono ?_
  rintro e w' ⟨rfl,h3,h4⟩
  exact ⟨rfl,⟨h3,trivial⟩,by simpa using h4⟩
end Go.Proofs.Ytgmpajfhjnojiaa
namespace Go.Proofs.Ytgmpajfhjnojiaa
open Go.RowKit
set_option maxRecDepth 100000
theorem cell_of_heapF {w w' : World} {b : Nat} (h : w'.heap[b]? = w.heap[b]?) (o : Nat) : w'.cell? ⟨b,o,none⟩ = w.cell? ⟨b,o,none⟩:=by
  unfold World.cell?
  simp only [h]
theorem own_flat_nilF {w : World} {base : Nat} {vs : List Value} {ds : List DV} {f : List Nat} (h : OwnL w base vs ds f) (hf : Flat ds) : f = []:=by
  induction h with
  | nil=>rfl
  | sc _ _ ih=>exact ih fun d hd=>hf d (List.mem_cons_of_mem _ hd)
  | sl=>obtain ⟨v,hv⟩:=hf _ (List.mem_cons_self ..);cases hv
set_option maxHeartbeats 2000000 in
theorem markFml_k (r : ByteArray) (b : Bool) (V : List ByteArray) (T : List Int) (k0 : Nat) (h0 : 0 < k0) (h1 : k0 + V.length + T.length≤4611686018427387904) :
    Marks Try.prog 11 true [.sc (.string r),.sc (.bool b),encSs V,encZs T] k0 [.sc (.string r),.sc (.bool b),encSs (marksS k0 V.length),encZs (marksZ (k0 + V.length) T.length)] ((k0 + V.length + T.length : Nat) : Int):=by
  refine ⟨by kernel_rfl,fun w base v vals fs hv ho hnd=>?_⟩
  have hv : v = .agg vals.toArray:=hv
  subst hv
  obtain ⟨v0,_,f0,_,rfl,rfl,o0,ho⟩:=ownP_cons ho
  obtain ⟨v1,_,f1,_,rfl,rfl,o1,ho⟩:=ownP_cons ho
  obtain ⟨v2,_,f2,_,rfl,rfl,o2,ho⟩:=ownP_cons ho
  obtain ⟨v3,_,f3,_,rfl,rfl,o3,ho⟩:=ownP_cons ho
  obtain ⟨rfl,rfl⟩:=ownP_nil ho
  obtain ⟨rfl,-⟩:=RepL.scOf o0.rep
  obtain ⟨rfl,-⟩:=RepL.scOf o1.rep
  have e0:=own_flat_nilF o0 (by intro d hd;simp at hd;exact ⟨_,hd⟩)
  have e1:=own_flat_nilF o1 (by intro d hd;simp at hd;exact ⟨_,hd⟩)
  subst e0 e1
  simp only [List.flatten_cons,List.flatten_nil,List.append_nil,List.nil_append] at hnd
  obtain ⟨n1,n2,d1⟩:=List.nodup_append.1 hnd
  have hfl : ([[],[],f2,f3] : List (List Nat)).flatten = f2 ++ f3:=by simp
  rw [hfl]
  have b1:=fun b hb=>(o2.blocks b hb).2
  have b2:=fun b hb=>(o3.blocks b hb).2
  have HB:=Lib.hid (And.intro b1 b2)
  have HD:=Lib.hid d1
  have HO:=Lib.hid (And.intro o2 o3)
  have HX:=Lib.hid (And.intro o0 o1)
  clear ho o0 o1 o2 o3 hnd n1 n2 d1 b1 b2 hfl
  have hal : ∀ o : Obj,Below w.heap.size w (w.alloc o):=fun o=>(Below.refl _ _).alloc (Nat.le_refl _) _
  go_enter Try.func11,Try.ntmps11
  go_wp2_with fail
  have q1:=fun o=>(HO.out.1).keep (w':=w.alloc o) fun b hb=>(hal o).block b (HB.out.1 b hb)
  have q2:=fun o=>(HO.out.2).keep (w':=w.alloc o) fun b hb=>(hal o).block b (HB.out.2 b hb)
  refine (marks_x (markStringS_k V k0 h0 (by omega)) (q1 _) rfl).mono ?_
  rintro e w1 ⟨rfl,p1,t1⟩
  have hc1:=fun o=>cell_of_heapF (t1.block w.heap.size (by simp) (fun hx=>absurd (HB.out.1 _ hx) (Nat.lt_irrefl _))) o
  have hz1 : w.heap.size < w1.heap.size:=by have:=t1.size;simp at this;omega
  have r2:=(q2 _).wrote t1 (fun b hb hx=>HD.out b hx b hb rfl)
  have tt:=(Wrote.below (f:=f2 ++ f3) (hal _)).trans (t1.mono fun b hb=>by simp [hb])
  clear q1 q2 hal
  have HQ2:=Lib.hid r2
  have HP1:=Lib.hid p1
  have HT1:=Lib.hid tt
  clear tt p1 t1 r2
  go_wp2_with fail
  refine (marks_x (markIntS_k T (k0 + V.length) (by omega) (by omega)) HQ2.out (by omega)).mono ?_
  rintro e w2 ⟨rfl,p2,t2⟩
  have hc2:=fun o=>(cell_of_heapF (t2.block w.heap.size hz1 (fun hx=>absurd (HB.out.2 _ hx) (Nat.lt_irrefl _))) o).trans (hc1 o)
  have s1:=HP1.out.wrote t2 (fun b hb hx=>HD.out b hb b hx rfl)
  have tt:=HT1.out.trans (t2.mono (f:=f2 ++ f3) fun b hb=>by simp [hb])
  clear HQ2 HP1 HT1 hc1
  have HP1:=Lib.hid s1
  have HP2:=Lib.hid p2
  have HT2:=Lib.hid tt
  clear tt p2 t2 s1
  go_wp2
  go_ret
  refine ⟨ret_i (by simp),⟨?_,?_,HP1.out,HP2.out,trivial⟩,HT2.out⟩
  · exact HX.out.1.keep (by simp)
  · exact HX.out.2.keep (by simp)
theorem heldFml_m (r : ByteArray) (b : Bool) (n1 n2 k0 : Nat) (h0 : 0 < k0) (h1 : k0 + n1 + n2≤4611686018427387904) :
    Meets Try.prog 12 [(true,[.sc (.string r),.sc (.bool b),encSs (marksS k0 n1),encZs (marksZ (k0 + n1) n2)]),(false,[.sc (.int .i64 k0)])] [(false,[.sc (.int .i64 ((k0 + n1 + n2 : Nat) : Int))],true)]:=by
  have h2:=heldStringS_m k0 n1 h0 (by omega)
  have h3:=heldIntS_m (k0 + n1) n2 (by omega) (by omega)
  refine meets_upf Try.func12 u_laws_heldFormula_g rfl ?_;simp only [u_laws_heldFormula_u]
  simp only [encSs,encZs] at h2 h3 ⊢
  repeat' (first | (with_reducible first | refine jn_in ?_ | refine cl_ok (by assumption) rfl ?_ | refine cl_okP (by assumption) rfl ?_ | refine br_x (fun hbr=>?_) fun hbr=>?_) | simp (disch:=first | omega | (simp only [lnA];omega) | simp only [lnB,Nat.reduceAdd]) only [go_sem,↓reduceIte,Nat.reduceAdd,Int.reduceNeg,Int.reduceAdd,Int.reduceSub,Int.reduceMul,Int.reduceLT,Int.reduceLE,Int.reduceEq,Int.reduceToNat,Nat.reduceBEq,nat1,true_and])
  all_goals first | omega | rfl
theorem sumOf_wNd : ∀ (l : List Nod),sumOf wNd l≤4 * wtNods l
  | []=>by simp [sumOf]
  | x :: l=>by
    have ih:=sumOf_wNd l
    have h1 : x.labels.length≤wtSs x.labels:=wtSs_len (Nat.le_refl _)
    have h2 : wtNod x = x.text.size + wtSs x.labels:=rfl
    have h3 : wNd x = 4 + x.labels.length:=rfl
    simp only [sumOf,wtNods,List.length_cons] at ih ⊢
    omega
theorem fofT_wt (t : List Nod) : wtFml (fofT t).1≤1000∧(fofT t).1.variables.length≤5∧(fofT t).1.terms.length≤10:=by
  have h0 : wtFml noF≤1000∧noF.variables.length≤5∧noF.terms.length≤10:=by decide
  unfold fofT
  split
  · exact h0
  split
  · exact h0
  split
  · exact h0
  split
  · exact h0
  rename_i h
  generalize frm _ _ _ = F at *
  have hF : fmlB F = true:=by simpa using h
  obtain ⟨h1,h2⟩:=fmlB_10 hF
  obtain ⟨h3,h4⟩:=fml_name hF
  have hs:=sumOf_bd (f:=ByteArray.size) (c:=20) fun y hy=>h4 y hy
  refine ⟨?_,h2,h1⟩
  unfold wtFml wtSs
  simp only
  omega
set_option maxHeartbeats 8000000 in
theorem lawFormulaOf_m (a0 : List Nod) (ok0 : OkNods a0) :
    Meets Try.prog 5 [(false,[encNodsL a0])] [(false,[.sc (.bool true)],true)]:=by
  have hz0:=szNods_m a0 ((1048576 : Int)) ok0 (by omega) (by omega)
  by_cases hc0 : ((wtNods a0 : Nat) : Int)≤(1048576 : Int)
  rotate_left
  · rw [szF_gt (by omega)] at hz0
    refine meets_upf Try.func5 u_laws_FnExactFormulaOf_g rfl ?_;simp only [u_laws_FnExactFormulaOf_u]
    simp only [encNods,encNodsL,encSs,encZs] at hz0 ⊢
    repeat' (first | (with_reducible first | refine jn_in ?_ | refine cl_ok (by assumption) rfl ?_ | refine cl_okP (by assumption) rfl ?_ | refine br_x (fun hbr=>?_) fun hbr=>?_) | simp (disch:=first | omega | (simp only [lnA];omega) | simp only [lnB,Nat.reduceAdd]) only [go_sem,↓reduceIte,Nat.reduceAdd,Int.reduceNeg,Int.reduceAdd,Int.reduceSub,Int.reduceMul,Int.reduceLT,Int.reduceLE,Int.reduceEq,Int.reduceToNat,Nat.reduceBEq,eq_self])
    all_goals first | rfl | omega
  rw [szF_le hc0] at hz0
  have hd0 : decide ((1048576 : Int) - ((wtNods a0 : Nat) : Int) < 0) = false:=decide_eq_false (by omega)
  have wa0 : wtNods a0≤1048576:=by omega
  have ht0:=toNods_m a0 (wa0)
  have hq0:=eqNods_m a0 (by omega)
  have hw0:=sumOf_wNd a0
  have hl0 : a0.length≤1048576:=(wtNods_ok wa0).1
  have h1:=specFof_m a0 (BdN.of wa0)
  have h2:=implFof_m a0 (BdN.of wa0)
  have hbd:=fofT_wt a0
  generalize fofT a0 = R at *
  obtain ⟨R,rb⟩:=R
  simp only at h1 h2 hbd
  have hr0:=eqFml_m R (by omega)
  obtain ⟨r',b',V',T'⟩:=R
  simp only at hbd
  have hmx0 : Marks Try.prog 23 false [encNods a0] 1 [encNods (marksN (1) a0)] ((1 + sumOf wNd a0 : Nat) : Int):=markNodeS_k a0 (1) (by omega) (by omega)
  have hkx : decide (((1 + sumOf wNd a0 : Nat) : Int) < 0) = false:=decide_eq_false (by omega)
  have hmg0 : Marks Try.prog 11 true [.sc (.string r'),.sc (.bool b'),encSs V',encZs T'] 1 [.sc (.string r'),.sc (.bool b'),encSs (marksS 1 V'.length),encZs (marksZ (1 + V'.length) T'.length)] ((1 + V'.length + T'.length : Nat) : Int):=markFml_k r' b' V' T' 1 (by omega) (by omega)
  have hhg0 : Meets Try.prog 12 [(true,[.sc (.string r'),.sc (.bool b'),encSs (marksS 1 V'.length),encZs (marksZ (1 + V'.length) T'.length)]),(false,[.sc (.int .i64 1)])] [(false,[.sc (.int .i64 ((1 + V'.length + T'.length : Nat) : Int))],true)]:=heldFml_m r' b' V'.length T'.length 1 (by omega) (by omega)
  have hkg0 : decide (((1 + V'.length + T'.length : Nat) : Int) < 0) = false:=decide_eq_false (by omega)
  refine meets_upf Try.func5 u_laws_FnExactFormulaOf_g rfl ?_;simp only [u_laws_FnExactFormulaOf_u]
  simp only [encNods,encNodsL,encSs,encZs,encFml] at hz0 ht0 hq0 h1 h2 hr0 hmx0 hmg0 hhg0 ⊢
  repeat' (first | (with_reducible refine cl_ok (by assumption) rfl ?_) | (with_reducible refine cl_okP (by assumption) rfl ?_) | (refine mk_ok (by assumption) ?_ ?_;(· first | exact ⟨⟨_,rfl,rfl⟩,⟨_,rfl,rfl⟩,trivial⟩ | exact ⟨⟨_,rfl,rfl⟩,⟨_,rfl,rfl⟩,⟨_,rfl,rfl⟩,trivial⟩ | exact trivial | exact ⟨⟨_,rfl,rfl⟩,trivial⟩)) | simp (disch:=first | omega | (simp only [lnA];omega) | simp only [lnB,Nat.reduceAdd]) only [go_sem,↓reduceIte,Nat.reduceAdd,Int.reduceNeg,Int.reduceAdd,Int.reduceSub,Int.reduceMul,Int.reduceLT,Int.reduceLE,Int.reduceEq,Int.reduceToNat,Nat.reduceBEq,hd0,hkx,hkg0,eq_self])
  all_goals first | rfl | omega
end Go.Proofs.Ytgmpajfhjnojiaa
namespace Go.Proofs.Ytgmpajfhjnojiaa.fnExactFormulaOf
open Go.ChangeShapes Go.WideShapes Go.ChangeAt Go.RowKit
open Go.ChangeMaps (open_string shut_string)
theorem own : ownKnob Try.prog.godebug = none:=by kernel_rfl
theorem laidOut : laidOutB Try.prog = true:=by kernel_rfl
set_option maxRecDepth 100000 in
set_option maxHeartbeats 2000000 in
theorem walk {H : Type} (enc : TypeId × Value→H) (v0 : Value) (d0 : DataW H) (p0 : List MemPlace) (base : Nat) (w : World)
    (ok0 : Value.okWide Try.prog w .any base 40 v0) (h0 : DataW.Trod enc Try.prog w 0 (fun _=>true) true 40 v0 d0 p0)
    (sz : (DataW.weightsEach Try.prog [40] [d0]).all (·≤reachBytes) = true) :
    Calls Try.prog 5 #[v0] w fun e w'=>e = .returned (.bool true)∧Below w.heap.size w w':=by
  obtain ⟨a0,r0,i0⟩:=argD_sl (base:=base) opD_Nods Try.underlying40 h0 ok0
  exact run_law (lawFormulaOf_m a0 i0) (ArgsR.cons r0 ArgsR.nil)
set_option maxRecDepth 100000 in
theorem lifted (os : Os) (started : os.Started) (H : Type) (enc : TypeId × Value→H) :
    ReturnsInHanded {} Try.checked os 5 .any (Rows.fnExactFormulaOfSpec.pre6 enc Try.prog Try.f5 Rows.fnExactFormulaOfRow.domain false) (Rows.fnExactFormulaOfSpec.post enc Try.prog Try.f5 false true false false):=by
  refine returnsInHanded_of_change_sized (C:=Try.checked) own started (by kernel_rfl) Try.func5
    (ChangeSpec.witness6 (enc:=enc) (C:=Try.checked) false ⟨#[],#[.slice none 0 0],[]⟩ 8 (by kernel_rfl) (by kernel_rfl) (by kernel_rfl) (by kernel_rfl)) ?_
  intro W base args ds gs before hval0 hW hcnd0 hsz0 hholds
  have hval : ∀ (j : Nat) t v,Try.f5.params[j]? = some t→args[j]? = some v→Value.okWide Try.prog W .any base t v:=hval0
  have hsz : (DataW.weightsEach Try.prog (Try.f5.params.toList ++ Rows.fnExactFormulaOfSpec.plain.varTypes Try.prog) (ds ++ gs)).all (·≤reachBytes) = true:=hsz0
  have hW':=hW
  obtain ⟨p,q,hA0,hV,rfl,hfz,hnd⟩:=hW
  have hA : DataW.TrodAll enc Try.prog W 0 (fun _=>true) true Try.f5.params.toList args.toList ds p:=hA0
  rw [Try.params5] at hA hval hsz
  obtain ⟨v0,vs0,d0,ds0,p0,q0,hargs,rfl,rfl,h0,r0⟩:=trodAll_cons hA
  obtain ⟨rfl,rfl,rfl⟩:=trodAll_nil r0
  obtain rfl : args = #[v0]:=by cases args;simp_all
  obtain ⟨rfl,rfl⟩:=trodVars_none hV
  have lt0 : ∀ x ∈ p0,x.block < W.heap.size:=by obtain ⟨m,hm⟩:=h0;exact DataW.trod_lt m _ _ _ hm
  refine (walk enc v0 d0 p0 base W (hval 0 40 v0 rfl rfl) h0 hsz).mono fun e W' ⟨he,bel⟩=>?_
  subst he
  exact ⟨_,rfl,_,_,_,[],_,[],hW',trodAll_mk1 (shut_bool Try.underlying4 _),(trodAll_cons_mk (Below.trod laidOut (by kernel_rfl) (of_decide_eq_true (by kernel_rfl)) h0 bel lt0) trodAll_mk0),rfl,bel.frame _,fun h=>by cases h⟩
theorem over : Rows.fnExactFormulaOfRow.holds Try.pinned (OpenSpec.ofChange Rows.fnExactFormulaOfSpec) :=
  OpenClaim.holds_of_wide 5 Try.f5 rfl rfl rfl rfl rfl rfl rfl ⟨rfl,rfl,rfl,rfl,rfl⟩ rfl rfl rfl rfl rfl (by kernel_rfl) Try.func5 (by kernel_rfl)
    (of_decide_eq_true (by kernel_rfl)) (by unfold Func.isWrapper;first | (rw [if_pos (by decide +kernel)];kernel_rfl) | (rw [if_neg (by decide +kernel)];exact ⟨rfl,rfl⟩))
    (fun os started H enc _=>lifted os started H enc)
theorem proved : Rows.FnExactFormulaOfSaid:=over
end Go.Proofs.Ytgmpajfhjnojiaa.fnExactFormulaOf

