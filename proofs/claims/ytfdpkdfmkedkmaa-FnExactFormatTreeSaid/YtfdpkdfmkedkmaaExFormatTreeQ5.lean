/- Proved: for every input the law 'FnExactFormatTree' returns true and its arguments read behind the call as before: part 5 of its proof. No condition. -/
import Derived.WalkKit
import Derived.Lib.Hide
import Derived.WalkSpells
import Derived.Laws.OwnMore
import Derived.Deep.AppendLies
import Derived.Deep.Draws
import Derived.Maps.AppendAt
import Derived.RegionTactic
import Derived.OwnWalk
import Derived.Below
import Derived.Laws.AppendOwnNone
import Derived.Deep.QuietTactic
import Derived.BigQuiet
import Derived.StillTailTactics
import Derived.Laws.Cells
import Derived.Laws.IdiomCopy
import Derived.ChangeKeysEq
import Derived.Laws.BytesArg
import Derived.Laws.StructEq
import Derived.Laws.Tables
import Derived.Great.BuildSlice
import Derived.StillTail
import Derived.OrdersHeld
import Derived.Test.YtfdpkdfmkedkmaaProg
import Derived.Deep.Slices
import Derived.Deep.Fields
import Derived.ChangeSame
import Derived.OpenShut
import Derived.Laws.IdiomStrings
import Derived.Test.YtfdpkdfmkedkmaaRows
import Derived.ProofKit
import Derived.ShutString
import Derived.ChangeOld
import Derived.SizedLaws
import Derived.Test.YtfdpkdfmkedkmaaExFormatTreeQ4
set_option linter.unusedVariables false
set_option linter.unusedSimpArgs false
namespace Go.Proofs.Ytfdpkdfmkedkmaa
open List (length_take length_drop length_append map_cons map_nil length_map length_cons length_nil length_set length_replicate)
open Go.RowKit
set_option maxRecDepth 100000
def letB (b : Int) : Bool:=decide (97≤b∧b≤122) || decide (65≤b∧b≤90)
def digB (b : Int) : Bool:=decide (48≤b∧b≤57)
theorem isLetter_m (b : Int) : Meets Try.prog 92 [(false,[.sc (.int .u8 b)])] [(false,[.sc (.bool (letB b))],true)]:=by
  refine meets_upf Try.func92 u_impl_isLetter_g rfl ?_;simp only [u_impl_isLetter_u]
  repeat' (first | (with_reducible first | refine jn_in ?_ | refine cl_ok (by assumption) rfl ?_ | refine cl_okP (by assumption) rfl ?_ | refine br_if (fun hbr=>?_) fun hbr=>?_ | refine br_ifn (fun hbr=>?_) fun hbr=>?_ | refine br_nb (fun hbr=>?_) fun hbr=>?_ | refine br_b (fun hbr=>?_) fun hbr=>?_) | simp (disch:=first | omega | (simp only [length_take,length_drop,length_append,map_cons,map_nil,length_map,length_cons,length_nil,length_set,length_replicate];omega) | (simp only [length_cons,length_nil,Nat.zero_add,Nat.reduceAdd])) only [go_sem,↓reduceIte,Nat.reduceAdd,Int.reduceNeg,Int.reduceAdd,Int.reduceSub,Int.reduceMul,Int.reduceLT,Int.reduceLE,Int.reduceEq,Int.reduceToNat,Nat.reduceBEq,true_and])
  all_goals (refine ret_b ?_;unfold letB;rw [Bool.eq_iff_iff];simp;omega)
theorem l1Letter_m (b : Int) : Meets Try.prog 94 [(false,[.sc (.int .u8 b)])] [(false,[.sc (.bool (letB b))],true)]:=by
  refine meets_upf Try.func94 u_spec_l1Letter_g rfl ?_;simp only [u_spec_l1Letter_u]
  repeat' (first | (with_reducible first | refine jn_in ?_ | refine cl_ok (by assumption) rfl ?_ | refine cl_okP (by assumption) rfl ?_ | refine br_if (fun hbr=>?_) fun hbr=>?_ | refine br_ifn (fun hbr=>?_) fun hbr=>?_ | refine br_nb (fun hbr=>?_) fun hbr=>?_ | refine br_b (fun hbr=>?_) fun hbr=>?_) | simp (disch:=first | omega | (simp only [length_take,length_drop,length_append,map_cons,map_nil,length_map,length_cons,length_nil,length_set,length_replicate];omega) | (simp only [length_cons,length_nil,Nat.zero_add,Nat.reduceAdd])) only [go_sem,↓reduceIte,Nat.reduceAdd,Int.reduceNeg,Int.reduceAdd,Int.reduceSub,Int.reduceMul,Int.reduceLT,Int.reduceLE,Int.reduceEq,Int.reduceToNat,Nat.reduceBEq,true_and])
  all_goals (refine ret_b ?_;unfold letB;rw [Bool.eq_iff_iff];simp;omega)
theorem isDigit_m (b : Int) : Meets Try.prog 93 [(false,[.sc (.int .u8 b)])] [(false,[.sc (.bool (digB b))],true)]:=by
  refine meets_upf Try.func93 u_impl_isDigit_g rfl ?_;simp only [u_impl_isDigit_u]
  repeat' (first | (with_reducible first | refine jn_in ?_ | refine cl_ok (by assumption) rfl ?_ | refine cl_okP (by assumption) rfl ?_ | refine br_if (fun hbr=>?_) fun hbr=>?_ | refine br_ifn (fun hbr=>?_) fun hbr=>?_ | refine br_nb (fun hbr=>?_) fun hbr=>?_ | refine br_b (fun hbr=>?_) fun hbr=>?_) | simp (disch:=first | omega | (simp only [length_take,length_drop,length_append,map_cons,map_nil,length_map,length_cons,length_nil,length_set,length_replicate];omega) | (simp only [length_cons,length_nil,Nat.zero_add,Nat.reduceAdd])) only [go_sem,↓reduceIte,Nat.reduceAdd,Int.reduceNeg,Int.reduceAdd,Int.reduceSub,Int.reduceMul,Int.reduceLT,Int.reduceLE,Int.reduceEq,Int.reduceToNat,Nat.reduceBEq,true_and])
  all_goals (refine ret_b ?_;unfold digB;rw [Bool.eq_iff_iff];simp;omega)
theorem l1Digit_m (b : Int) : Meets Try.prog 95 [(false,[.sc (.int .u8 b)])] [(false,[.sc (.bool (digB b))],true)]:=by
  refine meets_upf Try.func95 u_spec_l1Digit_g rfl ?_;simp only [u_spec_l1Digit_u]
  repeat' (first | (with_reducible first | refine jn_in ?_ | refine cl_ok (by assumption) rfl ?_ | refine cl_okP (by assumption) rfl ?_ | refine br_if (fun hbr=>?_) fun hbr=>?_ | refine br_ifn (fun hbr=>?_) fun hbr=>?_ | refine br_nb (fun hbr=>?_) fun hbr=>?_ | refine br_b (fun hbr=>?_) fun hbr=>?_) | simp (disch:=first | omega | (simp only [length_take,length_drop,length_append,map_cons,map_nil,length_map,length_cons,length_nil,length_set,length_replicate];omega) | (simp only [length_cons,length_nil,Nat.zero_add,Nat.reduceAdd])) only [go_sem,↓reduceIte,Nat.reduceAdd,Int.reduceNeg,Int.reduceAdd,Int.reduceSub,Int.reduceMul,Int.reduceLT,Int.reduceLE,Int.reduceEq,Int.reduceToNat,Nat.reduceBEq,true_and])
  all_goals (refine ret_b ?_;unfold digB;rw [Bool.eq_iff_iff];simp;omega)
def resL : List ByteArray:=[⟨#[105,102]⟩,⟨#[101,108,115,101]⟩,⟨#[102,111,114]⟩,⟨#[105,110]⟩,⟨#[119,104,105,108,101]⟩,⟨#[98,114,101,97,107]⟩,⟨#[110,101,120,116]⟩,⟨#[102,117,110,99,116,105,111,110]⟩,⟨#[114,101,116,117,114,110]⟩,⟨#[84,82,85,69]⟩,⟨#[70,65,76,83,69]⟩,⟨#[78,85,76,76]⟩,⟨#[78,65]⟩,
  ⟨#[78,65,95,110,117,109,98,101,114,95]⟩,⟨#[78,65,95,99,104,97,114,97,99,116,101,114,95]⟩,⟨#[116,114,121,67,97,116,99,104]⟩,⟨#[119,105,116,104,67,97,108,108,105,110,103,72,97,110,100,108,101,114,115]⟩,⟨#[119,105,116,104,82,101,115,116,97,114,116]⟩,⟨#[105,110,118,111,107,101,82,101,115,116,97,114,116]⟩,⟨#[109,105,115,115,105,110,103]⟩,⟨#[111,110,46,101,120,105,116]⟩,⟨#[85,115,101,77,101,116,104,111,100]⟩,⟨#[78,101,120,116,77,101,116,104,111,100]⟩]
def resB (s : ByteArray) : Bool:=hasB resL s
theorem l1Reserved_m (s : ByteArray) : Meets Try.prog 96 [(false,[.sc (.string s)])] [(false,[.sc (.bool (resB s))],true)]:=by
  have h:=l1Has_m 9 resL s (by decide)
  simp only [resL,List.map_cons,List.map_nil,encS] at h
  refine meets_upf Try.func96 u_spec_l1Reserved_g rfl ?_;simp only [u_spec_l1Reserved_u]
  repeat' (first | (with_reducible first | refine jn_in ?_ | refine cl_ok (by assumption) rfl ?_ | refine cl_okP (by assumption) rfl ?_ | refine br_if (fun hbr=>?_) fun hbr=>?_ | refine br_ifn (fun hbr=>?_) fun hbr=>?_ | refine br_nb (fun hbr=>?_) fun hbr=>?_ | refine br_b (fun hbr=>?_) fun hbr=>?_) | simp (disch:=first | omega | (simp only [length_take,length_drop,length_append,map_cons,map_nil,length_map,length_cons,length_nil,length_set,length_replicate];omega) | (simp only [length_cons,length_nil,Nat.zero_add,Nat.reduceAdd])) only [go_sem,↓reduceIte,Nat.reduceAdd,Int.reduceNeg,Int.reduceAdd,Int.reduceSub,Int.reduceMul,Int.reduceLT,Int.reduceLE,Int.reduceEq,Int.reduceToNat,Nat.reduceBEq,true_and])
  rfl
theorem isReserved_m (s : ByteArray) : Meets Try.prog 91 [(false,[.sc (.string s)])] [(false,[.sc (.bool (resB s))],true)]:=by
  refine meets_upf Try.func91 u_impl_isReserved_g rfl ?_;simp only [u_impl_isReserved_u]
  repeat' (first | (with_reducible first | refine jn_in ?_ | refine cl_ok (by assumption) rfl ?_ | refine cl_okP (by assumption) rfl ?_ | refine br_if (fun hbr=>?_) fun hbr=>?_ | refine br_ifn (fun hbr=>?_) fun hbr=>?_ | refine br_nb (fun hbr=>?_) fun hbr=>?_ | refine br_b (fun hbr=>?_) fun hbr=>?_) | simp (disch:=first | omega | (simp only [length_take,length_drop,length_append,map_cons,map_nil,length_map,length_cons,length_nil,length_set,length_replicate];omega) | (simp only [length_cons,length_nil,Nat.zero_add,Nat.reduceAdd])) only [go_sem,↓reduceIte,Nat.reduceAdd,Int.reduceNeg,Int.reduceAdd,Int.reduceSub,Int.reduceMul,Int.reduceLT,Int.reduceLE,Int.reduceEq,Int.reduceToNat,Nat.reduceBEq,u_impl_isReserved_j0])
  all_goals refine ret_b ?_
  all_goals first
    | contradiction
    | (rw [Bool.eq_false_iff];unfold resB;rw [ne_eq,hasB_iff];simp only [resL,List.mem_cons,List.not_mem_nil,or_false,not_or];simp only [*,not_false_eq_true,and_self];done)
    | (unfold resB;rw [hasB_iff];simp only [resL,List.mem_cons, *,true_or,or_true];done)
    | skip
def synC (s : ByteArray) (i : Nat) : Bool:=letB (byteAt s i) || (decide (byteAt s i = 46) || (!decide (i = 0) && (digB (byteAt s i) || decide (byteAt s i = 95))))
def synI (s : ByteArray) (i : Nat) : Bool:=letB (byteAt s i) || (digB (byteAt s i) || (decide (byteAt s i = 46) || decide (byteAt s i = 95)))
def synB (s : ByteArray) : Bool:=nameB s && (!resB s && (allB (synC s) s.size && !(decide (byteAt s 0 = 46) && (decide (1 < s.size) && digB (byteAt s 1)))))
theorem synB_no {s : ByteArray} {i : Nat} (h : i < s.size) (hp : synC s i = false) : synB s = false:=by unfold synB;rw [allB_no h hp];simp
theorem synB_name {s : ByteArray} (h : synB s = true) : nameB s = true:=by unfold synB at h;simp only [Bool.and_eq_true] at h;exact h.1
set_option maxHeartbeats 2000000 in
theorem specSyn_m (s : ByteArray) (hs : s.size≤100000000000) : Meets Try.prog 88 [(false,[.sc (.string s)])] [(false,[.sc (.bool (synB s))],true)]:=by
  have h1:=fun i=>l1Letter_m (byteAt s i)
  have h2:=fun i=>l1Digit_m (byteAt s i)
  have h3:=specName_m s (by omega)
  have h4:=l1Reserved_m s
  refine meets_upf Try.func88 u_spec_IsSyntacticName_g rfl ?_;simp only [u_spec_IsSyntacticName_u]
  simp (disch:=first | omega | (simp only [length_take,length_drop,length_append,map_cons,map_nil,length_map,length_cons,length_nil,length_set,length_replicate];omega) | (simp only [length_cons,length_nil,Nat.zero_add,Nat.reduceAdd])) only [go_sem,↓reduceIte,Nat.reduceAdd,Int.reduceNeg,Int.reduceAdd,Int.reduceSub,Int.reduceMul,Int.reduceLT,Int.reduceLE,Int.reduceEq,Int.reduceToNat,Nat.reduceBEq,nat1,true_and]
  refine lp (fun i : Nat=>[.sc (.int .i64 i)]) (fun i=>i≤s.size∧allB (synC s) i = true) (fun i=>s.size - i) 0 rfl ⟨by omega,rfl⟩ ?_
  rintro i ⟨hi,hb⟩
  have h1i:=h1 i
  have h2i:=h2 i
  have h20:=h2 1
  simp only [u_spec_IsSyntacticName_l1]
  by_cases hlt : i < s.size
  · repeat' (first | (with_reducible first | refine jn_in ?_ | refine cl_ok (by assumption) rfl ?_ | refine cl_okP (by assumption) rfl ?_ | refine br_if (fun hbr=>?_) fun hbr=>?_ | refine br_ifn (fun hbr=>?_) fun hbr=>?_ | refine br_nb (fun hbr=>?_) fun hbr=>?_ | refine br_b (fun hbr=>?_) fun hbr=>?_) | simp (disch:=first | omega | (simp only [length_take,length_drop,length_append,map_cons,map_nil,length_map,length_cons,length_nil,length_set,length_replicate];omega) | (simp only [length_cons,length_nil,Nat.zero_add,Nat.reduceAdd])) only [go_sem,↓reduceIte,Nat.reduceAdd,Int.reduceNeg,Int.reduceAdd,Int.reduceSub,Int.reduceMul,Int.reduceLT,Int.reduceLE,Int.reduceEq,Int.reduceToNat,Nat.reduceBEq,nat1,u_spec_IsSyntacticName_j0])
    all_goals first | omega | exact ret_b (synB_no (i:=i) hlt (by (first | (simp [-List.getD_eq_getElem?_getD,synC, *];done) | (simp_all [-List.getD_eq_getElem?_getD,synC];done) | (simp [-List.getD_eq_getElem?_getD,synC, *];omega) | (simp_all [-List.getD_eq_getElem?_getD,synC];omega) | omega))) | exact ⟨i + 1,rfl,⟨by omega,allB_step hb (by (first | (simp [-List.getD_eq_getElem?_getD,synC, *];done) | (simp_all [-List.getD_eq_getElem?_getD,synC];done) | (simp [-List.getD_eq_getElem?_getD,synC, *];omega) | (simp_all [-List.getD_eq_getElem?_getD,synC];omega) | omega))⟩,by omega⟩ | skip
  · obtain rfl : i = s.size:=by omega
    simp (disch:=first | omega | (simp only [length_take,length_drop,length_append,map_cons,map_nil,length_map,length_cons,length_nil,length_set,length_replicate];omega) | (simp only [length_cons,length_nil,Nat.zero_add,Nat.reduceAdd])) only [go_sem,↓reduceIte,Nat.reduceAdd,Int.reduceNeg,Int.reduceAdd,Int.reduceSub,Int.reduceMul,Int.reduceLT,Int.reduceLE,Int.reduceEq,Int.reduceToNat,Nat.reduceBEq,nat1,true_and]
    refine br_if (fun hbr=>?_) (fun hbr=>?_)
    · omega
    simp (disch:=first | omega | (simp only [length_take,length_drop,length_append,map_cons,map_nil,length_map,length_cons,length_nil,length_set,length_replicate];omega) | (simp only [length_cons,length_nil,Nat.zero_add,Nat.reduceAdd])) only [go_sem,↓reduceIte,Nat.reduceAdd,Int.reduceNeg,Int.reduceAdd,Int.reduceSub,Int.reduceMul,Int.reduceLT,Int.reduceLE,Int.reduceEq,Int.reduceToNat,Nat.reduceBEq,nat1,true_and]
    refine cl_ok h3 rfl ?_
    cases hn : nameB s
    · simp (disch:=first | omega | (simp only [length_take,length_drop,length_append,map_cons,map_nil,length_map,length_cons,length_nil,length_set,length_replicate];omega) | (simp only [length_cons,length_nil,Nat.zero_add,Nat.reduceAdd])) only [go_sem,↓reduceIte,Nat.reduceAdd,Int.reduceNeg,Int.reduceAdd,Int.reduceSub,Int.reduceMul,Int.reduceLT,Int.reduceLE,Int.reduceEq,Int.reduceToNat,Nat.reduceBEq,nat1,true_and]
      exact ret_b (by unfold synB;rw [hn];rfl)
    have hsz:=nameB_size hn
    rcases Nat.lt_or_ge 1 s.size with h1s | h1s
    · repeat' (first | (with_reducible first | refine jn_in ?_ | refine cl_ok (by assumption) rfl ?_ | refine cl_okP (by assumption) rfl ?_ | refine br_if (fun hbr=>?_) fun hbr=>?_ | refine br_ifn (fun hbr=>?_) fun hbr=>?_ | refine br_nb (fun hbr=>?_) fun hbr=>?_ | refine br_b (fun hbr=>?_) fun hbr=>?_) | simp (disch:=first | omega | (simp only [length_take,length_drop,length_append,map_cons,map_nil,length_map,length_cons,length_nil,length_set,length_replicate];omega) | (simp only [length_cons,length_nil,Nat.zero_add,Nat.reduceAdd])) only [go_sem,↓reduceIte,Nat.reduceAdd,Int.reduceNeg,Int.reduceAdd,Int.reduceSub,Int.reduceMul,Int.reduceLT,Int.reduceLE,Int.reduceEq,Int.reduceToNat,Nat.reduceBEq,nat1,true_and])
      all_goals first | omega | (refine ret_b ?_;unfold synB;rw [hn,hb];simp_all)
      all_goals (first | omega | assumption | contradiction | (intro hh;omega) | (left;omega) | (right;omega) | (right;assumption) | (left;assumption))
    · repeat' (first | (with_reducible first | refine jn_in ?_ | refine cl_ok (by assumption) rfl ?_ | refine cl_okP (by assumption) rfl ?_ | refine br_if (fun hbr=>?_) fun hbr=>?_ | refine br_ifn (fun hbr=>?_) fun hbr=>?_ | refine br_nb (fun hbr=>?_) fun hbr=>?_ | refine br_b (fun hbr=>?_) fun hbr=>?_) | simp (disch:=first | omega | (simp only [length_take,length_drop,length_append,map_cons,map_nil,length_map,length_cons,length_nil,length_set,length_replicate];omega) | (simp only [length_cons,length_nil,Nat.zero_add,Nat.reduceAdd])) only [go_sem,↓reduceIte,Nat.reduceAdd,Int.reduceNeg,Int.reduceAdd,Int.reduceSub,Int.reduceMul,Int.reduceLT,Int.reduceLE,Int.reduceEq,Int.reduceToNat,Nat.reduceBEq,nat1,true_and])
      all_goals first | omega | (refine ret_b ?_;unfold synB;rw [hn,hb];simp_all)
      all_goals (first | omega | assumption | contradiction | (intro hh;omega) | (left;omega) | (right;omega) | (right;assumption) | (left;assumption))
theorem synI_C {s : ByteArray} (h0 : 0 < s.size) (h : letB (byteAt s 0) = true ∨ byteAt s 0 = 46) {n : Nat} : allB (synI s) n = allB (synC s) n:=by
  refine allB_congr fun i hi=>?_
  unfold synI synC
  by_cases hz : i = 0
  · subst hz
    rcases h with h | h
    · rw [h];rfl
    · simp [h]
  · simp only [hz,decide_false,Bool.not_false,Bool.true_and]
    cases letB (byteAt s i) <;> cases digB (byteAt s i) <;> cases decide (byteAt s i = 46) <;> simp
set_option maxHeartbeats 2000000 in
theorem implSyn_m (s : ByteArray) (hs : s.size≤100000000000) : Meets Try.prog 82 [(false,[.sc (.string s)])] [(false,[.sc (.bool (synB s))],true)]:=by
  have h1:=fun i=>isLetter_m (byteAt s i)
  have h2:=fun i=>isDigit_m (byteAt s i)
  have h3:=implName_m s (by omega)
  have h4:=isReserved_m s
  cases hn : nameB s
  · rw [hn] at h3
    refine meets_upf Try.func82 u_impl_IsSyntacticName_g rfl ?_;simp only [u_impl_IsSyntacticName_u]
    repeat' (first | (with_reducible first | refine jn_in ?_ | refine cl_ok (by assumption) rfl ?_ | refine cl_okP (by assumption) rfl ?_ | refine br_if (fun hbr=>?_) fun hbr=>?_ | refine br_ifn (fun hbr=>?_) fun hbr=>?_ | refine br_nb (fun hbr=>?_) fun hbr=>?_ | refine br_b (fun hbr=>?_) fun hbr=>?_) | simp (disch:=first | omega | (simp only [length_take,length_drop,length_append,map_cons,map_nil,length_map,length_cons,length_nil,length_set,length_replicate];omega) | (simp only [length_cons,length_nil,Nat.zero_add,Nat.reduceAdd])) only [go_sem,↓reduceIte,Nat.reduceAdd,Int.reduceNeg,Int.reduceAdd,Int.reduceSub,Int.reduceMul,Int.reduceLT,Int.reduceLE,Int.reduceEq,Int.reduceToNat,Nat.reduceBEq,u_impl_IsSyntacticName_j3])
    exact ret_b (by unfold synB;rw [hn];rfl)
  rw [hn] at h3
  have hsz:=nameB_size hn
  have h10:=h1 0
  have h21:=h2 1
  have hcg:=@synI_C s (by omega)
  have key : ∀ c0 c1 c2,(letB (byteAt s 0) = true ∨ byteAt s 0 = 46)→resB s = false→(byteAt s 0 = 46→1 < s.size→digB (byteAt s 1) = false)→V Try.prog (isRes [(false,[.sc (.bool (synB s))],true)]) (.loop [0] u_impl_IsSyntacticName_l1) [] [.sc (.int .i64 0),c0,c1,c2,.sc (.string s)]:=by
    intro c0 c1 c2 k1 k2 k3
    have hcg:=@synI_C s (by omega) k1
    refine lp (fun i : Nat=>[.sc (.int .i64 i)]) (fun i=>i≤s.size∧allB (synI s) i = true) (fun i=>s.size - i) 0 rfl ⟨by omega,rfl⟩ ?_
    rintro i ⟨hi,hb⟩
    have h1i:=h1 i
    have h2i:=h2 i
    simp only [u_impl_IsSyntacticName_l1]
    by_cases hlt : i < s.size
    · repeat' (first | (with_reducible first | refine jn_in ?_ | refine cl_ok (by assumption) rfl ?_ | refine cl_okP (by assumption) rfl ?_ | refine br_if (fun hbr=>?_) fun hbr=>?_ | refine br_ifn (fun hbr=>?_) fun hbr=>?_ | refine br_nb (fun hbr=>?_) fun hbr=>?_ | refine br_b (fun hbr=>?_) fun hbr=>?_) | simp (disch:=first | omega | (simp only [length_take,length_drop,length_append,map_cons,map_nil,length_map,length_cons,length_nil,length_set,length_replicate];omega) | (simp only [length_cons,length_nil,Nat.zero_add,Nat.reduceAdd])) only [go_sem,↓reduceIte,Nat.reduceAdd,Int.reduceNeg,Int.reduceAdd,Int.reduceSub,Int.reduceMul,Int.reduceLT,Int.reduceLE,Int.reduceEq,Int.reduceToNat,Nat.reduceBEq,nat1,u_impl_IsSyntacticName_j0])
      all_goals first | omega | exact ⟨i + 1,rfl,⟨by omega,allB_step hb (by (first | (simp [-List.getD_eq_getElem?_getD,synI, *];done) | (simp_all [-List.getD_eq_getElem?_getD,synI];done) | (simp [-List.getD_eq_getElem?_getD,synI, *];omega) | (simp_all [-List.getD_eq_getElem?_getD,synI];omega) | omega))⟩,by omega⟩ | skip
      refine ret_b ?_
      unfold synB
      rw [← hcg (n:=s.size),allB_no hlt (by (first | (simp [-List.getD_eq_getElem?_getD,synI, *];done) | (simp_all [-List.getD_eq_getElem?_getD,synI];done) | (simp [-List.getD_eq_getElem?_getD,synI, *];omega) | (simp_all [-List.getD_eq_getElem?_getD,synI];omega) | omega))];simp
    · obtain rfl : i = s.size:=by omega
      simp (disch:=first | omega | (simp only [length_take,length_drop,length_append,map_cons,map_nil,length_map,length_cons,length_nil,length_set,length_replicate];omega) | (simp only [length_cons,length_nil,Nat.zero_add,Nat.reduceAdd])) only [go_sem,↓reduceIte,Nat.reduceAdd,Int.reduceNeg,Int.reduceAdd,Int.reduceSub,Int.reduceMul,Int.reduceLT,Int.reduceLE,Int.reduceEq,Int.reduceToNat,Nat.reduceBEq,nat1,true_and]
      refine br_if (fun hbr=>absurd hbr (by omega)) (fun hbr=>?_)
      repeat' (first | (with_reducible first | refine jn_in ?_ | refine cl_ok (by assumption) rfl ?_ | refine cl_okP (by assumption) rfl ?_ | refine br_if (fun hbr=>?_) fun hbr=>?_ | refine br_ifn (fun hbr=>?_) fun hbr=>?_ | refine br_nb (fun hbr=>?_) fun hbr=>?_ | refine br_b (fun hbr=>?_) fun hbr=>?_) | simp (disch:=first | omega | (simp only [length_take,length_drop,length_append,map_cons,map_nil,length_map,length_cons,length_nil,length_set,length_replicate];omega) | (simp only [length_cons,length_nil,Nat.zero_add,Nat.reduceAdd])) only [go_sem,↓reduceIte,Nat.reduceAdd,Int.reduceNeg,Int.reduceAdd,Int.reduceSub,Int.reduceMul,Int.reduceLT,Int.reduceLE,Int.reduceEq,Int.reduceToNat,Nat.reduceBEq,nat1,true_and])
      · refine ret_b ?_
        rw [hcg] at hb
        unfold synB;rw [hn,hb,k2]
        by_cases e1 : byteAt s 0 = 46
        · by_cases e2 : 1 < s.size
          · simp [e1,e2,k3 e1 e2]
          · simp [e2]
        · simp [e1]
  refine meets_upf Try.func82 u_impl_IsSyntacticName_g rfl ?_;simp only [u_impl_IsSyntacticName_u]
  repeat' (first | (with_reducible first | refine jn_in ?_ | refine cl_ok (by assumption) rfl ?_ | refine cl_okP (by assumption) rfl ?_ | refine br_if (fun hbr=>?_) fun hbr=>?_ | refine br_ifn (fun hbr=>?_) fun hbr=>?_ | refine br_nb (fun hbr=>?_) fun hbr=>?_ | refine br_b (fun hbr=>?_) fun hbr=>?_) | simp (disch:=first | omega | (simp only [length_take,length_drop,length_append,map_cons,map_nil,length_map,length_cons,length_nil,length_set,length_replicate];omega) | (simp only [length_cons,length_nil,Nat.zero_add,Nat.reduceAdd])) only [go_sem,↓reduceIte,Nat.reduceAdd,Int.reduceNeg,Int.reduceAdd,Int.reduceSub,Int.reduceMul,Int.reduceLT,Int.reduceLE,Int.reduceEq,Int.reduceToNat,Nat.reduceBEq,nat1,u_impl_IsSyntacticName_j3,u_impl_IsSyntacticName_j2])
  all_goals first
    | omega
    | (refine key _ _ _ ?_ ‹resB s = false› ?_
       · first | exact .inl ‹letB _ = true› | (right;omega)
       · intro e1 e2;first | omega | exact ‹digB _ = false›)
    | skip
  all_goals first
    | exact ret_b (synB_no (i:=0) (by omega) (by (first | (simp [-List.getD_eq_getElem?_getD,synC, *];done) | (simp_all [-List.getD_eq_getElem?_getD,synC];done) | (simp [-List.getD_eq_getElem?_getD,synC, *];omega) | (simp_all [-List.getD_eq_getElem?_getD,synC];omega) | omega)))
    | (refine ret_b ?_;unfold synB;rw [hn];simp_all)
  all_goals (intro _;exact ⟨by omega,by omega⟩)
def fmtName (s : ByteArray) : ByteArray:=if nameB s = true then (if synB s = true then s else ⟨#[96]⟩ ++ s ++ ⟨#[96]⟩) else ⟨#[]⟩
theorem fmtName_size (s : ByteArray) : (fmtName s).size≤22:=by
  unfold fmtName
  split
  · rename_i h
    have:=nameB_size h
    split
    · omega
    · simp only [ByteArray.size_append]
      have e : (⟨#[96]⟩ : ByteArray).size = 1:=rfl
      omega
  · exact Nat.zero_le _
theorem implFmtName_m (s : ByteArray) (hs : s.size≤100000000000) : Meets Try.prog 57 [(false,[.sc (.string s)])] [(false,[.sc (.string (fmtName s))],true)]:=by
  have h1:=implSyn_m s hs
  have h2:=implName_m s (by omega)
  have h3:=@synB_name s
  have hsz:=@nameB_size s
  have e : (⟨#[96]⟩ : ByteArray).size = 1:=rfl
  unfold fmtName
  cases hn : nameB s
  · rw [hn] at h2 h3
    have hy : synB s = false:=by cases h : synB s <;> simp_all
    rw [hy] at h1
    refine meets_upf Try.func57 u_impl_FormatName_g rfl ?_;simp only [u_impl_FormatName_u]
    repeat' (first | (with_reducible first | refine jn_in ?_ | refine cl_ok (by assumption) rfl ?_ | refine cl_okP (by assumption) rfl ?_ | refine br_if (fun hbr=>?_) fun hbr=>?_ | refine br_ifn (fun hbr=>?_) fun hbr=>?_ | refine br_nb (fun hbr=>?_) fun hbr=>?_ | refine br_b (fun hbr=>?_) fun hbr=>?_) | simp (disch:=first | omega | (simp only [length_take,length_drop,length_append,map_cons,map_nil,length_map,length_cons,length_nil,length_set,length_replicate];omega) | (simp only [length_cons,length_nil,Nat.zero_add,Nat.reduceAdd])) only [go_sem,↓reduceIte,Nat.reduceAdd,Int.reduceNeg,Int.reduceAdd,Int.reduceSub,Int.reduceMul,Int.reduceLT,Int.reduceLE,Int.reduceEq,Int.reduceToNat,Nat.reduceBEq,true_and])
    rfl
  · rw [hn] at h2
    have hsz:=hsz hn
    cases hy : synB s
    · rw [hy] at h1
      refine meets_upf Try.func57 u_impl_FormatName_g rfl ?_;simp only [u_impl_FormatName_u]
      repeat' (first | (with_reducible first | refine jn_in ?_ | refine cl_ok (by assumption) rfl ?_ | refine cl_okP (by assumption) rfl ?_ | refine br_if (fun hbr=>?_) fun hbr=>?_ | refine br_ifn (fun hbr=>?_) fun hbr=>?_ | refine br_nb (fun hbr=>?_) fun hbr=>?_ | refine br_b (fun hbr=>?_) fun hbr=>?_) | simp (disch:=first | omega | (simp only [length_take,length_drop,length_append,map_cons,map_nil,length_map,length_cons,length_nil,length_set,length_replicate];omega) | (simp only [length_cons,length_nil,Nat.zero_add,Nat.reduceAdd])) only [go_sem,↓reduceIte,Nat.reduceAdd,Int.reduceNeg,Int.reduceAdd,Int.reduceSub,Int.reduceMul,Int.reduceLT,Int.reduceLE,Int.reduceEq,Int.reduceToNat,Nat.reduceBEq,e_cat (show (⟨#[96]⟩ : ByteArray).size + s.size≤maxLen by unfold maxLen;omega),e_cat (show ((⟨#[96]⟩ : ByteArray) ++ s).size + (⟨#[96]⟩ : ByteArray).size≤maxLen by rw [ByteArray.size_append];unfold maxLen;omega)])
      rfl
    · rw [hy] at h1
      refine meets_upf Try.func57 u_impl_FormatName_g rfl ?_;simp only [u_impl_FormatName_u]
      repeat' (first | (with_reducible first | refine jn_in ?_ | refine cl_ok (by assumption) rfl ?_ | refine cl_okP (by assumption) rfl ?_ | refine br_if (fun hbr=>?_) fun hbr=>?_ | refine br_ifn (fun hbr=>?_) fun hbr=>?_ | refine br_nb (fun hbr=>?_) fun hbr=>?_ | refine br_b (fun hbr=>?_) fun hbr=>?_) | simp (disch:=first | omega | (simp only [length_take,length_drop,length_append,map_cons,map_nil,length_map,length_cons,length_nil,length_set,length_replicate];omega) | (simp only [length_cons,length_nil,Nat.zero_add,Nat.reduceAdd])) only [go_sem,↓reduceIte,Nat.reduceAdd,Int.reduceNeg,Int.reduceAdd,Int.reduceSub,Int.reduceMul,Int.reduceLT,Int.reduceLE,Int.reduceEq,Int.reduceToNat,Nat.reduceBEq,true_and])
      rfl
theorem specFmtName_m (s : ByteArray) (hs : s.size≤100000000000) : Meets Try.prog 72 [(false,[.sc (.string s)])] [(false,[.sc (.string (fmtName s))],true)]:=by
  have h1:=specSyn_m s hs
  have h2:=specName_m s (by omega)
  have hsz:=@nameB_size s
  have e : (⟨#[96]⟩ : ByteArray).size = 1:=rfl
  unfold fmtName
  cases hn : nameB s
  · rw [hn] at h2
    refine meets_upf Try.func72 u_spec_FormatName_g rfl ?_;simp only [u_spec_FormatName_u]
    repeat' (first | (with_reducible first | refine jn_in ?_ | refine cl_ok (by assumption) rfl ?_ | refine cl_okP (by assumption) rfl ?_ | refine br_if (fun hbr=>?_) fun hbr=>?_ | refine br_ifn (fun hbr=>?_) fun hbr=>?_ | refine br_nb (fun hbr=>?_) fun hbr=>?_ | refine br_b (fun hbr=>?_) fun hbr=>?_) | simp (disch:=first | omega | (simp only [length_take,length_drop,length_append,map_cons,map_nil,length_map,length_cons,length_nil,length_set,length_replicate];omega) | (simp only [length_cons,length_nil,Nat.zero_add,Nat.reduceAdd])) only [go_sem,↓reduceIte,Nat.reduceAdd,Int.reduceNeg,Int.reduceAdd,Int.reduceSub,Int.reduceMul,Int.reduceLT,Int.reduceLE,Int.reduceEq,Int.reduceToNat,Nat.reduceBEq,true_and])
    rfl
  · rw [hn] at h2
    have hsz:=hsz hn
    cases hy : synB s
    · rw [hy] at h1
      refine meets_upf Try.func72 u_spec_FormatName_g rfl ?_;simp only [u_spec_FormatName_u]
      repeat' (first | (with_reducible first | refine jn_in ?_ | refine cl_ok (by assumption) rfl ?_ | refine cl_okP (by assumption) rfl ?_ | refine br_if (fun hbr=>?_) fun hbr=>?_ | refine br_ifn (fun hbr=>?_) fun hbr=>?_ | refine br_nb (fun hbr=>?_) fun hbr=>?_ | refine br_b (fun hbr=>?_) fun hbr=>?_) | simp (disch:=first | omega | (simp only [length_take,length_drop,length_append,map_cons,map_nil,length_map,length_cons,length_nil,length_set,length_replicate];omega) | (simp only [length_cons,length_nil,Nat.zero_add,Nat.reduceAdd])) only [go_sem,↓reduceIte,Nat.reduceAdd,Int.reduceNeg,Int.reduceAdd,Int.reduceSub,Int.reduceMul,Int.reduceLT,Int.reduceLE,Int.reduceEq,Int.reduceToNat,Nat.reduceBEq,e_cat (show (⟨#[96]⟩ : ByteArray).size + s.size≤maxLen by unfold maxLen;omega),e_cat (show ((⟨#[96]⟩ : ByteArray) ++ s).size + (⟨#[96]⟩ : ByteArray).size≤maxLen by rw [ByteArray.size_append];unfold maxLen;omega)])
      rfl
    · rw [hy] at h1
      refine meets_upf Try.func72 u_spec_FormatName_g rfl ?_;simp only [u_spec_FormatName_u]
      repeat' (first | (with_reducible first | refine jn_in ?_ | refine cl_ok (by assumption) rfl ?_ | refine cl_okP (by assumption) rfl ?_ | refine br_if (fun hbr=>?_) fun hbr=>?_ | refine br_ifn (fun hbr=>?_) fun hbr=>?_ | refine br_nb (fun hbr=>?_) fun hbr=>?_ | refine br_b (fun hbr=>?_) fun hbr=>?_) | simp (disch:=first | omega | (simp only [length_take,length_drop,length_append,map_cons,map_nil,length_map,length_cons,length_nil,length_set,length_replicate];omega) | (simp only [length_cons,length_nil,Nat.zero_add,Nat.reduceAdd])) only [go_sem,↓reduceIte,Nat.reduceAdd,Int.reduceNeg,Int.reduceAdd,Int.reduceSub,Int.reduceMul,Int.reduceLT,Int.reduceLE,Int.reduceEq,Int.reduceToNat,Nat.reduceBEq,true_and])
      rfl
end Go.Proofs.Ytfdpkdfmkedkmaa

namespace Go.Proofs.Ytfdpkdfmkedkmaa
open List (length_take length_drop length_append map_cons map_nil length_map length_cons length_nil length_set length_replicate)
open Go.RowKit
set_option maxRecDepth 100000
def encU (n : Nat) : List DV:=[.sc (.int .u8 (n : Int))]
def ofN (l : List Nat) : ByteArray:=strOfNums (l.map fun n : Nat=>(n : Int))
theorem ofN_data (l : List Nat) : (ofN l).data.toList = l.map UInt8.ofNat:=by
  unfold ofN;rw [strOfNums_data,List.map_map];rfl
theorem ofN_app (l m : List Nat) : ofN (l ++ m) = ofN l ++ ofN m:=by
  apply ByteArray.ext
  apply Array.ext'
  rw [ByteArray.data_append,Array.toList_append,ofN_data,ofN_data,ofN_data,List.map_append]
theorem ofN_size (l : List Nat) : (ofN l).size = l.length:=by
  unfold ofN;rw [strOfNums_size,List.length_map]
theorem nums_encU (l : List Nat) : numsOf (l.map encU) = some (l.map fun n : Nat=>(n : Int)):=by
  induction l with
  | nil=>rfl
  | cons n l ih=>simp only [List.map_cons,encU,numsOf];rw [ih]
theorem cvB_u {t : Nat} {l : List Nat} : eCvB (some (.sl t 1 (l.map encU))) = some [.sc (.string (ofN l))]:=e_cvB (nums_encU l)
theorem ix_u {t : Nat} {l : List Nat} {kd : IntKind} {z : Int} (h : 0≤z) (h1 : z < l.length) : eIdx 1 (some (.sl t 1 (l.map encU))) (some (.sc (.int kd z))) = some [.sc (.int .u8 (l.getD z.toNat default : Nat))]:=e_idx_map (fun _=>rfl) h h1
theorem st_u {t : Nat} {l : List Nat} {kd : IntKind} {z : Int} {n : Nat} (h : 0≤z) (h1 : z < l.length) : eSet 1 0 (some (.sl t 1 (l.map encU))) (some (.sc (.int kd z))) (some [.sc (.int .u8 (n : Int))]) = some [.sl t 1 ((l.set z.toNat n).map encU)]:=by
  rw [e_set_map (e:=encU) (fun _=>rfl) h h1 rfl,List.map_set];rfl
theorem map_u (l : List Nat) (n : Nat) : l.map encU ++ [[.sc (.int .u8 (n : Int))]] = (l ++ [n]).map encU:=by rw [List.map_append];rfl
theorem byte_mk {s : ByteArray} {i : Nat} (h : i < s.size) : s.extract i (i + 1) = ofN [byteAt s i]:=by
  apply ByteArray.ext
  apply Array.ext'
  rw [ofN_data,ByteArray.data_extract]
  have hd : i < s.data.size:=h
  have hb : byteAt s i = (s.data[i]).toNat:=by unfold byteAt;rw [getElem?_pos s i h];rfl
  rw [hb]
  apply List.ext_getElem
  · simp;omega
  · intro j h1 h2
    simp at h1 h2
    have : j = 0:=by omega
    subst this
    simp
def dgs (m : Nat) : List Nat:=if h : m = 0 then [] else dgs (m / 10) ++ [48 + m % 10]
termination_by m
decreasing_by omega
theorem dgs_zero : dgs 0 = []:=by rw [dgs];simp
theorem dgs_pos {m : Nat} (h : m ≠ 0) : dgs m = dgs (m / 10) ++ [48 + m % 10]:=by rw [dgs,dif_neg h]
theorem dgs_len (k : Nat) : ∀ m,m < 10 ^ k→(dgs m).length≤k:=by
  induction k with
  | zero => intro m h; have : m = 0 := by simpa using h
            subst this;rw [dgs_zero];exact Nat.zero_le _
  | succ k ih =>
    intro m h
    by_cases h0 : m = 0
    · subst h0;rw [dgs_zero];exact Nat.zero_le _
    · rw [dgs_pos h0,List.length_append,List.length_singleton]
      have:=ih (m / 10) (by rw [Nat.pow_succ] at h;omega)
      omega
theorem dgs_len19 {m : Nat} (h : m≤9223372036854775808) : (dgs m).length≤19:=dgs_len 19 m (Nat.lt_of_le_of_lt h (by decide))
def fmtIntL (n : Int) : List Nat:=if n = 0 then [48] else if n < 0 then 45 :: dgs n.natAbs else dgs n.natAbs
def fmtInt (n : Int) : ByteArray:=ofN (fmtIntL n)
theorem fmtIntL_len {n : Int} (h : In64 n) : (fmtIntL n).length≤20:=by
  have h2 : n.natAbs≤9223372036854775808:=by unfold In64 at h;omega
  have:=dgs_len19 h2
  unfold fmtIntL
  split
  · simp
  · split
    · simp;omega
    · omega
theorem absdiv {x : Int} : (x.tdiv 10).natAbs = x.natAbs / 10:=by rw [Int.natAbs_tdiv];rfl
theorem absmod {x : Int} : (x.tmod 10).natAbs = x.natAbs % 10:=by rw [Int.natAbs_tmod];rfl
def digS : ByteArray:=⟨#[48,49,50,51,52,53,54,55,56,57]⟩
theorem digS_at {d : Nat} (h : d < 10) : digS.extract d (d + 1) = ofN [48 + d]:=by
  have hs : d < digS.size:=h
  rw [byte_mk hs]
  have : ∀ k : Fin 10,byteAt digS k.val = 48 + k.val:=by decide
  rw [this ⟨d,h⟩]
set_option maxHeartbeats 1000000 in
theorem specFmtInt_m (n : Int) (hn : In64 n) : Meets Try.prog 70 [(false,[.sc (.int .i64 n)])] [(false,[.sc (.string (fmtInt n))],true)]:=by
  have hn' : -9223372036854775808≤n∧n≤9223372036854775807:=hn
  have hlen:=dgs_len19 (m:=n.natAbs) (by omega)
  refine meets_upf Try.func70 u_spec_FormatInt_g rfl ?_;simp only [u_spec_FormatInt_u]
  simp (disch:=first | omega | (simp only [length_take,length_drop,length_append,map_cons,map_nil,length_map,length_cons,length_nil,length_set,length_replicate];omega) | (simp only [length_cons,length_nil,Nat.zero_add,Nat.reduceAdd])) only [go_sem,↓reduceIte,Nat.reduceAdd,Int.reduceNeg,Int.reduceAdd,Int.reduceSub,Int.reduceMul,Int.reduceLT,Int.reduceLE,Int.reduceEq,Int.reduceToNat,Nat.reduceBEq,nat1,true_and]
  refine lp (fun s : Int × List Nat=>[.sc (.int .i64 s.1),.sc (.string (ofN s.2))]) (fun s=>s.1.natAbs≤9223372036854775808∧-9223372036854775808≤s.1∧s.1≤9223372036854775807∧dgs s.1.natAbs ++ s.2 = dgs n.natAbs) (fun s=>s.1.natAbs) (n,[]) rfl ⟨by simp only;omega,by simp only;omega,by simp only;omega,by simp⟩ ?_
  rintro ⟨x,acc⟩ ⟨g1,g2,g3,g4⟩
  simp only at g1 g2 g3 g4 ⊢
  simp only [u_spec_FormatInt_l1]
  by_cases hx : x = 0
  · subst hx
    rw [Int.natAbs_zero,dgs_zero,List.nil_append] at g4
    have hsz:=ofN_size acc
    rw [g4] at hsz ⊢
    have e1 : (⟨#[45]⟩ : ByteArray).size + (ofN (dgs n.natAbs)).size≤maxLen:=by
      have e : (⟨#[45]⟩ : ByteArray).size = 1:=rfl
      unfold maxLen;omega
    repeat' (first | (with_reducible first | refine jn_in ?_ | refine cl_ok (by assumption) rfl ?_ | refine cl_okP (by assumption) rfl ?_ | refine br_if (fun hbr=>?_) fun hbr=>?_ | refine br_ifn (fun hbr=>?_) fun hbr=>?_ | refine br_nb (fun hbr=>?_) fun hbr=>?_ | refine br_b (fun hbr=>?_) fun hbr=>?_) | simp (disch:=first | omega | (simp only [length_take,length_drop,length_append,map_cons,map_nil,length_map,length_cons,length_nil,length_set,length_replicate];omega) | (simp only [length_cons,length_nil,Nat.zero_add,Nat.reduceAdd])) only [go_sem,↓reduceIte,Nat.reduceAdd,Int.reduceNeg,Int.reduceAdd,Int.reduceSub,Int.reduceMul,Int.reduceLT,Int.reduceLE,Int.reduceEq,Int.reduceToNat,Nat.reduceBEq,nat1,e_cat e1])
    · exact ret_s (by unfold fmtInt fmtIntL;rw [if_pos ‹n = 0›];rfl)
    · refine ret_s ?_
      unfold fmtInt fmtIntL
      rw [if_neg ‹¬ n = 0›,if_pos ‹n < 0›]
      exact ofN_app [45] _
    · refine ret_s ?_
      unfold fmtInt fmtIntL
      rw [if_neg ‹¬ n = 0›,if_neg ‹¬ n < 0›]
  · have hd:=dgs_pos (m:=x.natAbs) (by omega)
    have a1:=@absdiv x
    have a2:=@absmod x
    have a3 : x.tmod 10 < 10∧-10 < x.tmod 10:=by omega
    have hl2 : acc.length≤19:=by
      have:=congrArg List.length g4
      rw [List.length_append] at this;omega
    have hsz:=ofN_size acc
    have hm10 : x.natAbs % 10 < 10:=Nat.mod_lt _ (by decide)
    have hdg:=digS_at hm10
    have e0 : (ofN [48 + x.natAbs % 10]).size = 1:=by rw [ofN_size];rfl
    have e1 : (ofN [48 + x.natAbs % 10]).size + (ofN acc).size≤maxLen:=by unfold maxLen;omega
    have happ : ofN [48 + x.natAbs % 10] ++ ofN acc = ofN ((48 + x.natAbs % 10) :: acc):=(ofN_app [48 + x.natAbs % 10] acc).symm
    have hne : ¬ (10 : Int) = 0:=by decide
    have hfin : ∀ y : Int,y = x.tdiv 10→(∃ a' : Int × List Nat,[DV.sc (.int .i64 y),.sc (.string (ofN ((48 + x.natAbs % 10) :: acc)))] = [.sc (.int .i64 a'.1),.sc (.string (ofN a'.2))]∧(a'.1.natAbs≤9223372036854775808∧-9223372036854775808≤a'.1∧a'.1≤9223372036854775807∧dgs a'.1.natAbs ++ a'.2 = dgs n.natAbs)∧a'.1.natAbs < x.natAbs):=by
      rintro y rfl
      refine ⟨(x.tdiv 10,(48 + x.natAbs % 10) :: acc),rfl,⟨by simp only;omega,by simp only;omega,by simp only;omega,?_⟩,by simp only;omega⟩
      rw [← g4,hd,a1];simp
    generalize hdd : x.natAbs % 10 = d at *
    by_cases hneg : x.tmod 10 < 0
    · have t1 : x.tmod 10 = -(d : Int):=by omega
      have c1 : (0 : Int) - -(d : Int) = (d : Int):=by omega
      have hcut : eCutS (some (.sc (.string ⟨#[48,49,50,51,52,53,54,55,56,57]⟩))) (some (some (d : Int))) (some (some ((d + 1 : Nat) : Int))) = some [.sc (.string (ofN [48 + d]))]:=by
        rw [e_cS (by omega) (by omega) (by show ((d + 1 : Nat) : Int)≤((10 : Nat) : Int);omega)]
        exact congrArg (fun z=>some [DV.sc (.string z)]) hdg
      repeat' (first | (with_reducible first | refine jn_in ?_ | refine cl_ok (by assumption) rfl ?_ | refine cl_okP (by assumption) rfl ?_ | refine br_if (fun hbr=>?_) fun hbr=>?_ | refine br_ifn (fun hbr=>?_) fun hbr=>?_ | refine br_nb (fun hbr=>?_) fun hbr=>?_ | refine br_b (fun hbr=>?_) fun hbr=>?_) | simp (disch:=first | omega | (simp only [length_take,length_drop,length_append,map_cons,map_nil,length_map,length_cons,length_nil,length_set,length_replicate];omega) | (simp only [length_cons,length_nil,Nat.zero_add,Nat.reduceAdd])) only [go_sem,↓reduceIte,Nat.reduceAdd,Int.reduceNeg,Int.reduceAdd,Int.reduceSub,Int.reduceMul,Int.reduceLT,Int.reduceLE,Int.reduceEq,Int.reduceToNat,Nat.reduceBEq,nat1,t1,c1,hcut,e_cat e1,happ,u_spec_FormatInt_j0])
      all_goals first | omega | exact hfin _ rfl
    · have t1 : x.tmod 10 = (d : Int):=by omega
      have hcut : eCutS (some (.sc (.string ⟨#[48,49,50,51,52,53,54,55,56,57]⟩))) (some (some (d : Int))) (some (some ((d + 1 : Nat) : Int))) = some [.sc (.string (ofN [48 + d]))]:=by
        rw [e_cS (by omega) (by omega) (by show ((d + 1 : Nat) : Int)≤((10 : Nat) : Int);omega)]
        exact congrArg (fun z=>some [DV.sc (.string z)]) hdg
      repeat' (first | (with_reducible first | refine jn_in ?_ | refine cl_ok (by assumption) rfl ?_ | refine cl_okP (by assumption) rfl ?_ | refine br_if (fun hbr=>?_) fun hbr=>?_ | refine br_ifn (fun hbr=>?_) fun hbr=>?_ | refine br_nb (fun hbr=>?_) fun hbr=>?_ | refine br_b (fun hbr=>?_) fun hbr=>?_) | simp (disch:=first | omega | (simp only [length_take,length_drop,length_append,map_cons,map_nil,length_map,length_cons,length_nil,length_set,length_replicate];omega) | (simp only [length_cons,length_nil,Nat.zero_add,Nat.reduceAdd])) only [go_sem,↓reduceIte,Nat.reduceAdd,Int.reduceNeg,Int.reduceAdd,Int.reduceSub,Int.reduceMul,Int.reduceLT,Int.reduceLE,Int.reduceEq,Int.reduceToNat,Nat.reduceBEq,nat1,t1,hcut,e_cat e1,happ,u_spec_FormatInt_j0])
      all_goals first | omega | exact hfin _ rfl
def swp (D : List Nat) (i : Nat) : List Nat:=(List.range D.length).map fun k=>if k < i ∨ D.length - 1 - k < i then D.getD (D.length - 1 - k) default else D.getD k default
theorem swp_len (D : List Nat) (i : Nat) : (swp D i).length = D.length:=by simp [swp]
theorem swp_at (D : List Nat) (i k : Nat) (h : k < D.length) : (swp D i)[k]? = some (if k < i ∨ D.length - 1 - k < i then D.getD (D.length - 1 - k) default else D.getD k default):=by
  unfold swp;rw [List.getElem?_map,List.getElem?_range h];rfl
theorem swp_getD (D : List Nat) (i k : Nat) (h : k < D.length) : (swp D i).getD k default = if k < i ∨ D.length - 1 - k < i then D.getD (D.length - 1 - k) default else D.getD k default:=by
  rw [List.getD_eq_getElem?_getD,swp_at D i k h];rfl
theorem swp_zero (D : List Nat) : swp D 0 = D:=by
  apply List.ext_getElem?
  intro k
  by_cases h : k < D.length
  · rw [swp_at D 0 k h,if_neg (by omega),getD_some h]
  · rw [List.getElem?_eq_none (by rw [swp_len];omega),List.getElem?_eq_none (by omega)]
theorem swp_step {D : List Nat} {i : Nat} (h : i < D.length - 1 - i) : ((swp D i).set i ((swp D i).getD (D.length - 1 - i) default)).set (D.length - 1 - i) ((swp D i).getD i default) = swp D (i + 1):=by
  apply List.ext_getElem?
  intro k
  by_cases hk : k < D.length
  · rw [List.getElem?_set,List.getElem?_set,swp_at D (i + 1) k hk,swp_at D i k hk,swp_getD D i i (by omega),swp_getD D i (D.length - 1 - i) (by omega)]
    by_cases e1 : D.length - 1 - i = k
    · subst e1
      rw [if_pos rfl,if_pos (by rw [List.length_set,swp_len];exact hk),if_neg (by omega),if_pos (by omega)]
      congr 2;omega
    · rw [if_neg e1]
      by_cases e2 : i = k
      · subst e2
        rw [if_pos rfl,if_pos (by rw [swp_len];exact hk),if_neg (by omega),if_pos (by omega)]
      · rw [if_neg e2]
        by_cases e3 : k < i ∨ D.length - 1 - k < i
        · rw [if_pos e3,if_pos (by omega)]
        · rw [if_neg e3,if_neg (by omega)]
  · rw [List.getElem?_eq_none (by simp [swp_len];omega),List.getElem?_eq_none (by rw [swp_len];omega)]
theorem swp_end {D : List Nat} {i : Nat} (h : ¬ i < D.length - 1 - i) : swp D i = D.reverse:=by
  apply List.ext_getElem?
  intro k
  by_cases hk : k < D.length
  · rw [swp_at D i k hk,List.getElem?_reverse hk]
    split
    · rw [getD_some (by omega)]
    · rw [← getD_some hk];congr 1;omega
  · rw [List.getElem?_eq_none (by rw [swp_len];omega),List.getElem?_eq_none (by simp;omega)]
set_option maxHeartbeats 2000000 in
theorem implFmtInt_m (n : Int) (hn : In64 n) : Meets Try.prog 83 [(false,[.sc (.int .i64 n)])] [(false,[.sc (.string (fmtInt n))],true)]:=by
  have hn' : -9223372036854775808≤n∧n≤9223372036854775807:=hn
  have hlen:=dgs_len19 (m:=n.natAbs) (by omega)
  refine meets_upf Try.func83 u_impl_FormatInt_g rfl ?_;simp only [u_impl_FormatInt_u]
  simp (disch:=first | omega | (simp only [length_take,length_drop,length_append,map_cons,map_nil,length_map,length_cons,length_nil,length_set,length_replicate];omega) | (simp only [length_cons,length_nil,Nat.zero_add,Nat.reduceAdd])) only [go_sem,↓reduceIte,Nat.reduceAdd,Int.reduceNeg,Int.reduceAdd,Int.reduceSub,Int.reduceMul,Int.reduceLT,Int.reduceLE,Int.reduceEq,Int.reduceToNat,Nat.reduceBEq,nat1,true_and]
  refine br_if (fun hn0=>?_) (fun hn0=>?_)
  · simp (disch:=first | omega | (simp only [length_take,length_drop,length_append,map_cons,map_nil,length_map,length_cons,length_nil,length_set,length_replicate];omega) | (simp only [length_cons,length_nil,Nat.zero_add,Nat.reduceAdd])) only [go_sem,↓reduceIte,Nat.reduceAdd,Int.reduceNeg,Int.reduceAdd,Int.reduceSub,Int.reduceMul,Int.reduceLT,Int.reduceLE,Int.reduceEq,Int.reduceToNat,Nat.reduceBEq,nat1,true_and]
    exact ret_s (by unfold fmtInt fmtIntL;rw [if_pos hn0];rfl)
  simp (disch:=first | omega | (simp only [length_take,length_drop,length_append,map_cons,map_nil,length_map,length_cons,length_nil,length_set,length_replicate];omega) | (simp only [length_cons,length_nil,Nat.zero_add,Nat.reduceAdd])) only [go_sem,↓reduceIte,Nat.reduceAdd,Int.reduceNeg,Int.reduceAdd,Int.reduceSub,Int.reduceMul,Int.reduceLT,Int.reduceLE,Int.reduceEq,Int.reduceToNat,Nat.reduceBEq,nat1,true_and]
  refine lp (fun s : Int × List Nat=>[.sc (.int .i64 s.1),.sl 5 1 (s.2.map encU)]) (fun s=>s.1.natAbs≤9223372036854775808∧-9223372036854775808≤s.1∧s.1≤9223372036854775807∧dgs s.1.natAbs ++ s.2.reverse = dgs n.natAbs) (fun s=>s.1.natAbs) (n,[]) rfl ⟨by simp only;omega,by simp only;omega,by simp only;omega,by simp⟩ ?_
  rintro ⟨x,acc⟩ ⟨g1,g2,g3,g4⟩
  simp only at g1 g2 g3 g4 ⊢
  simp only [u_impl_FormatInt_l3]
  have hl2 : acc.length≤19:=by
    have:=congrArg List.length g4
    rw [List.length_append,List.length_reverse] at this;omega
  by_cases hx : x = 0
  · subst hx
    rw [Int.natAbs_zero,dgs_zero,List.nil_append] at g4
    have m45 : acc.map encU ++ [[.sc (.int .u8 45)]] = (acc ++ [45]).map encU:=by rw [List.map_append];rfl
    have key : ∀ (J : List DV→Prop) (c0 c : DV) (D : List Nat),D.length≤20→D.reverse = fmtIntL n→V Try.prog (isRes [(false,[.sc (.string (fmtInt n))],true)]) u_impl_FormatInt_j2 [J] [.sl 5 1 (D.map encU),c0,c]:=by
      intro J c0 c D hD hrev
      simp only [u_impl_FormatInt_j2]
      simp (disch:=first | omega | (simp only [length_take,length_drop,length_append,map_cons,map_nil,length_map,length_cons,length_nil,length_set,length_replicate];omega) | (simp only [length_cons,length_nil,Nat.zero_add,Nat.reduceAdd])) only [go_sem,↓reduceIte,Nat.reduceAdd,Int.reduceNeg,Int.reduceAdd,Int.reduceSub,Int.reduceMul,Int.reduceLT,Int.reduceLE,Int.reduceEq,Int.reduceToNat,Nat.reduceBEq,nat1,true_and]
      refine lp (fun i : Nat=>[.sc (.int .i64 ((D.length : Int) - 1 - i)),.sc (.int .i64 i),.sl 5 1 ((swp D i).map encU)]) (fun i=>2 * i≤D.length) (fun i=>D.length - i) 0 (by simp [gL,swp_zero]) (by omega) ?_
      intro i hi
      have hsl:=swp_len D i
      simp only [u_impl_FormatInt_l1]
      by_cases hlt : i < D.length - 1 - i
      · have hj : (D.length : Int) - 1 - i = ((D.length - 1 - i : Nat) : Int):=by omega
        have hst:=swp_step hlt
        have hj2 : ((D.length - 1 - i : Nat) : Int) - 1 = (D.length : Int) - 1 - ((i + 1 : Nat) : Int):=by omega
        rw [hj]
        generalize D.length - 1 - i = j at *
        repeat' (first | (with_reducible first | refine jn_in ?_ | refine cl_ok (by assumption) rfl ?_ | refine cl_okP (by assumption) rfl ?_ | refine br_if (fun hbr=>?_) fun hbr=>?_ | refine br_ifn (fun hbr=>?_) fun hbr=>?_ | refine br_nb (fun hbr=>?_) fun hbr=>?_ | refine br_b (fun hbr=>?_) fun hbr=>?_) | simp (disch:=first | omega | (simp only [length_take,length_drop,length_append,map_cons,map_nil,length_map,length_cons,length_nil,length_set,length_replicate];omega) | (simp only [length_cons,length_nil,Nat.zero_add,Nat.reduceAdd])) only [go_sem,↓reduceIte,Nat.reduceAdd,Int.reduceNeg,Int.reduceAdd,Int.reduceSub,Int.reduceMul,Int.reduceLT,Int.reduceLE,Int.reduceEq,Int.reduceToNat,Nat.reduceBEq,nat1,ix_u,st_u,List.length_set,hsl,hst,hj2])
        · exact ⟨i + 1,rfl,by omega,by omega⟩
        · omega
      · have he:=swp_end hlt
        repeat' (first | (with_reducible first | refine jn_in ?_ | refine cl_ok (by assumption) rfl ?_ | refine cl_okP (by assumption) rfl ?_ | refine br_if (fun hbr=>?_) fun hbr=>?_ | refine br_ifn (fun hbr=>?_) fun hbr=>?_ | refine br_nb (fun hbr=>?_) fun hbr=>?_ | refine br_b (fun hbr=>?_) fun hbr=>?_) | simp (disch:=first | omega | (simp only [length_take,length_drop,length_append,map_cons,map_nil,length_map,length_cons,length_nil,length_set,length_replicate];omega) | (simp only [length_cons,length_nil,Nat.zero_add,Nat.reduceAdd])) only [go_sem,↓reduceIte,Nat.reduceAdd,Int.reduceNeg,Int.reduceAdd,Int.reduceSub,Int.reduceMul,Int.reduceLT,Int.reduceLE,Int.reduceEq,Int.reduceToNat,Nat.reduceBEq,nat1,cvB_u,he,hrev])
        · omega
        · rfl
    simp (disch:=first | omega | (simp only [length_take,length_drop,length_append,map_cons,map_nil,length_map,length_cons,length_nil,length_set,length_replicate];omega) | (simp only [length_cons,length_nil,Nat.zero_add,Nat.reduceAdd])) only [go_sem,↓reduceIte,Nat.reduceAdd,Int.reduceNeg,Int.reduceAdd,Int.reduceSub,Int.reduceMul,Int.reduceLT,Int.reduceLE,Int.reduceEq,Int.reduceToNat,Nat.reduceBEq,nat1,true_and]
    by_cases hneg : n < 0
    · repeat' (first | (with_reducible first | refine jn_in ?_ | refine cl_ok (by assumption) rfl ?_ | refine cl_okP (by assumption) rfl ?_ | refine br_if (fun hbr=>?_) fun hbr=>?_ | refine br_ifn (fun hbr=>?_) fun hbr=>?_ | refine br_nb (fun hbr=>?_) fun hbr=>?_ | refine br_b (fun hbr=>?_) fun hbr=>?_) | simp (disch:=first | omega | (simp only [length_take,length_drop,length_append,map_cons,map_nil,length_map,length_cons,length_nil,length_set,length_replicate];omega) | (simp only [length_cons,length_nil,Nat.zero_add,Nat.reduceAdd])) only [go_sem,↓reduceIte,Nat.reduceAdd,Int.reduceNeg,Int.reduceAdd,Int.reduceSub,Int.reduceMul,Int.reduceLT,Int.reduceLE,Int.reduceEq,Int.reduceToNat,Nat.reduceBEq,nat1,hneg,m45])
      exact key _ _ _ (acc ++ [45]) (by simp;omega) (by rw [List.reverse_append,g4];unfold fmtIntL;rw [if_neg hn0,if_pos hneg];rfl)
    · repeat' (first | (with_reducible first | refine jn_in ?_ | refine cl_ok (by assumption) rfl ?_ | refine cl_okP (by assumption) rfl ?_ | refine br_if (fun hbr=>?_) fun hbr=>?_ | refine br_ifn (fun hbr=>?_) fun hbr=>?_ | refine br_nb (fun hbr=>?_) fun hbr=>?_ | refine br_b (fun hbr=>?_) fun hbr=>?_) | simp (disch:=first | omega | (simp only [length_take,length_drop,length_append,map_cons,map_nil,length_map,length_cons,length_nil,length_set,length_replicate];omega) | (simp only [length_cons,length_nil,Nat.zero_add,Nat.reduceAdd])) only [go_sem,↓reduceIte,Nat.reduceAdd,Int.reduceNeg,Int.reduceAdd,Int.reduceSub,Int.reduceMul,Int.reduceLT,Int.reduceLE,Int.reduceEq,Int.reduceToNat,Nat.reduceBEq,nat1,hneg,m45])
      exact key _ _ _ acc (by omega) (by rw [g4];unfold fmtIntL;rw [if_neg hn0,if_neg hneg])
  · have hd:=dgs_pos (m:=x.natAbs) (by omega)
    have a1:=@absdiv x
    have a2:=@absmod x
    have a3 : x.tmod 10 < 10∧-10 < x.tmod 10:=by omega
    have hm10 : x.natAbs % 10 < 10:=Nat.mod_lt _ (by decide)
    have hfin : ∀ y : Int,y = x.tdiv 10→(∃ a' : Int × List Nat,[DV.sc (.int .i64 y),.sl 5 1 ((acc ++ [48 + x.natAbs % 10]).map encU)] = [.sc (.int .i64 a'.1),.sl 5 1 (a'.2.map encU)]∧(a'.1.natAbs≤9223372036854775808∧-9223372036854775808≤a'.1∧a'.1≤9223372036854775807∧dgs a'.1.natAbs ++ a'.2.reverse = dgs n.natAbs)∧a'.1.natAbs < x.natAbs):=by
      rintro y rfl
      refine ⟨(x.tdiv 10,acc ++ [48 + x.natAbs % 10]),rfl,⟨by simp only;omega,by simp only;omega,by simp only;omega,?_⟩,by simp only;omega⟩
      rw [← g4,hd,a1];simp
    generalize hdd : x.natAbs % 10 = d at *
    have c3 : (48 : Int) + (d : Int) = ((48 + d : Nat) : Int):=rfl
    have w8 : IntKind.u8.wrap ((48 + d : Nat) : Int) = ((48 + d : Nat) : Int):=wrap8 (by omega) (by omega)
    by_cases hneg : x.tmod 10 < 0
    · have t1 : x.tmod 10 = -(d : Int):=by omega
      have c1 : (0 : Int) - -(d : Int) = (d : Int):=by omega
      repeat' (first | (with_reducible first | refine jn_in ?_ | refine cl_ok (by assumption) rfl ?_ | refine cl_okP (by assumption) rfl ?_ | refine br_if (fun hbr=>?_) fun hbr=>?_ | refine br_ifn (fun hbr=>?_) fun hbr=>?_ | refine br_nb (fun hbr=>?_) fun hbr=>?_ | refine br_b (fun hbr=>?_) fun hbr=>?_) | simp (disch:=first | omega | (simp only [length_take,length_drop,length_append,map_cons,map_nil,length_map,length_cons,length_nil,length_set,length_replicate];omega) | (simp only [length_cons,length_nil,Nat.zero_add,Nat.reduceAdd])) only [go_sem,↓reduceIte,Nat.reduceAdd,Int.reduceNeg,Int.reduceAdd,Int.reduceSub,Int.reduceMul,Int.reduceLT,Int.reduceLE,Int.reduceEq,Int.reduceToNat,Nat.reduceBEq,nat1,t1,c1,c3,w8,map_u,u_impl_FormatInt_j0])
      all_goals first | omega | with_reducible exact hfin _ rfl
    · have t1 : x.tmod 10 = (d : Int):=by omega
      repeat' (first | (with_reducible first | refine jn_in ?_ | refine cl_ok (by assumption) rfl ?_ | refine cl_okP (by assumption) rfl ?_ | refine br_if (fun hbr=>?_) fun hbr=>?_ | refine br_ifn (fun hbr=>?_) fun hbr=>?_ | refine br_nb (fun hbr=>?_) fun hbr=>?_ | refine br_b (fun hbr=>?_) fun hbr=>?_) | simp (disch:=first | omega | (simp only [length_take,length_drop,length_append,map_cons,map_nil,length_map,length_cons,length_nil,length_set,length_replicate];omega) | (simp only [length_cons,length_nil,Nat.zero_add,Nat.reduceAdd])) only [go_sem,↓reduceIte,Nat.reduceAdd,Int.reduceNeg,Int.reduceAdd,Int.reduceSub,Int.reduceMul,Int.reduceLT,Int.reduceLE,Int.reduceEq,Int.reduceToNat,Nat.reduceBEq,nat1,t1,c3,w8,map_u,u_impl_FormatInt_j0])
      all_goals first | omega | with_reducible exact hfin _ rfl
end Go.Proofs.Ytfdpkdfmkedkmaa

namespace Go.Proofs.Ytfdpkdfmkedkmaa
open List (length_take length_drop length_append map_cons map_nil length_map length_cons length_nil length_set length_replicate)
open Go.RowKit
set_option maxRecDepth 100000
def hexS : ByteArray:=⟨#[48,49,50,51,52,53,54,55,56,57,97,98,99,100,101,102]⟩
def qc (b : Nat) : List Nat:=if b = 34 ∨ b = 92 then [92,b] else if b = 10 then [92,110] else if b < 32 ∨ 126 < b then [92,120,byteAt hexS (b / 16),byteAt hexS (b % 16)] else [b]
def qP (s : ByteArray) : Nat→List Nat
  | 0=>[34]
  | i + 1=>qP s i ++ qc (byteAt s i)
def quoteB (s : ByteArray) : ByteArray:=ofN (qP s s.size ++ [34])
theorem qc_len (b : Nat) : (qc b).length ≤ 4 := by unfold qc; split; · simp
                                                   split;· simp
                                                   split <;> simp
theorem qP_len (s : ByteArray) : ∀ i,(qP s i).length≤1 + 4 * i
  | 0=>by simp [qP]
  | i + 1=>by have:=qP_len s i;have:=qc_len (byteAt s i);simp only [qP,List.length_append];omega
theorem quoteB_size (s : ByteArray) : (quoteB s).size≤2 + 4 * s.size:=by
  unfold quoteB;rw [ofN_size,List.length_append,List.length_singleton]
  have:=qP_len s s.size;omega
theorem l1Hex_m (k : Nat) (hk : k < 16) : Meets Try.prog 87 [(false,[.sc (.int .i64 k)])] [(false,[.sc (.string (ofN [byteAt hexS k]))],true)]:=by
  have hb:=byte_mk (s:=hexS) (i:=k) hk
  have hcut : eCutS (some (.sc (.string ⟨#[48,49,50,51,52,53,54,55,56,57,97,98,99,100,101,102]⟩))) (some (some (k : Int))) (some (some ((k + 1 : Nat) : Int))) = some [.sc (.string (ofN [byteAt hexS k]))]:=by
    rw [e_cS (by omega) (by omega) (by show ((k + 1 : Nat) : Int)≤((16 : Nat) : Int);omega)]
    exact congrArg (fun z=>some [DV.sc (.string z)]) hb
  refine meets_upf Try.func87 u_spec_l1Hex_g rfl ?_;simp only [u_spec_l1Hex_u]
  repeat' (first | (with_reducible first | refine jn_in ?_ | refine cl_ok (by assumption) rfl ?_ | refine cl_okP (by assumption) rfl ?_ | refine br_if (fun hbr=>?_) fun hbr=>?_ | refine br_ifn (fun hbr=>?_) fun hbr=>?_ | refine br_nb (fun hbr=>?_) fun hbr=>?_ | refine br_b (fun hbr=>?_) fun hbr=>?_) | simp (disch:=first | omega | (simp only [length_take,length_drop,length_append,map_cons,map_nil,length_map,length_cons,length_nil,length_set,length_replicate];omega) | (simp only [length_cons,length_nil,Nat.zero_add,Nat.reduceAdd])) only [go_sem,↓reduceIte,Nat.reduceAdd,Int.reduceNeg,Int.reduceAdd,Int.reduceSub,Int.reduceMul,Int.reduceLT,Int.reduceLE,Int.reduceEq,Int.reduceToNat,Nat.reduceBEq,nat1,hcut])
  rfl
theorem a1 (q : List Nat) (b : Nat) : ofN q ++ ofN [b] = ofN (q ++ [b]):=(ofN_app q [b]).symm
theorem a92 (q : List Nat) : ofN q ++ ⟨#[92]⟩ = ofN (q ++ [92]):=(ofN_app q [92]).symm
theorem a34 (q : List Nat) : ofN q ++ ⟨#[34]⟩ = ofN (q ++ [34]):=(ofN_app q [34]).symm
theorem a92n (q : List Nat) : ofN q ++ ⟨#[92,110]⟩ = ofN (q ++ [92,110]):=(ofN_app q [92,110]).symm
theorem a92x (q : List Nat) : ofN q ++ ⟨#[92,120]⟩ = ofN (q ++ [92,120]):=(ofN_app q [92,120]).symm
theorem e_catN {c : Bool} {q : List Nat} {t : ByteArray} (h : q.length + t.size≤1000000000000) : eBin .add c (some (.sc (.string (ofN q)))) (some (.sc (.string t))) = some [.sc (.string (ofN q ++ t))]:=e_cat (by rw [ofN_size];unfold maxLen;omega)
set_option maxHeartbeats 4000000 in
theorem specQuo_m (s : ByteArray) (hs : s.size≤10000000000) : Meets Try.prog 71 [(false,[.sc (.string s)])] [(false,[.sc (.string (quoteB s))],true)]:=by
  refine meets_upf Try.func71 u_spec_QuoteString_g rfl ?_;simp only [u_spec_QuoteString_u]
  simp (disch:=first | omega | (simp only [length_take,length_drop,length_append,map_cons,map_nil,length_map,length_cons,length_nil,length_set,length_replicate];omega) | (simp only [length_cons,length_nil,Nat.zero_add,Nat.reduceAdd])) only [go_sem,↓reduceIte,Nat.reduceAdd,Int.reduceNeg,Int.reduceAdd,Int.reduceSub,Int.reduceMul,Int.reduceLT,Int.reduceLE,Int.reduceEq,Int.reduceToNat,Nat.reduceBEq,nat1,true_and]
  refine lp_n s.size (fun i=>[.sc (.int .i64 i),.sc (.string (ofN (qP s i)))]) rfl fun i hi=>?_
  have hl:=qP_len s i
  have z92 : (⟨#[92]⟩ : ByteArray).size = 1:=rfl
  have z34 : (⟨#[34]⟩ : ByteArray).size = 1:=rfl
  have zn : (⟨#[92,110]⟩ : ByteArray).size = 2:=rfl
  have zx : (⟨#[92,120]⟩ : ByteArray).size = 2:=rfl
  have z1 : ∀ b,(ofN [b]).size = 1:=fun b=>ofN_size [b]
  simp only [u_spec_QuoteString_l1]
  by_cases hlt : i < s.size
  · have hbt:=byteAt_lt s i
    have hq : qP s (i + 1) = qP s i ++ qc (byteAt s i):=rfl
    have hx:=byte_mk hlt
    have hcut : eCutS (some (.sc (.string s))) (some (some (i : Int))) (some (some ((i + 1 : Nat) : Int))) = some [.sc (.string (ofN [byteAt s i]))]:=by
      rw [e_cS (by omega) (by omega) (by omega)]
      exact congrArg (fun z=>some [DV.sc (.string z)]) hx
    generalize hB : byteAt s i = b at *
    have hw : IntKind.i64.wrap (b : Int) = (b : Int):=wrap_id (by omega) (by omega)
    have hsh:=@e_shr false .u64 b 4 (by decide)
    have han:=@e_and false b 15 (by omega)
    rw [show b &&& 15 = b % 16 from Nat.and_two_pow_sub_one_eq_mod b 4] at han
    simp only [show ((4 : Nat) : Int) = 4 from rfl,show ((15 : Nat) : Int) = 15 from rfl,show (2 : Nat) ^ 4 = 16 from rfl] at hsh han
    have h1:=l1Hex_m (b / 16) (by omega)
    have h2:=l1Hex_m (b % 16) (by omega)
    have c1:=@e_catN false (qP s i) ⟨#[92]⟩ (by omega)
    have c2:=@e_catN false (qP s i ++ [92]) (ofN [b]) (by simp only [List.length_append,List.length_singleton];have:=z1 b;omega)
    have c3:=@e_catN false (qP s i) ⟨#[92,110]⟩ (by omega)
    have c4:=@e_catN false (qP s i) ⟨#[92,120]⟩ (by omega)
    have c5:=@e_catN false (qP s i ++ [92,120]) (ofN [byteAt hexS (b / 16)]) (by simp only [List.length_append,List.length_cons,List.length_nil];have:=z1 (byteAt hexS (b / 16));omega)
    have c6:=@e_catN false (qP s i ++ [92,120] ++ [byteAt hexS (b / 16)]) (ofN [byteAt hexS (b % 16)]) (by simp only [List.length_append,List.length_cons,List.length_nil];have:=z1 (byteAt hexS (b % 16));omega)
    have c7:=@e_catN false (qP s i) (ofN [b]) (by have:=z1 b;omega)
    repeat' (first | (with_reducible first | refine jn_in ?_ | refine cl_ok (by assumption) rfl ?_ | refine cl_okP (by assumption) rfl ?_ | refine br_if (fun hbr=>?_) fun hbr=>?_ | refine br_ifn (fun hbr=>?_) fun hbr=>?_ | refine br_nb (fun hbr=>?_) fun hbr=>?_ | refine br_b (fun hbr=>?_) fun hbr=>?_) | simp (disch:=first | omega | (simp only [length_take,length_drop,length_append,map_cons,map_nil,length_map,length_cons,length_nil,length_set,length_replicate];omega) | (simp only [length_cons,length_nil,Nat.zero_add,Nat.reduceAdd])) only [go_sem,↓reduceIte,Nat.reduceAdd,Int.reduceNeg,Int.reduceAdd,Int.reduceSub,Int.reduceMul,Int.reduceLT,Int.reduceLE,Int.reduceEq,Int.reduceToNat,Nat.reduceBEq,nat1,hB,hw,hsh,han,hcut,c1,c2,c3,c4,c5,c6,c7,a1,a92,a92n,a92x,u_spec_QuoteString_j0])
    all_goals first | omega | skip
    all_goals (refine ⟨?_,hlt⟩;rw [hq];unfold qc)
    all_goals first
      | (rw [if_pos (by omega)];simp;done)
      | (rw [if_neg (by omega),if_pos (by omega)];done)
      | (rw [if_neg (by omega),if_neg (by omega),if_pos (by omega)];simp;done)
      | (rw [if_neg (by omega),if_neg (by omega),if_neg (by omega)];done)
      | skip
  · obtain rfl : i = s.size:=by omega
    have c8:=@e_catN false (qP s s.size) ⟨#[34]⟩ (by omega)
    repeat' (first | (with_reducible first | refine jn_in ?_ | refine cl_ok (by assumption) rfl ?_ | refine cl_okP (by assumption) rfl ?_ | refine br_if (fun hbr=>?_) fun hbr=>?_ | refine br_ifn (fun hbr=>?_) fun hbr=>?_ | refine br_nb (fun hbr=>?_) fun hbr=>?_ | refine br_b (fun hbr=>?_) fun hbr=>?_) | simp (disch:=first | omega | (simp only [length_take,length_drop,length_append,map_cons,map_nil,length_map,length_cons,length_nil,length_set,length_replicate];omega) | (simp only [length_cons,length_nil,Nat.zero_add,Nat.reduceAdd])) only [go_sem,↓reduceIte,Nat.reduceAdd,Int.reduceNeg,Int.reduceAdd,Int.reduceSub,Int.reduceMul,Int.reduceLT,Int.reduceLE,Int.reduceEq,Int.reduceToNat,Nat.reduceBEq,nat1,c8,a34])
    all_goals first | omega | rfl
set_option maxHeartbeats 4000000 in
theorem implQuo_m (s : ByteArray) (hs : s.size≤10000000000) : Meets Try.prog 59 [(false,[.sc (.string s)])] [(false,[.sc (.string (quoteB s))],true)]:=by
  refine meets_upf Try.func59 u_impl_QuoteString_g rfl ?_;simp only [u_impl_QuoteString_u]
  simp (disch:=first | omega | (simp only [length_take,length_drop,length_append,map_cons,map_nil,length_map,length_cons,length_nil,length_set,length_replicate];omega) | (simp only [length_cons,length_nil,Nat.zero_add,Nat.reduceAdd])) only [go_sem,↓reduceIte,Nat.reduceAdd,Int.reduceNeg,Int.reduceAdd,Int.reduceSub,Int.reduceMul,Int.reduceLT,Int.reduceLE,Int.reduceEq,Int.reduceToNat,Nat.reduceBEq,nat1,true_and]
  refine lp_n s.size (fun i=>[.sc (.int .i64 i),.sl 5 1 ((qP s i).map encU)]) rfl fun i hi=>?_
  have hl:=qP_len s i
  have ap : ∀ m : List Nat,m.length≤10→eApp 5 1 1 (some (.sl 5 1 ((qP s i).map encU))) (some (.sl 5 1 (m.map encU))) = some [.sl 5 1 ((qP s i ++ m).map encU)]:=fun m hm=>e_appm (by omega) (by omega) (by decide)
  have ap1 : ∀ a : Nat,eApp 5 1 1 (some (.sl 5 1 ((qP s i).map encU))) (some (.sl 5 1 [[.sc (.int .u8 (a : Int))]])) = some [.sl 5 1 ((qP s i ++ [a]).map encU)]:=fun a=>ap [a] (by simp)
  have ap2 : ∀ (a b : Nat),eApp 5 1 1 (some (.sl 5 1 ((qP s i).map encU))) (some (.sl 5 1 [[.sc (.int .u8 (a : Int))],[.sc (.int .u8 (b : Int))]])) = some [.sl 5 1 ((qP s i ++ [a,b]).map encU)]:=fun a b=>ap [a,b] (by simp)
  simp only [u_impl_QuoteString_l2]
  by_cases hlt : i < s.size
  · have hbt:=byteAt_lt s i
    have hq : qP s (i + 1) = qP s i ++ qc (byteAt s i):=rfl
    generalize hB : byteAt s i = b at *
    have h2a : eApp 5 1 1 (some (.sl 5 1 ((qP s i).map encU))) (some (.sl 5 1 [[.sc (.int .u8 92)],[.sc (.int .u8 (b : Int))]])) = some [.sl 5 1 ((qP s i ++ [92,b]).map encU)]:=ap2 92 b
    have h2b : eApp 5 1 1 (some (.sl 5 1 ((qP s i).map encU))) (some (.sl 5 1 [[.sc (.int .u8 92)],[.sc (.int .u8 110)]])) = some [.sl 5 1 ((qP s i ++ [92,110]).map encU)]:=ap2 92 110
    have h1b:=ap1 b
    have h4 : eApp 5 1 1 (some (.sl 5 1 ((qP s i).map encU))) (some (.sl 5 1 [[.sc (.int .u8 92)],[.sc (.int .u8 120)],[.sc (.int .u8 (byteAt hexS (b / 16) : Int))],[.sc (.int .u8 (byteAt hexS (b % 16) : Int))]])) = some [.sl 5 1 ((qP s i ++ [92,120,byteAt hexS (b / 16),byteAt hexS (b % 16)]).map encU)]:=ap [92,120,byteAt hexS (b / 16),byteAt hexS (b % 16)] (by simp)
    have f2 : ∀ a c : Int,eFlat (some (.sl 5 1 [[.sc (.int .u8 a)],[.sc (.int .u8 c)]])) = some []:=fun _ _=>rfl
    have f4 : ∀ a c d e : Int,eFlat (some (.sl 5 1 [[.sc (.int .u8 a)],[.sc (.int .u8 c)],[.sc (.int .u8 d)],[.sc (.int .u8 e)]])) = some []:=fun _ _ _ _=>rfl
    have d1 : (b : Int).tdiv 16 = ((b / 16 : Nat) : Int):=rfl
    have d2 : (b : Int).tmod 16 = ((b % 16 : Nat) : Int):=rfl
    have d3 : IntKind.u8.wrap ((b / 16 : Nat) : Int) = ((b / 16 : Nat) : Int):=wrap8 (by omega) (by omega)
    have hz : hexS.size = 16:=rfl
    have x1 : ∀ k : Nat,k < 16→eChr (some (.sc (.string ⟨#[48,49,50,51,52,53,54,55,56,57,97,98,99,100,101,102]⟩))) (some (.sc (.int .u8 (k : Int)))) = some [.sc (.int .u8 (byteAt hexS k))]:=fun k hk=>e_chr' (s:=hexS) (by omega) (by omega)
    have x2:=x1 (b / 16) (by omega)
    have x3:=x1 (b % 16) (by omega)
    repeat' (first | (with_reducible first | refine jn_in ?_ | refine cl_ok (by assumption) rfl ?_ | refine cl_okP (by assumption) rfl ?_ | refine br_if (fun hbr=>?_) fun hbr=>?_ | refine br_ifn (fun hbr=>?_) fun hbr=>?_ | refine br_nb (fun hbr=>?_) fun hbr=>?_ | refine br_b (fun hbr=>?_) fun hbr=>?_) | simp (disch:=first | omega | (simp only [length_take,length_drop,length_append,map_cons,map_nil,length_map,length_cons,length_nil,length_set,length_replicate];omega) | (simp only [length_cons,length_nil,Nat.zero_add,Nat.reduceAdd])) only [go_sem,↓reduceIte,Nat.reduceAdd,Int.reduceNeg,Int.reduceAdd,Int.reduceSub,Int.reduceMul,Int.reduceLT,Int.reduceLE,Int.reduceEq,Int.reduceToNat,Nat.reduceBEq,nat1,hB,d1,d2,d3,x2,x3,h2a,h2b,h1b,h4,fl1_z,f2,f4,u_impl_QuoteString_j0,u_impl_QuoteString_j1])
    all_goals first | omega | skip
    all_goals (refine ⟨?_,hlt⟩;rw [hq];unfold qc)
    all_goals first
      | (rw [if_pos (by omega)];done)
      | (rw [if_neg (by omega),if_pos (by omega)];done)
      | (rw [if_neg (by omega),if_neg (by omega),if_pos (by omega)];done)
      | (rw [if_neg (by omega),if_neg (by omega),if_neg (by omega)];done)
      | skip
  · obtain rfl : i = s.size:=by omega
    have h1b : eApp 5 1 1 (some (.sl 5 1 ((qP s s.size).map encU))) (some (.sl 5 1 [[.sc (.int .u8 34)]])) = some [.sl 5 1 ((qP s s.size ++ [34]).map encU)]:=ap1 34
    repeat' (first | (with_reducible first | refine jn_in ?_ | refine cl_ok (by assumption) rfl ?_ | refine cl_okP (by assumption) rfl ?_ | refine br_if (fun hbr=>?_) fun hbr=>?_ | refine br_ifn (fun hbr=>?_) fun hbr=>?_ | refine br_nb (fun hbr=>?_) fun hbr=>?_ | refine br_b (fun hbr=>?_) fun hbr=>?_) | simp (disch:=first | omega | (simp only [length_take,length_drop,length_append,map_cons,map_nil,length_map,length_cons,length_nil,length_set,length_replicate];omega) | (simp only [length_cons,length_nil,Nat.zero_add,Nat.reduceAdd])) only [go_sem,↓reduceIte,Nat.reduceAdd,Int.reduceNeg,Int.reduceAdd,Int.reduceSub,Int.reduceMul,Int.reduceLT,Int.reduceLE,Int.reduceEq,Int.reduceToNat,Nat.reduceBEq,nat1,h1b,fl1_z,cvB_u])
    all_goals first | omega | rfl
end Go.Proofs.Ytfdpkdfmkedkmaa

namespace Go.Proofs.Ytfdpkdfmkedkmaa
open Go.RowKit
set_option maxRecDepth 100000
def c1 (x : Nod) : Nat:=1 + x.labels.length
theorem tree_nB {t : List Nod} (h : treeB t = true) {i : Nat} (hi : i < t.length) : nB (t.getD i default) = true:=by
  obtain ⟨k,-,-,-,h⟩:=lenT_step h hi
  exact h
end Go.Proofs.Ytfdpkdfmkedkmaa

namespace Go.Proofs.Ytfdpkdfmkedkmaa
open List (length_take length_drop length_append map_cons map_nil length_map length_cons length_nil length_set length_replicate)
open Go.RowKit
set_option maxRecDepth 100000
theorem posT_succ (t : List Nod) : ∀ (n e : Nat),posT t e (n + 1) = startT t (posT t e n - 1)
  | 0,_=>rfl
  | n + 1,e=>by
    rw [posT,posT_succ t n]
    rfl
theorem rootsT_cons (t : List Nod) : ∀ (n e : Nat),rootsT t e (n + 1) = ((posT t e n - 1 : Nat) : Int) :: rootsT t e n
  | 0,_=>rfl
  | n + 1,e=>by
    rw [rootsT,rootsT_cons t n]
    rfl
theorem posT_len {t : List Nod} (h : treeB t = true) : ∀ {n e : Nat},e≤t.length→n≤lenT t e→lenT t (posT t e n) + n = lenT t e∧posT t e n≤e
  | 0,e,_,_=>⟨rfl,Nat.le_refl _⟩
  | n + 1,e,he,hn=>by
    have h0 : e ≠ 0:=by rintro rfl;rw [lenT_0] at hn;omega
    obtain ⟨k,rfl⟩:=Nat.exists_eq_succ_of_ne_zero h0
    simp only [Nat.succ_eq_add_one,posT,Nat.add_sub_cancel] at *
    have hs:=startT_len h (i:=k) (by omega)
    have hle:=startT_le t k
    obtain ⟨g1,g2⟩:=posT_len h (n:=n) (e:=startT t k) (by omega) (by omega)
    omega
theorem posT_pos {t : List Nod} (h : treeB t = true) {n e : Nat} (he : e≤t.length) (hn : n < lenT t e) : 1≤posT t e n:=by
  obtain ⟨g1,g2⟩:=posT_len h (n:=n) he (by omega)
  rcases Nat.eq_zero_or_pos (posT t e n) with h0 | h0
  · rw [h0,lenT_0] at g1;omega
  · exact h0
theorem rep_last {n : Nat} {x : Int} : (List.replicate (n + 1) (0 : Int)).set n x = List.replicate n 0 ++ [x]:=by
  rw [List.replicate_succ',List.set_append_right _ _ (by simp)]
  simp
set_option maxHeartbeats 2000000 in
theorem implKidsT_m (t : List Nod) (h : treeB t = true) (i : Nat) (hi : i < t.length) : Meets Try.prog 48 [(false,[encNods t]),(false,[.sc (.int .i64 i)])] [(false,[encZs (kidsT t i)],true)]:=by
  obtain ⟨n,k1,k2,k3,-⟩:=lenT_step h hi
  have hl:=tree_len h
  have hle:=lenT_le t i
  have hstart:=fun j hj=>implStart_m t h j hj
  have hz : (List.replicate n [DV.sc (.int .i64 0)]) = (List.replicate n (0 : Int)).map encZ:=by rw [List.map_replicate];rfl
  have e0 : kidsT t i = rootsT t i n:=by unfold kidsT;rw [k1];rfl
  rw [e0]
  refine meets_upf Try.func48 u_impl_kidsOf_g rfl ?_;simp only [u_impl_kidsOf_u]
  simp only [encNods,encZs] at hstart ⊢
  simp (disch:=first | omega | (simp only [length_take,length_drop,length_append,map_cons,map_nil,length_map,length_cons,length_nil,length_set,length_replicate];omega) | (simp only [length_cons,length_nil,Nat.zero_add,Nat.reduceAdd])) only [go_sem,↓reduceIte,Nat.reduceAdd,Int.reduceNeg,Int.reduceAdd,Int.reduceSub,Int.reduceMul,Int.reduceLT,Int.reduceLE,Int.reduceEq,Int.reduceToNat,Nat.reduceBEq,nat1,ix_Nod,encNod,encSs,k1,hz]
  refine lp_n n (fun r=>[.sc (.int .i64 ((n : Int) - 1 - r)),.sc (.int .i64 ((posT t i r : Int) - 1)),.sl 3 1 ((List.replicate (n - r) 0 ++ rootsT t i r).map encZ)]) (by simp [gL,posT,rootsT]) fun r hr=>?_
  simp only [u_impl_kidsOf_l0]
  have hrl:=rootsT_len t i r
  by_cases hlt : r < n
  · have hp:=posT_pos h (n:=r) (e:=i) (by omega) (by omega)
    obtain ⟨g1,g2⟩:=posT_len h (n:=r) (e:=i) (by omega) (by omega)
    have g3:=startT_le t (posT t i r - 1)
    rw [← posT_succ] at g3
    have h1:=hstart (posT t i r - 1) (by omega)
    rw [← posT_succ,show ((posT t i r - 1 : Nat) : Int) = (posT t i r : Int) - 1 by omega] at h1
    have e1 : ((n : Int) - 1 - r).toNat = n - 1 - r:=by omega
    have e2 : (List.replicate (n - r) 0 ++ rootsT t i r).set (n - 1 - r) ((posT t i r : Int) - 1) = List.replicate (n - (r + 1)) 0 ++ rootsT t i (r + 1):=by
      rw [List.set_append_left _ _ (by simp;omega),show n - r = (n - 1 - r) + 1 by omega,rep_last,rootsT_cons,show n - (r + 1) = n - 1 - r by omega,List.append_assoc,show ((posT t i r - 1 : Nat) : Int) = (posT t i r : Int) - 1 by omega]
      rfl
    have e4 : (List.replicate (n - r) 0 ++ rootsT t i r).length = n:=by rw [List.length_append,List.length_replicate,hrl];omega
    repeat' (first | (with_reducible first | refine jn_in ?_ | refine cl_ok (by assumption) rfl ?_ | refine cl_okP (by assumption) rfl ?_ | refine br_if (fun hbr=>?_) fun hbr=>?_ | refine br_ifn (fun hbr=>?_) fun hbr=>?_ | refine br_nb (fun hbr=>?_) fun hbr=>?_ | refine br_b (fun hbr=>?_) fun hbr=>?_) | simp (disch:=first | omega | (simp only [length_take,length_drop,length_append,map_cons,map_nil,length_map,length_cons,length_nil,length_set,length_replicate];omega) | (simp only [length_cons,length_nil,Nat.zero_add,Nat.reduceAdd])) only [go_sem,↓reduceIte,Nat.reduceAdd,Int.reduceNeg,Int.reduceAdd,Int.reduceSub,Int.reduceMul,Int.reduceLT,Int.reduceLE,Int.reduceEq,Int.reduceToNat,Nat.reduceBEq,nat1,e1,e2,e4,st_z])
    all_goals first | omega | exact ⟨by congr 3 <;> first | omega | (congr 2;omega),hlt⟩ | skip
  · obtain rfl : r = n:=by omega
    repeat' (first | (with_reducible first | refine jn_in ?_ | refine cl_ok (by assumption) rfl ?_ | refine cl_okP (by assumption) rfl ?_ | refine br_if (fun hbr=>?_) fun hbr=>?_ | refine br_ifn (fun hbr=>?_) fun hbr=>?_ | refine br_nb (fun hbr=>?_) fun hbr=>?_ | refine br_b (fun hbr=>?_) fun hbr=>?_) | simp (disch:=first | omega | (simp only [length_take,length_drop,length_append,map_cons,map_nil,length_map,length_cons,length_nil,length_set,length_replicate];omega) | (simp only [length_cons,length_nil,Nat.zero_add,Nat.reduceAdd])) only [go_sem,↓reduceIte,Nat.reduceAdd,Int.reduceNeg,Int.reduceAdd,Int.reduceSub,Int.reduceMul,Int.reduceLT,Int.reduceLE,Int.reduceEq,Int.reduceToNat,Nat.reduceBEq,nat1,true_and])
    all_goals first | omega | (simp only [Nat.sub_self,List.replicate_zero,List.nil_append];rfl)
set_option maxHeartbeats 2000000 in
theorem specKidsT_m (t : List Nod) (h : treeB t = true) (i : Nat) (hi : i < t.length) : Meets Try.prog 68 [(false,[encNods t]),(false,[.sc (.int .i64 i)])] [(false,[encZs (kidsT t i)],true)]:=by
  obtain ⟨n,k1,k2,k3,-⟩:=lenT_step h hi
  have hl:=tree_len h
  have hle:=lenT_le t i
  have hstart:=fun j hj=>specStart_m t h j hj
  have e0 : kidsT t i = rootsT t i n:=by unfold kidsT;rw [k1];rfl
  rw [e0]
  refine meets_upf Try.func68 u_spec_l16Kids_g rfl ?_;simp only [u_spec_l16Kids_u]
  simp only [encNods,encZs] at hstart ⊢
  simp (disch:=first | omega | (simp only [length_take,length_drop,length_append,map_cons,map_nil,length_map,length_cons,length_nil,length_set,length_replicate];omega) | (simp only [length_cons,length_nil,Nat.zero_add,Nat.reduceAdd])) only [go_sem,↓reduceIte,Nat.reduceAdd,Int.reduceNeg,Int.reduceAdd,Int.reduceSub,Int.reduceMul,Int.reduceLT,Int.reduceLE,Int.reduceEq,Int.reduceToNat,Nat.reduceBEq,nat1,true_and]
  refine lp_n n (fun r=>[.sc (.int .i64 (r : Nat)),.sc (.int .i64 ((posT t i r : Int) - 1)),.sl 3 1 ((rootsT t i r).map encZ)]) (by simp [gL,posT,rootsT]) fun r hr=>?_
  simp only [u_spec_l16Kids_l0]
  have hrl:=rootsT_len t i r
  by_cases hlt : r < n
  · have hp:=posT_pos h (n:=r) (e:=i) (by omega) (by omega)
    obtain ⟨g1,g2⟩:=posT_len h (n:=r) (e:=i) (by omega) (by omega)
    have g3:=startT_le t (posT t i r - 1)
    rw [← posT_succ] at g3
    have h1:=hstart (posT t i r - 1) (by omega)
    rw [← posT_succ,show ((posT t i r - 1 : Nat) : Int) = (posT t i r : Int) - 1 by omega] at h1
    have e2 : rootsT t i (r + 1) = [(posT t i r : Int) - 1] ++ rootsT t i r:=by
      rw [rootsT_cons,show ((posT t i r - 1 : Nat) : Int) = (posT t i r : Int) - 1 by omega];rfl
    rw [e2,List.map_append]
    have ea : eApp 3 1 8 (some (.sl 3 1 [[.sc (.int .i64 ((posT t i r : Int) - 1))]])) (some (.sl 3 1 ((rootsT t i r).map encZ))) = some [.sl 3 1 ([[.sc (.int .i64 ((posT t i r : Int) - 1))]] ++ (rootsT t i r).map encZ)]:=e_app (by simp;omega) (by omega)
    repeat' (first | (with_reducible first | refine jn_in ?_ | refine cl_ok (by assumption) rfl ?_ | refine cl_okP (by assumption) rfl ?_ | refine br_if (fun hbr=>?_) fun hbr=>?_ | refine br_ifn (fun hbr=>?_) fun hbr=>?_ | refine br_nb (fun hbr=>?_) fun hbr=>?_ | refine br_b (fun hbr=>?_) fun hbr=>?_) | simp (disch:=first | omega | (simp only [length_take,length_drop,length_append,map_cons,map_nil,length_map,length_cons,length_nil,length_set,length_replicate];omega) | (simp only [length_cons,length_nil,Nat.zero_add,Nat.reduceAdd])) only [go_sem,↓reduceIte,Nat.reduceAdd,Int.reduceNeg,Int.reduceAdd,Int.reduceSub,Int.reduceMul,Int.reduceLT,Int.reduceLE,Int.reduceEq,Int.reduceToNat,Nat.reduceBEq,nat1,ix_Nod,encNod,encSs,k1,List.map_cons,List.map_nil,encZ,ea])
    all_goals first | omega | exact ⟨rfl,hlt⟩ | skip
  · obtain rfl : r = n:=by omega
    repeat' (first | (with_reducible first | refine jn_in ?_ | refine cl_ok (by assumption) rfl ?_ | refine cl_okP (by assumption) rfl ?_ | refine br_if (fun hbr=>?_) fun hbr=>?_ | refine br_ifn (fun hbr=>?_) fun hbr=>?_ | refine br_nb (fun hbr=>?_) fun hbr=>?_ | refine br_b (fun hbr=>?_) fun hbr=>?_) | simp (disch:=first | omega | (simp only [length_take,length_drop,length_append,map_cons,map_nil,length_map,length_cons,length_nil,length_set,length_replicate];omega) | (simp only [length_cons,length_nil,Nat.zero_add,Nat.reduceAdd])) only [go_sem,↓reduceIte,Nat.reduceAdd,Int.reduceNeg,Int.reduceAdd,Int.reduceSub,Int.reduceMul,Int.reduceLT,Int.reduceLE,Int.reduceEq,Int.reduceToNat,Nat.reduceBEq,nat1,ix_Nod,encNod,encSs,k1])
    all_goals first | omega | rfl
def blv (s : ByteArray) : Int × Int × Int :=
  if s = ⟨#[60,45]⟩ ∨ s = ⟨#[60,60,45]⟩ then (1,13,1) else if s = ⟨#[126]⟩ then (2,2,3) else if s = ⟨#[124]⟩ ∨ s = ⟨#[124,124]⟩ then (3,3,4) else if s = ⟨#[38]⟩ ∨ s = ⟨#[38,38]⟩ then (4,4,5)
  else if s = ⟨#[61,61]⟩ ∨ s = ⟨#[33,61]⟩ ∨ s = ⟨#[60]⟩ ∨ s = ⟨#[60,61]⟩ ∨ s = ⟨#[62]⟩ ∨ s = ⟨#[62,61]⟩ then (6,7,7) else if s = ⟨#[43]⟩ ∨ s = ⟨#[45]⟩ then (7,7,8) else if s = ⟨#[42]⟩ ∨ s = ⟨#[47]⟩ then (8,8,9)
  else if s = ⟨#[37,37]⟩ ∨ s = ⟨#[37,47,37]⟩ then (9,9,10) else if s = ⟨#[58]⟩ then (10,10,11) else if s = ⟨#[94]⟩ then (12,13,11) else (0,0,0)
theorem ret_3 {a b c a' b' c' : Int} (h : (a,b,c) = (a',b',c')) : isRes [(false,[.sc (.int .i64 a')],true),(false,[.sc (.int .i64 b')],true),(false,[.sc (.int .i64 c')],true)] [(false,[.sc (.int .i64 a)]),(false,[.sc (.int .i64 b)]),(false,[.sc (.int .i64 c)])]:=by
  injection h with h1 h2;injection h2 with h2 h3;subst h1 h2 h3;rfl
set_option maxHeartbeats 4000000 in
theorem implBlv_m (s : ByteArray) : Meets Try.prog 81 [(false,[.sc (.string s)])] [(false,[.sc (.int .i64 (blv s).1)],true),(false,[.sc (.int .i64 (blv s).2.1)],true),(false,[.sc (.int .i64 (blv s).2.2)],true)]:=by
  refine meets_upf Try.func81 u_impl_binaryLevels_g rfl ?_;simp only [u_impl_binaryLevels_u]
  repeat' (first | (with_reducible first | refine jn_in ?_ | refine cl_ok (by assumption) rfl ?_ | refine cl_okP (by assumption) rfl ?_ | refine br_if (fun hbr=>?_) fun hbr=>?_ | refine br_ifn (fun hbr=>?_) fun hbr=>?_ | refine br_nb (fun hbr=>?_) fun hbr=>?_ | refine br_b (fun hbr=>?_) fun hbr=>?_) | simp (disch:=first | omega | (simp only [length_take,length_drop,length_append,map_cons,map_nil,length_map,length_cons,length_nil,length_set,length_replicate];omega) | (simp only [length_cons,length_nil,Nat.zero_add,Nat.reduceAdd])) only [go_sem,↓reduceIte,Nat.reduceAdd,Int.reduceNeg,Int.reduceAdd,Int.reduceSub,Int.reduceMul,Int.reduceLT,Int.reduceLE,Int.reduceEq,Int.reduceToNat,Nat.reduceBEq,nat1,u_impl_binaryLevels_j0])
  all_goals first | contradiction | (refine ret_3 ?_;simp [blv, *])
set_option maxHeartbeats 4000000 in
theorem specBlv_m (s : ByteArray) : Meets Try.prog 75 [(true,[.sc (.int .i64 5),.sc (.string s)])] [(false,[.sc (.int .i64 (blv s).1)],true),(false,[.sc (.int .i64 (blv s).2.1)],true),(false,[.sc (.int .i64 (blv s).2.2)],true)]:=by
  refine meets_upf Try.func75 u_spec_l17Levels_g rfl ?_;simp only [u_spec_l17Levels_u]
  repeat' (first | (with_reducible first | refine jn_in ?_ | refine cl_ok (by assumption) rfl ?_ | refine cl_okP (by assumption) rfl ?_ | refine br_if (fun hbr=>?_) fun hbr=>?_ | refine br_ifn (fun hbr=>?_) fun hbr=>?_ | refine br_nb (fun hbr=>?_) fun hbr=>?_ | refine br_b (fun hbr=>?_) fun hbr=>?_) | simp (disch:=first | omega | (simp only [length_take,length_drop,length_append,map_cons,map_nil,length_map,length_cons,length_nil,length_set,length_replicate];omega) | (simp only [length_cons,length_nil,Nat.zero_add,Nat.reduceAdd])) only [go_sem,↓reduceIte,Nat.reduceAdd,Int.reduceNeg,Int.reduceAdd,Int.reduceSub,Int.reduceMul,Int.reduceLT,Int.reduceLE,Int.reduceEq,Int.reduceToNat,Nat.reduceBEq,nat1,u_spec_l17Levels_j0])
  all_goals first | contradiction | (refine ret_3 ?_;simp [blv, *])
def ulv (s : ByteArray) : Int × Int:=if s = ⟨#[33]⟩ then (5,5) else if s = ⟨#[45]⟩ then (11,11) else if s = ⟨#[126]⟩ then (2,3) else (0,0)
theorem implUlv_m (s : ByteArray) : Meets Try.prog 52 [(false,[.sc (.string s)])] [(false,[.sc (.int .i64 (ulv s).1)],true),(false,[.sc (.int .i64 (ulv s).2)],true)]:=by
  have key : ∀ {a b a' b' : Int},(a,b) = (a',b')→isRes [(false,[.sc (.int .i64 a')],true),(false,[.sc (.int .i64 b')],true)] [(false,[.sc (.int .i64 a)]),(false,[.sc (.int .i64 b)])]:=by
    intro a b a' b' h;injection h with h1 h2;subst h1 h2;rfl
  refine meets_upf Try.func52 u_impl_unaryLevels_g rfl ?_;simp only [u_impl_unaryLevels_u]
  repeat' (first | (with_reducible first | refine jn_in ?_ | refine cl_ok (by assumption) rfl ?_ | refine cl_okP (by assumption) rfl ?_ | refine br_if (fun hbr=>?_) fun hbr=>?_ | refine br_ifn (fun hbr=>?_) fun hbr=>?_ | refine br_nb (fun hbr=>?_) fun hbr=>?_ | refine br_b (fun hbr=>?_) fun hbr=>?_) | simp (disch:=first | omega | (simp only [length_take,length_drop,length_append,map_cons,map_nil,length_map,length_cons,length_nil,length_set,length_replicate];omega) | (simp only [length_cons,length_nil,Nat.zero_add,Nat.reduceAdd])) only [go_sem,↓reduceIte,Nat.reduceAdd,Int.reduceNeg,Int.reduceAdd,Int.reduceSub,Int.reduceMul,Int.reduceLT,Int.reduceLE,Int.reduceEq,Int.reduceToNat,Nat.reduceBEq,nat1,true_and])
  all_goals (refine key ?_;simp [ulv, *])
def lvl (x : Nod) : Int:=if x.kind = 11 then (blv x.text).1 else if x.kind = 10 then (ulv x.text).1 else if x.kind ∈ [8,16,17,18,22,23,24,25,26,27] then 1 else if x.kind ∈ [9,12,13,14] then 13 else 14
set_option maxHeartbeats 4000000 in
theorem implLvl_m (x : Nod) : Meets Try.prog 80 [(true,encNod x)] [(false,[.sc (.int .i64 (lvl x))],true)]:=by
  obtain ⟨k,n,s,L,c⟩:=x
  have h1:=implBlv_m s
  have h2:=implUlv_m s
  refine meets_upf Try.func80 u_impl_levelOf_g rfl ?_;simp only [u_impl_levelOf_u]
  simp only [encNod,encSs]
  repeat' (first | (with_reducible first | refine jn_in ?_ | refine cl_ok (by assumption) rfl ?_ | refine cl_okP (by assumption) rfl ?_ | refine br_if (fun hbr=>?_) fun hbr=>?_ | refine br_ifn (fun hbr=>?_) fun hbr=>?_ | refine br_nb (fun hbr=>?_) fun hbr=>?_ | refine br_b (fun hbr=>?_) fun hbr=>?_) | simp (disch:=first | omega | (simp only [length_take,length_drop,length_append,map_cons,map_nil,length_map,length_cons,length_nil,length_set,length_replicate];omega) | (simp only [length_cons,length_nil,Nat.zero_add,Nat.reduceAdd])) only [go_sem,↓reduceIte,Nat.reduceAdd,Int.reduceNeg,Int.reduceAdd,Int.reduceSub,Int.reduceMul,Int.reduceLT,Int.reduceLE,Int.reduceEq,Int.reduceToNat,Nat.reduceBEq,nat1,true_and])
  all_goals (refine ret_z ?_;simp [lvl, *])
theorem una_cases {s : ByteArray} (h : hasB unaL s = true) : s = ⟨#[45]⟩ ∨ s = ⟨#[33]⟩ ∨ s = ⟨#[126]⟩:=by
  rw [unaH] at h
  exact of_decide_eq_true h
theorem mx00 : max (0 : Int) 0 = 0:=rfl
theorem mx01 : max (0 : Int) 1 = 1:=rfl
theorem mx02 : max (0 : Int) 2 = 2:=rfl
theorem ixl_0 {t : Nat} {a : DV} {l : List (List DV)} : eIdx 1 (some (.sl t 1 ([a] :: l))) (some (.sc (.int .i64 0))) = some [a]:=rfl
theorem ixl_1 {t : Nat} {a b : DV} {l : List (List DV)} : eIdx 1 (some (.sl t 1 ([a] :: [b] :: l))) (some (.sc (.int .i64 1))) = some [b]:=rfl
theorem ixl_2 {t : Nat} {a b c : DV} {l : List (List DV)} : eIdx 1 (some (.sl t 1 ([a] :: [b] :: [c] :: l))) (some (.sc (.int .i64 2))) = some [c]:=rfl
theorem chl_0 {t : Nat} {a : DV} {l : List (List DV)} : eChk 1 (some (.sl t 1 ([a] :: l))) (some (.sc (.int .i64 0))) = some []:=by simp [eChk]
theorem chl_1 {t : Nat} {a b : DV} {l : List (List DV)} : eChk 1 (some (.sl t 1 ([a] :: [b] :: l))) (some (.sc (.int .i64 1))) = some []:=by simp [eChk]
theorem chl_2 {t : Nat} {a b c : DV} {l : List (List DV)} : eChk 1 (some (.sl t 1 ([a] :: [b] :: [c] :: l))) (some (.sc (.int .i64 2))) = some []:=by simp [eChk]
set_option maxHeartbeats 4000000 in
theorem specLvl_m (x : Nod) (hx : x.kind = 10→hasB unaL x.text = true) : Meets Try.prog 47 [(true,encNod x)] [(false,[.sc (.int .i64 (lvl x))],true)]:=by
  obtain ⟨k,n,s,L,c⟩:=x
  simp only at hx
  have h1:=specBlv_m s
  have h2:=l1Find_m 9 unaL s (by decide)
  simp only [unaL,List.map_cons,List.map_nil,encS] at h2
  by_cases h10 : k = 10
  · subst h10
    rcases una_cases (hx rfl) with rfl | rfl | rfl
    · rw [show find1 [⟨#[45]⟩,⟨#[33]⟩,⟨#[126]⟩] ⟨#[45]⟩ = 0 by decide] at h2
      refine meets_upf Try.func47 u_spec_l18Level_g rfl ?_;simp only [u_spec_l18Level_u]
      simp only [encNod,encSs]
      repeat' (first | (with_reducible first | refine jn_in ?_ | refine cl_ok (by assumption) rfl ?_ | refine cl_okP (by assumption) rfl ?_ | refine br_if (fun hbr=>?_) fun hbr=>?_ | refine br_ifn (fun hbr=>?_) fun hbr=>?_ | refine br_nb (fun hbr=>?_) fun hbr=>?_ | refine br_b (fun hbr=>?_) fun hbr=>?_) | simp (disch:=first | omega | (simp only [length_take,length_drop,length_append,map_cons,map_nil,length_map,length_cons,length_nil,length_set,length_replicate];omega) | (simp only [length_cons,length_nil,Nat.zero_add,Nat.reduceAdd])) only [go_sem,↓reduceIte,Nat.reduceAdd,Int.reduceNeg,Int.reduceAdd,Int.reduceSub,Int.reduceMul,Int.reduceLT,Int.reduceLE,Int.reduceEq,Int.reduceToNat,Nat.reduceBEq,nat1,ixl_0,ixl_1,ixl_2,chl_0,chl_1,chl_2,mx00,mx01,mx02])
      all_goals first | contradiction | (refine ret_z ?_;simp [lvl,ulv];done) | exact ret_z (by decide)
    · rw [show find1 [⟨#[45]⟩,⟨#[33]⟩,⟨#[126]⟩] ⟨#[33]⟩ = 1 by decide] at h2
      refine meets_upf Try.func47 u_spec_l18Level_g rfl ?_;simp only [u_spec_l18Level_u]
      simp only [encNod,encSs]
      repeat' (first | (with_reducible first | refine jn_in ?_ | refine cl_ok (by assumption) rfl ?_ | refine cl_okP (by assumption) rfl ?_ | refine br_if (fun hbr=>?_) fun hbr=>?_ | refine br_ifn (fun hbr=>?_) fun hbr=>?_ | refine br_nb (fun hbr=>?_) fun hbr=>?_ | refine br_b (fun hbr=>?_) fun hbr=>?_) | simp (disch:=first | omega | (simp only [length_take,length_drop,length_append,map_cons,map_nil,length_map,length_cons,length_nil,length_set,length_replicate];omega) | (simp only [length_cons,length_nil,Nat.zero_add,Nat.reduceAdd])) only [go_sem,↓reduceIte,Nat.reduceAdd,Int.reduceNeg,Int.reduceAdd,Int.reduceSub,Int.reduceMul,Int.reduceLT,Int.reduceLE,Int.reduceEq,Int.reduceToNat,Nat.reduceBEq,nat1,ixl_0,ixl_1,ixl_2,chl_0,chl_1,chl_2,mx00,mx01,mx02])
      all_goals first | contradiction | (refine ret_z ?_;simp [lvl,ulv];done) | exact ret_z (by decide)
    · rw [show find1 [⟨#[45]⟩,⟨#[33]⟩,⟨#[126]⟩] ⟨#[126]⟩ = 2 by decide] at h2
      refine meets_upf Try.func47 u_spec_l18Level_g rfl ?_;simp only [u_spec_l18Level_u]
      simp only [encNod,encSs]
      repeat' (first | (with_reducible first | refine jn_in ?_ | refine cl_ok (by assumption) rfl ?_ | refine cl_okP (by assumption) rfl ?_ | refine br_if (fun hbr=>?_) fun hbr=>?_ | refine br_ifn (fun hbr=>?_) fun hbr=>?_ | refine br_nb (fun hbr=>?_) fun hbr=>?_ | refine br_b (fun hbr=>?_) fun hbr=>?_) | simp (disch:=first | omega | (simp only [length_take,length_drop,length_append,map_cons,map_nil,length_map,length_cons,length_nil,length_set,length_replicate];omega) | (simp only [length_cons,length_nil,Nat.zero_add,Nat.reduceAdd])) only [go_sem,↓reduceIte,Nat.reduceAdd,Int.reduceNeg,Int.reduceAdd,Int.reduceSub,Int.reduceMul,Int.reduceLT,Int.reduceLE,Int.reduceEq,Int.reduceToNat,Nat.reduceBEq,nat1,ixl_0,ixl_1,ixl_2,chl_0,chl_1,chl_2,mx00,mx01,mx02])
      all_goals first | contradiction | (refine ret_z ?_;simp [lvl,ulv];done) | exact ret_z (by decide)
  · refine meets_upf Try.func47 u_spec_l18Level_g rfl ?_;simp only [u_spec_l18Level_u]
    simp only [encNod,encSs]
    repeat' (first | (with_reducible first | refine jn_in ?_ | refine cl_ok (by assumption) rfl ?_ | refine cl_okP (by assumption) rfl ?_ | refine br_if (fun hbr=>?_) fun hbr=>?_ | refine br_ifn (fun hbr=>?_) fun hbr=>?_ | refine br_nb (fun hbr=>?_) fun hbr=>?_ | refine br_b (fun hbr=>?_) fun hbr=>?_) | simp (disch:=first | omega | (simp only [length_take,length_drop,length_append,map_cons,map_nil,length_map,length_cons,length_nil,length_set,length_replicate];omega) | (simp only [length_cons,length_nil,Nat.zero_add,Nat.reduceAdd])) only [go_sem,↓reduceIte,Nat.reduceAdd,Int.reduceNeg,Int.reduceAdd,Int.reduceSub,Int.reduceMul,Int.reduceLT,Int.reduceLE,Int.reduceEq,Int.reduceToNat,Nat.reduceBEq,nat1,true_and])
    all_goals first | contradiction | (refine ret_z ?_;simp [lvl, *])
end Go.Proofs.Ytfdpkdfmkedkmaa

namespace Go.Proofs.Ytfdpkdfmkedkmaa
open List (length_take length_drop length_append map_cons map_nil length_map length_cons length_nil length_set length_replicate)
open Go.RowKit
set_option maxRecDepth 100000
theorem szl (a : Array UInt8) : (ByteArray.mk a).size = a.size:=rfl
theorem maxLen_n : maxLen = 9223372036854775807:=rfl
def fldB (s : ByteArray) : ByteArray:=if nameB s = true then fmtName s else quoteB s
def labB (s : ByteArray) : ByteArray:=if s = ⟨#[]⟩ then ⟨#[]⟩ else fldB s ++ ⟨#[32,61,32]⟩
theorem fldB_size {s : ByteArray} (h : s.size≤60) : (fldB s).size≤242:=by
  have h1:=fmtName_size s
  have h2:=quoteB_size s
  unfold fldB
  split <;> omega
theorem labB_size {s : ByteArray} (h : s.size≤60) : (labB s).size≤245:=by
  have h1:=fldB_size h
  have e : (⟨#[32,61,32]⟩ : ByteArray).size = 3:=rfl
  unfold labB
  split
  · exact Nat.zero_le _
  · rw [ByteArray.size_append];omega
theorem implFld_m (s : ByteArray) (hs : s.size≤60) : Meets Try.prog 55 [(false,[.sc (.string s)])] [(false,[.sc (.string (fldB s))],true)]:=by
  have h1:=implName_m s (by omega)
  have h2:=implFmtName_m s (by omega)
  have h3:=implQuo_m s (by omega)
  unfold fldB
  cases hn : nameB s
  · rw [hn] at h1
    refine meets_upf Try.func55 u_impl_printLabel_g rfl ?_;simp only [u_impl_printLabel_u]
    repeat' (first | (with_reducible first | refine jn_in ?_ | refine cl_ok (by assumption) rfl ?_ | refine cl_okP (by assumption) rfl ?_ | refine br_if (fun hbr=>?_) fun hbr=>?_ | refine br_ifn (fun hbr=>?_) fun hbr=>?_ | refine br_nb (fun hbr=>?_) fun hbr=>?_ | refine br_b (fun hbr=>?_) fun hbr=>?_) | simp (disch:=first | omega | (simp only [length_take,length_drop,length_append,map_cons,map_nil,length_map,length_cons,length_nil,length_set,length_replicate];omega) | (simp only [length_cons,length_nil,Nat.zero_add,Nat.reduceAdd])) only [go_sem,↓reduceIte,Nat.reduceAdd,Int.reduceNeg,Int.reduceAdd,Int.reduceSub,Int.reduceMul,Int.reduceLT,Int.reduceLE,Int.reduceEq,Int.reduceToNat,Nat.reduceBEq,nat1,true_and])
    rfl
  · rw [hn] at h1
    refine meets_upf Try.func55 u_impl_printLabel_g rfl ?_;simp only [u_impl_printLabel_u]
    repeat' (first | (with_reducible first | refine jn_in ?_ | refine cl_ok (by assumption) rfl ?_ | refine cl_okP (by assumption) rfl ?_ | refine br_if (fun hbr=>?_) fun hbr=>?_ | refine br_ifn (fun hbr=>?_) fun hbr=>?_ | refine br_nb (fun hbr=>?_) fun hbr=>?_ | refine br_b (fun hbr=>?_) fun hbr=>?_) | simp (disch:=first | omega | (simp only [length_take,length_drop,length_append,map_cons,map_nil,length_map,length_cons,length_nil,length_set,length_replicate];omega) | (simp only [length_cons,length_nil,Nat.zero_add,Nat.reduceAdd])) only [go_sem,↓reduceIte,Nat.reduceAdd,Int.reduceNeg,Int.reduceAdd,Int.reduceSub,Int.reduceMul,Int.reduceLT,Int.reduceLE,Int.reduceEq,Int.reduceToNat,Nat.reduceBEq,nat1,true_and])
    rfl
theorem specFld_m (s : ByteArray) (hs : s.size≤60) : Meets Try.prog 76 [(false,[.sc (.string s)])] [(false,[.sc (.string (fldB s))],true)]:=by
  have h1:=specName_m s (by omega)
  have h2:=specFmtName_m s (by omega)
  have h3:=specQuo_m s (by omega)
  unfold fldB
  cases hn : nameB s
  · rw [hn] at h1
    refine meets_upf Try.func76 u_spec_l18Field_g rfl ?_;simp only [u_spec_l18Field_u]
    repeat' (first | (with_reducible first | refine jn_in ?_ | refine cl_ok (by assumption) rfl ?_ | refine cl_okP (by assumption) rfl ?_ | refine br_if (fun hbr=>?_) fun hbr=>?_ | refine br_ifn (fun hbr=>?_) fun hbr=>?_ | refine br_nb (fun hbr=>?_) fun hbr=>?_ | refine br_b (fun hbr=>?_) fun hbr=>?_) | simp (disch:=first | omega | (simp only [length_take,length_drop,length_append,map_cons,map_nil,length_map,length_cons,length_nil,length_set,length_replicate];omega) | (simp only [length_cons,length_nil,Nat.zero_add,Nat.reduceAdd])) only [go_sem,↓reduceIte,Nat.reduceAdd,Int.reduceNeg,Int.reduceAdd,Int.reduceSub,Int.reduceMul,Int.reduceLT,Int.reduceLE,Int.reduceEq,Int.reduceToNat,Nat.reduceBEq,nat1,true_and])
    rfl
  · rw [hn] at h1
    refine meets_upf Try.func76 u_spec_l18Field_g rfl ?_;simp only [u_spec_l18Field_u]
    repeat' (first | (with_reducible first | refine jn_in ?_ | refine cl_ok (by assumption) rfl ?_ | refine cl_okP (by assumption) rfl ?_ | refine br_if (fun hbr=>?_) fun hbr=>?_ | refine br_ifn (fun hbr=>?_) fun hbr=>?_ | refine br_nb (fun hbr=>?_) fun hbr=>?_ | refine br_b (fun hbr=>?_) fun hbr=>?_) | simp (disch:=first | omega | (simp only [length_take,length_drop,length_append,map_cons,map_nil,length_map,length_cons,length_nil,length_set,length_replicate];omega) | (simp only [length_cons,length_nil,Nat.zero_add,Nat.reduceAdd])) only [go_sem,↓reduceIte,Nat.reduceAdd,Int.reduceNeg,Int.reduceAdd,Int.reduceSub,Int.reduceMul,Int.reduceLT,Int.reduceLE,Int.reduceEq,Int.reduceToNat,Nat.reduceBEq,nat1,true_and])
    rfl
theorem specLab_m (s : ByteArray) (hs : s.size≤60) : Meets Try.prog 89 [(false,[.sc (.string s)])] [(false,[.sc (.string (labB s))],true)]:=by
  have h1:=specName_m s (by omega)
  have h2:=specFmtName_m s (by omega)
  have h3:=specQuo_m s (by omega)
  have g1:=fmtName_size s
  have g2:=quoteB_size s
  unfold labB fldB
  by_cases he : s = ⟨#[]⟩
  · rw [if_pos he]
    refine meets_upf Try.func89 u_spec_l4Label_g rfl ?_;simp only [u_spec_l4Label_u]
    repeat' (first | (with_reducible refine jn_in ?_) | (with_reducible refine cl_ok (by assumption) rfl ?_) | (with_reducible refine br_if (fun hbr=>?_) (fun hbr=>?_)) | (with_reducible refine br_ifn (fun hbr=>?_) (fun hbr=>?_)) | (with_reducible refine br_nb (fun hbr=>?_) (fun hbr=>?_)) | (with_reducible refine br_b (fun hbr=>?_) (fun hbr=>?_)) | simp (disch:=first | omega | (simp only [ByteArray.size_append,szl,List.size_toArray,List.length_cons,List.length_nil,Nat.zero_add,Nat.reduceAdd,maxLen_n];omega) | (simp only [List.length_append,List.map_cons,List.map_nil,List.length_map,List.length_cons,List.length_nil];omega) | (simp only [List.length_cons,List.length_nil,Nat.zero_add,Nat.reduceAdd])) only [go_sem,↓reduceIte,Nat.reduceAdd,Int.reduceNeg,Int.reduceAdd,Int.reduceSub,Int.reduceMul,Int.reduceLT,Int.reduceLE,Int.reduceEq,Int.reduceToNat,Nat.reduceBEq,e_cat,ByteArray.append_assoc,e_sle,e_sge,nat1,ix_s,ix_z,fl_s,fl_z,fl1_s,fl1_z,map_s,map_z,true_and])
    all_goals first | contradiction | rfl
  · rw [if_neg he]
    cases hn : nameB s
    · rw [hn] at h1
      refine meets_upf Try.func89 u_spec_l4Label_g rfl ?_;simp only [u_spec_l4Label_u]
      repeat' (first | (with_reducible refine jn_in ?_) | (with_reducible refine cl_ok (by assumption) rfl ?_) | (with_reducible refine br_if (fun hbr=>?_) (fun hbr=>?_)) | (with_reducible refine br_ifn (fun hbr=>?_) (fun hbr=>?_)) | (with_reducible refine br_nb (fun hbr=>?_) (fun hbr=>?_)) | (with_reducible refine br_b (fun hbr=>?_) (fun hbr=>?_)) | simp (disch:=first | omega | (simp only [ByteArray.size_append,szl,List.size_toArray,List.length_cons,List.length_nil,Nat.zero_add,Nat.reduceAdd,maxLen_n];omega) | (simp only [List.length_append,List.map_cons,List.map_nil,List.length_map,List.length_cons,List.length_nil];omega) | (simp only [List.length_cons,List.length_nil,Nat.zero_add,Nat.reduceAdd])) only [go_sem,↓reduceIte,Nat.reduceAdd,Int.reduceNeg,Int.reduceAdd,Int.reduceSub,Int.reduceMul,Int.reduceLT,Int.reduceLE,Int.reduceEq,Int.reduceToNat,Nat.reduceBEq,e_cat,ByteArray.append_assoc,e_sle,e_sge,nat1,ix_s,ix_z,fl_s,fl_z,fl1_s,fl1_z,map_s,map_z,true_and])
      all_goals first | contradiction | rfl
    · rw [hn] at h1
      refine meets_upf Try.func89 u_spec_l4Label_g rfl ?_;simp only [u_spec_l4Label_u]
      repeat' (first | (with_reducible refine jn_in ?_) | (with_reducible refine cl_ok (by assumption) rfl ?_) | (with_reducible refine br_if (fun hbr=>?_) (fun hbr=>?_)) | (with_reducible refine br_ifn (fun hbr=>?_) (fun hbr=>?_)) | (with_reducible refine br_nb (fun hbr=>?_) (fun hbr=>?_)) | (with_reducible refine br_b (fun hbr=>?_) (fun hbr=>?_)) | simp (disch:=first | omega | (simp only [ByteArray.size_append,szl,List.size_toArray,List.length_cons,List.length_nil,Nat.zero_add,Nat.reduceAdd,maxLen_n];omega) | (simp only [List.length_append,List.map_cons,List.map_nil,List.length_map,List.length_cons,List.length_nil];omega) | (simp only [List.length_cons,List.length_nil,Nat.zero_add,Nat.reduceAdd])) only [go_sem,↓reduceIte,Nat.reduceAdd,Int.reduceNeg,Int.reduceAdd,Int.reduceSub,Int.reduceMul,Int.reduceLT,Int.reduceLE,Int.reduceEq,Int.reduceToNat,Nat.reduceBEq,e_cat,ByteArray.append_assoc,e_sle,e_sge,nat1,ix_s,ix_z,fl_s,fl_z,fl1_s,fl1_z,map_s,map_z,true_and])
      all_goals first | contradiction | rfl
def rngL (g : Nat→ByteArray) (n : Nat) : List ByteArray:=(List.range n).map g
theorem rngL_succ (g : Nat→ByteArray) (n : Nat) : rngL g (n + 1) = rngL g n ++ [g n]:=by simp [rngL,List.range_succ]
theorem rngL_len (g : Nat→ByteArray) (n : Nat) : (rngL g n).length = n:=by simp [rngL]
theorem rngL_getD (g : Nat→ByteArray) {n j : Nat} (h : j < n) : (rngL g n).getD j default = g j:=by
  unfold rngL
  rw [List.getD_eq_getElem?_getD,List.getElem?_map,List.getElem?_range h];rfl
def joinG (g : Nat→ByteArray) (sep : ByteArray) : Nat→ByteArray
  | 0=>⟨#[]⟩
  | i + 1=>(if i = 0 then joinG g sep i else joinG g sep i ++ sep) ++ g i
theorem joinG_size {g : Nat→ByteArray} {sep : ByteArray} {m : Nat} : ∀ {n : Nat},(∀ j,j < n→(g j).size≤m)→(joinG g sep n).size≤n * (m + sep.size)
  | 0,_=>Nat.zero_le _
  | i + 1,h=>by
    have h1:=joinG_size (sep:=sep) (n:=i) fun j hj=>h j (by omega)
    have h2:=h i (by omega)
    rw [Nat.succ_mul]
    unfold joinG
    rw [ByteArray.size_append]
    split
    · omega
    · rw [ByteArray.size_append];omega
theorem joinTexts_m (g : Nat→ByteArray) (n : Nat) (sep : ByteArray) (hl : n≤200) (hx : ∀ j,j < n→(g j).size≤1000000) (hs : sep.size≤10) : Meets Try.prog 79 [(false,[.sl 9 1 ((rngL g n).map encS)]),(false,[.sc (.string sep)])] [(false,[.sc (.string (joinG g sep n))],true)]:=by
  have hln:=rngL_len g n
  refine meets_upf Try.func79 u_impl_joinTexts_g rfl ?_;simp only [u_impl_joinTexts_u]
  simp (disch:=first | omega | (simp only [length_take,length_drop,length_append,map_cons,map_nil,length_map,length_cons,length_nil,length_set,length_replicate];omega) | (simp only [length_cons,length_nil,Nat.zero_add,Nat.reduceAdd])) only [go_sem,↓reduceIte,Nat.reduceAdd,Int.reduceNeg,Int.reduceAdd,Int.reduceSub,Int.reduceMul,Int.reduceLT,Int.reduceLE,Int.reduceEq,Int.reduceToNat,Nat.reduceBEq,nat1,true_and]
  refine lp_n n (fun i=>[.sc (.int .i64 i),.sc (.string (joinG g sep i))]) rfl fun i hi=>?_
  have h1:=joinG_size (g:=g) (sep:=sep) (n:=i) fun j hj=>hx j (by omega)
  have h3 : i * (1000000 + sep.size)≤200 * 1000010:=Nat.mul_le_mul (by omega) (by omega)
  simp only [u_impl_joinTexts_l1]
  by_cases hlt : i < n
  · have h2:=hx i hlt
    have hg:=rngL_getD g hlt
    have e1 : (joinG g sep i).size + sep.size≤maxLen:=by rw [maxLen_n];omega
    have e2 : (joinG g sep i).size + (g i).size≤maxLen:=by rw [maxLen_n];omega
    have e3 : ((joinG g sep i) ++ sep).size + (g i).size≤maxLen:=by rw [ByteArray.size_append,maxLen_n];omega
    have hj : joinG g sep (i + 1) = (if i = 0 then joinG g sep i else joinG g sep i ++ sep) ++ g i:=rfl
    repeat' (first | (with_reducible first | refine jn_in ?_ | refine cl_ok (by assumption) rfl ?_ | refine cl_okP (by assumption) rfl ?_ | refine br_if (fun hbr=>?_) fun hbr=>?_ | refine br_ifn (fun hbr=>?_) fun hbr=>?_ | refine br_nb (fun hbr=>?_) fun hbr=>?_ | refine br_b (fun hbr=>?_) fun hbr=>?_) | simp (disch:=first | omega | (simp only [length_take,length_drop,length_append,map_cons,map_nil,length_map,length_cons,length_nil,length_set,length_replicate];omega) | (simp only [length_cons,length_nil,Nat.zero_add,Nat.reduceAdd])) only [go_sem,↓reduceIte,Nat.reduceAdd,Int.reduceNeg,Int.reduceAdd,Int.reduceSub,Int.reduceMul,Int.reduceLT,Int.reduceLE,Int.reduceEq,Int.reduceToNat,Nat.reduceBEq,nat1,hg,e_cat e1,e_cat e2,e_cat e3,u_impl_joinTexts_j0])
    all_goals first | omega | exact ⟨by rw [hj,if_neg (by omega)],hlt⟩ | exact ⟨by rw [hj,if_pos (by omega)],hlt⟩
  · obtain rfl : i = n:=by omega
    repeat' (first | (with_reducible first | refine jn_in ?_ | refine cl_ok (by assumption) rfl ?_ | refine cl_okP (by assumption) rfl ?_ | refine br_if (fun hbr=>?_) fun hbr=>?_ | refine br_ifn (fun hbr=>?_) fun hbr=>?_ | refine br_nb (fun hbr=>?_) fun hbr=>?_ | refine br_b (fun hbr=>?_) fun hbr=>?_) | simp (disch:=first | omega | (simp only [length_take,length_drop,length_append,map_cons,map_nil,length_map,length_cons,length_nil,length_set,length_replicate];omega) | (simp only [length_cons,length_nil,Nat.zero_add,Nat.reduceAdd])) only [go_sem,↓reduceIte,Nat.reduceAdd,Int.reduceNeg,Int.reduceAdd,Int.reduceSub,Int.reduceMul,Int.reduceLT,Int.reduceLE,Int.reduceEq,Int.reduceToNat,Nat.reduceBEq,nat1,true_and])
    all_goals first | omega | rfl
def par (t : List Nod) (f : Nat→ByteArray) (lev : Int) (z : Int) : ByteArray:=if lvl (t.getD z.toNat default) < lev then ⟨#[40]⟩ ++ (f z.toNat ++ ⟨#[41]⟩) else f z.toNat
theorem par_size (t : List Nod) (f : Nat→ByteArray) (lev z : Int) : (par t f lev z).size≤(f z.toNat).size + 2:=by
  have e1 : (⟨#[40]⟩ : ByteArray).size = 1:=rfl
  have e2 : (⟨#[41]⟩ : ByteArray).size = 1:=rfl
  unfold par
  split
  · simp only [ByteArray.size_append];omega
  · omega
theorem nB_una {x : Nod} (h : nB x = true) (hk : x.kind = 10) : hasB unaL x.text = true:=by
  unfold nB nodB at h
  simp only [Bool.and_eq_true] at h
  have h:=h.2.2.2.1
  unfold txtB at h
  rw [if_pos (.inl (by rw [hk];decide))] at h
  unfold txtR at h
  rwa [if_neg (by omega),if_pos hk] at h
theorem implKid_m {t : List Nod} (ht : t.length≤200) {f : Nat→ByteArray} {z lev : Int} (h0 : 0≤z) (h1 : z < t.length) (hs : (f z.toNat).size≤1000000)
    (hf : Meets Try.prog 37 [(false,[encNods t]),(false,[.sc (.int .i64 z)])] [(false,[.sc (.string (f z.toNat))],true)]) :
    Meets Try.prog 53 [(false,[encNods t]),(false,[.sc (.int .i64 z)]),(false,[.sc (.int .i64 lev)])] [(false,[.sc (.string (par t f lev z))],true)]:=by
  have hL:=implLvl_m (t.getD z.toNat default)
  unfold par
  generalize f z.toNat = s at *
  refine meets_upf Try.func53 u_impl_printKid_g rfl ?_;simp only [u_impl_printKid_u]
  simp only [encNods,encNod,encSs] at hf hL ⊢
  repeat' (first | (with_reducible refine jn_in ?_) | (with_reducible refine cl_ok (by assumption) rfl ?_) | (with_reducible refine br_if (fun hbr=>?_) (fun hbr=>?_)) | (with_reducible refine br_ifn (fun hbr=>?_) (fun hbr=>?_)) | (with_reducible refine br_nb (fun hbr=>?_) (fun hbr=>?_)) | (with_reducible refine br_b (fun hbr=>?_) (fun hbr=>?_)) | simp (disch:=first | omega | (simp only [ByteArray.size_append,szl,List.size_toArray,List.length_cons,List.length_nil,Nat.zero_add,Nat.reduceAdd,maxLen_n];omega) | (simp only [List.length_append,List.map_cons,List.map_nil,List.length_map,List.length_cons,List.length_nil];omega) | (simp only [List.length_cons,List.length_nil,Nat.zero_add,Nat.reduceAdd])) only [go_sem,↓reduceIte,Nat.reduceAdd,Int.reduceNeg,Int.reduceAdd,Int.reduceSub,Int.reduceMul,Int.reduceLT,Int.reduceLE,Int.reduceEq,Int.reduceToNat,Nat.reduceBEq,e_cat,ByteArray.append_assoc,e_sle,e_sge,nat1,ix_s,ix_z,fl_s,fl_z,fl1_s,fl1_z,map_s,map_z,ix_Nod,encNod,encSs])
  all_goals first
    | (rw [if_pos ‹_›];rfl)
    | (rw [if_neg ‹_›];rfl)
theorem specKid_m {t : List Nod} (hT : treeB t = true) {f : Nat→ByteArray} {z lev : Int} (h0 : 0≤z) (h1 : z < t.length) (hs : (f z.toNat).size≤1000000)
    (hf : Meets Try.prog 46 [(false,[encNods t]),(false,[.sc (.int .i64 z)])] [(false,[.sc (.string (f z.toNat))],true)]) :
    Meets Try.prog 36 [(false,[encNods t]),(false,[.sc (.int .i64 z)]),(false,[.sc (.int .i64 lev)])] [(false,[.sc (.string (par t f lev z))],true)]:=by
  have hl:=tree_len hT
  have hL:=specLvl_m (t.getD z.toNat default) (nB_una (tree_nB hT (by omega)))
  unfold par
  generalize f z.toNat = s at *
  refine meets_upf Try.func36 u_spec_l18Show_g rfl ?_;simp only [u_spec_l18Show_u]
  simp only [encNods,encNod,encSs] at hf hL ⊢
  repeat' (first | (with_reducible refine jn_in ?_) | (with_reducible refine cl_ok (by assumption) rfl ?_) | (with_reducible refine br_if (fun hbr=>?_) (fun hbr=>?_)) | (with_reducible refine br_ifn (fun hbr=>?_) (fun hbr=>?_)) | (with_reducible refine br_nb (fun hbr=>?_) (fun hbr=>?_)) | (with_reducible refine br_b (fun hbr=>?_) (fun hbr=>?_)) | simp (disch:=first | omega | (simp only [ByteArray.size_append,szl,List.size_toArray,List.length_cons,List.length_nil,Nat.zero_add,Nat.reduceAdd,maxLen_n];omega) | (simp only [List.length_append,List.map_cons,List.map_nil,List.length_map,List.length_cons,List.length_nil];omega) | (simp only [List.length_cons,List.length_nil,Nat.zero_add,Nat.reduceAdd])) only [go_sem,↓reduceIte,Nat.reduceAdd,Int.reduceNeg,Int.reduceAdd,Int.reduceSub,Int.reduceMul,Int.reduceLT,Int.reduceLE,Int.reduceEq,Int.reduceToNat,Nat.reduceBEq,e_cat,ByteArray.append_assoc,e_sle,e_sge,nat1,ix_s,ix_z,fl_s,fl_z,fl1_s,fl1_z,map_s,map_z,ix_Nod,encNod,encSs])
  all_goals first
    | (rw [if_pos ‹_›];rfl)
    | (rw [if_neg ‹_›];rfl)
end Go.Proofs.Ytfdpkdfmkedkmaa

namespace Go.Proofs.Ytfdpkdfmkedkmaa
open List (length_take length_drop length_append map_cons map_nil length_map length_cons length_nil length_set length_replicate)
open Go.RowKit
set_option maxRecDepth 100000
theorem e_nilS (a : ByteArray) : (⟨#[]⟩ : ByteArray) ++ a = a:=ByteArray.empty_append
def KidI (t : List Nod) (z lev : Int) (s : ByteArray) : Prop:=Meets Try.prog 53 [(false,[encNods t]),(false,[.sc (.int .i64 z)]),(false,[.sc (.int .i64 lev)])] [(false,[.sc (.string s)],true)]
def KidS (t : List Nod) (z lev : Int) (s : ByteArray) : Prop:=Meets Try.prog 36 [(false,[encNods t]),(false,[.sc (.int .i64 z)]),(false,[.sc (.int .i64 lev)])] [(false,[.sc (.string s)],true)]
theorem joinG_step (g : Nat→ByteArray) (sep : ByteArray) (i : Nat) : joinG g sep (i + 1) = if i = 0 then joinG g sep i ++ g i else joinG g sep i ++ (sep ++ g i):=by
  show (if i = 0 then joinG g sep i else joinG g sep i ++ sep) ++ g i = _
  split
  · rfl
  · rw [ByteArray.append_assoc]
theorem implAll_m (t : List Nod) (K : List Int) (sep : ByteArray) (g : Nat→ByteArray) (n : Nat) (hn : K.length = n) (h200 : n≤200) (hc : ∀ j,j < n→KidI t (K.getD j default) 1 (g j)) (hs : ∀ j,j < n→(g j).size≤1000000) (hsep : sep.size≤10) :
    Meets Try.prog 49 [(false,[encNods t]),(false,[encZs K]),(false,[.sc (.string sep)])] [(false,[.sc (.string (joinG g sep n))],true)]:=by
  have hj:=joinTexts_m g n sep h200 hs hsep
  refine meets_upf Try.func49 u_impl_printAll_g rfl ?_;simp only [u_impl_printAll_u]
  simp only [encNods,encZs] at hj ⊢
  simp (disch:=first | omega | (simp only [length_take,length_drop,length_append,map_cons,map_nil,length_map,length_cons,length_nil,length_set,length_replicate];omega) | (simp only [length_cons,length_nil,Nat.zero_add,Nat.reduceAdd])) only [go_sem,↓reduceIte,Nat.reduceAdd,Int.reduceNeg,Int.reduceAdd,Int.reduceSub,Int.reduceMul,Int.reduceLT,Int.reduceLE,Int.reduceEq,Int.reduceToNat,Nat.reduceBEq,nat1,true_and]
  refine lp_n n (fun i=>[.sc (.int .i64 i),.sl 9 1 ((rngL g i).map encS)]) (by simp [gL,rngL]) fun i hi=>?_
  have hln:=rngL_len g i
  simp only [u_impl_printAll_l0]
  by_cases hlt : i < n
  · have h1:=hc i hlt
    have e:=rngL_succ g i
    unfold KidI at h1
    simp only [encNods] at h1
    rw [e]
    repeat' (first | (with_reducible first | refine jn_in ?_ | refine cl_ok (by assumption) rfl ?_ | refine cl_okP (by assumption) rfl ?_ | refine br_if (fun hbr=>?_) fun hbr=>?_ | refine br_ifn (fun hbr=>?_) fun hbr=>?_ | refine br_nb (fun hbr=>?_) fun hbr=>?_ | refine br_b (fun hbr=>?_) fun hbr=>?_) | simp (disch:=first | omega | (simp only [length_take,length_drop,length_append,map_cons,map_nil,length_map,length_cons,length_nil,length_set,length_replicate];omega) | (simp only [length_cons,length_nil,Nat.zero_add,Nat.reduceAdd])) only [go_sem,↓reduceIte,Nat.reduceAdd,Int.reduceNeg,Int.reduceAdd,Int.reduceSub,Int.reduceMul,Int.reduceLT,Int.reduceLE,Int.reduceEq,Int.reduceToNat,Nat.reduceBEq,nat1,true_and])
    all_goals first | omega | exact ⟨rfl,hlt⟩ | skip
  · obtain rfl : i = n:=by omega
    repeat' (first | (with_reducible first | refine jn_in ?_ | refine cl_ok (by assumption) rfl ?_ | refine cl_okP (by assumption) rfl ?_ | refine br_if (fun hbr=>?_) fun hbr=>?_ | refine br_ifn (fun hbr=>?_) fun hbr=>?_ | refine br_nb (fun hbr=>?_) fun hbr=>?_ | refine br_b (fun hbr=>?_) fun hbr=>?_) | simp (disch:=first | omega | (simp only [length_take,length_drop,length_append,map_cons,map_nil,length_map,length_cons,length_nil,length_set,length_replicate];omega) | (simp only [length_cons,length_nil,Nat.zero_add,Nat.reduceAdd])) only [go_sem,↓reduceIte,Nat.reduceAdd,Int.reduceNeg,Int.reduceAdd,Int.reduceSub,Int.reduceMul,Int.reduceLT,Int.reduceLE,Int.reduceEq,Int.reduceToNat,Nat.reduceBEq,nat1,true_and])
    all_goals first | omega | rfl
theorem specAll_m (t : List Nod) (K : List Int) (sep : ByteArray) (g : Nat→ByteArray) (n : Nat) (hn : K.length = n) (h200 : n≤200) (hc : ∀ j,j < n→KidS t (K.getD j default) 1 (g j)) (hs : ∀ j,j < n→(g j).size≤1000000) (hsep : sep.size≤10) :
    Meets Try.prog 69 [(false,[encNods t]),(false,[encZs K]),(false,[.sc (.string sep)])] [(false,[.sc (.string (joinG g sep n))],true)]:=by
  refine meets_upf Try.func69 u_spec_l18Join_g rfl ?_;simp only [u_spec_l18Join_u]
  simp only [encNods,encZs]
  simp (disch:=first | omega | (simp only [length_take,length_drop,length_append,map_cons,map_nil,length_map,length_cons,length_nil,length_set,length_replicate];omega) | (simp only [length_cons,length_nil,Nat.zero_add,Nat.reduceAdd])) only [go_sem,↓reduceIte,Nat.reduceAdd,Int.reduceNeg,Int.reduceAdd,Int.reduceSub,Int.reduceMul,Int.reduceLT,Int.reduceLE,Int.reduceEq,Int.reduceToNat,Nat.reduceBEq,nat1,true_and]
  refine lp_n n (fun i=>[.sc (.int .i64 i),.sc (.string (joinG g sep i))]) rfl fun i hi=>?_
  have hz:=joinG_size (g:=g) (sep:=sep) (n:=i) fun j hj=>hs j (by omega)
  have h3 : i * (1000000 + sep.size)≤200 * 1000010:=Nat.mul_le_mul (by omega) (by omega)
  simp only [u_spec_l18Join_l1]
  by_cases hlt : i < n
  · have h1:=hc i hlt
    have h2:=hs i hlt
    have e:=joinG_step g sep i
    unfold KidS at h1
    simp only [encNods] at h1
    rw [e]
    repeat' (first | (with_reducible refine jn_in ?_) | (with_reducible refine cl_ok (by assumption) rfl ?_) | (with_reducible refine br_if (fun hbr=>?_) (fun hbr=>?_)) | (with_reducible refine br_ifn (fun hbr=>?_) (fun hbr=>?_)) | (with_reducible refine br_nb (fun hbr=>?_) (fun hbr=>?_)) | (with_reducible refine br_b (fun hbr=>?_) (fun hbr=>?_)) | simp (disch:=first | omega | (simp only [ByteArray.size_append,szl,List.size_toArray,List.length_cons,List.length_nil,Nat.zero_add,Nat.reduceAdd,maxLen_n];omega) | (simp only [List.length_append,List.map_cons,List.map_nil,List.length_map,List.length_cons,List.length_nil];omega) | (simp only [List.length_cons,List.length_nil,Nat.zero_add,Nat.reduceAdd])) only [go_sem,↓reduceIte,Nat.reduceAdd,Int.reduceNeg,Int.reduceAdd,Int.reduceSub,Int.reduceMul,Int.reduceLT,Int.reduceLE,Int.reduceEq,Int.reduceToNat,Nat.reduceBEq,e_cat,ByteArray.append_assoc,e_sle,e_sge,nat1,ix_s,ix_z,fl_s,fl_z,fl1_s,fl1_z,map_s,map_z,u_spec_l18Join_j0])
    all_goals first | omega | exact ⟨by rw [if_neg (by omega)],hlt⟩ | exact ⟨by rw [if_pos (by omega)],hlt⟩
  · obtain rfl : i = n:=by omega
    repeat' (first | (with_reducible refine jn_in ?_) | (with_reducible refine cl_ok (by assumption) rfl ?_) | (with_reducible refine br_if (fun hbr=>?_) (fun hbr=>?_)) | (with_reducible refine br_ifn (fun hbr=>?_) (fun hbr=>?_)) | (with_reducible refine br_nb (fun hbr=>?_) (fun hbr=>?_)) | (with_reducible refine br_b (fun hbr=>?_) (fun hbr=>?_)) | simp (disch:=first | omega | (simp only [ByteArray.size_append,szl,List.size_toArray,List.length_cons,List.length_nil,Nat.zero_add,Nat.reduceAdd,maxLen_n];omega) | (simp only [List.length_append,List.map_cons,List.map_nil,List.length_map,List.length_cons,List.length_nil];omega) | (simp only [List.length_cons,List.length_nil,Nat.zero_add,Nat.reduceAdd])) only [go_sem,↓reduceIte,Nat.reduceAdd,Int.reduceNeg,Int.reduceAdd,Int.reduceSub,Int.reduceMul,Int.reduceLT,Int.reduceLE,Int.reduceEq,Int.reduceToNat,Nat.reduceBEq,e_cat,ByteArray.append_assoc,e_sle,e_sge,nat1,ix_s,ix_z,fl_s,fl_z,fl1_s,fl1_z,map_s,map_z,true_and])
    all_goals first | omega | rfl
def fnG (t : List Nod) (K : List Int) (L : List ByteArray) (g : Nat→ByteArray) (j : Nat) : ByteArray :=
  if (t.getD (K.getD j default).toNat default).kind = 1 then fmtName (L.getD j default) else fmtName (L.getD j default) ++ (⟨#[32,61,32]⟩ ++ g j)
def fnB (t : List Nod) (K : List Int) (L : List ByteArray) (g : Nat→ByteArray) : ByteArray:=⟨#[102,117,110,99,116,105,111,110,40]⟩ ++ (joinG (fnG t K L g) ⟨#[44,32]⟩ L.length ++ (⟨#[41,32]⟩ ++ g L.length))
theorem fnG_size {t : List Nod} {K : List Int} {L : List ByteArray} {g : Nat→ByteArray} {j m : Nat} (h : (t.getD (K.getD j default).toNat default).kind ≠ 1→(g j).size≤m) : (fnG t K L g j).size≤25 + m:=by
  have h1:=fmtName_size (L.getD j default)
  have e : (⟨#[32,61,32]⟩ : ByteArray).size = 3:=rfl
  unfold fnG
  split
  · omega
  · rename_i hk
    have:=h hk
    simp only [ByteArray.size_append];omega
set_option maxHeartbeats 2000000 in
theorem implFn_m (t : List Nod) (x : Nod) (K : List Int) (g : Nat→ByteArray) (hK : K.length = x.labels.length + 1) (h200 : K.length≤200) (ht : t.length≤200) (hz : ∀ j,j < K.length→0≤K.getD j default∧K.getD j default < t.length) (hL : ∀ j,j < x.labels.length→(x.labels.getD j default).size≤60)
    (hc : ∀ j,j < K.length→(j < x.labels.length→(t.getD (K.getD j default).toNat default).kind ≠ 1)→KidI t (K.getD j default) 1 (g j)∧(g j).size≤900000) :
    Meets Try.prog 50 [(false,[encNods t]),(true,encNod x),(false,[encZs K])] [(false,[.sc (.string (fnB t K x.labels g))],true)]:=by
  obtain ⟨k,n,s,L,c⟩:=x
  simp only at hK hL hc ⊢
  have hsz : ∀ j,j < L.length→(fnG t K L g j).size≤1000000:=fun j hj=>by
    have:=fnG_size (t:=t) (K:=K) (L:=L) (g:=g) (j:=j) (m:=900000) (fun h=>(hc j (by omega) (fun _=>h)).2)
    omega
  have hj:=joinTexts_m (fnG t K L g) L.length ⟨#[44,32]⟩ (by omega) hsz (by decide)
  obtain ⟨hk,hks⟩:=hc L.length (by omega) (fun h=>absurd h (Nat.lt_irrefl _))
  have hjs:=joinG_size (g:=fnG t K L g) (sep:=⟨#[44,32]⟩) (n:=L.length) hsz
  have e2 : (⟨#[44,32]⟩ : ByteArray).size = 2:=rfl
  have h3 : L.length * (1000000 + (⟨#[44,32]⟩ : ByteArray).size)≤200 * 1000002:=Nat.mul_le_mul (by omega) (by rw [e2];omega)
  unfold KidI at hk
  refine meets_upf Try.func50 u_impl_printFunction_g rfl ?_;simp only [u_impl_printFunction_u]
  simp only [encNods,encNod,encSs,encZs] at hj hk ⊢
  simp (disch:=first | omega | (simp only [length_take,length_drop,length_append,map_cons,map_nil,length_map,length_cons,length_nil,length_set,length_replicate];omega) | (simp only [length_cons,length_nil,Nat.zero_add,Nat.reduceAdd])) only [go_sem,↓reduceIte,Nat.reduceAdd,Int.reduceNeg,Int.reduceAdd,Int.reduceSub,Int.reduceMul,Int.reduceLT,Int.reduceLE,Int.reduceEq,Int.reduceToNat,Nat.reduceBEq,nat1,true_and]
  refine lp_n L.length (fun i=>[.sc (.int .i64 i),.sl 9 1 ((rngL (fnG t K L g) i).map encS)]) (by simp [gL,rngL]) fun i hi=>?_
  have hln:=rngL_len (fnG t K L g) i
  simp only [u_impl_printFunction_l1]
  by_cases hlt : i < L.length
  · have hzi:=hz i (by omega)
    have hf:=implFmtName_m (L.getD i default) (by have:=hL i hlt;omega)
    have hfs:=fmtName_size (L.getD i default)
    have e:=rngL_succ (fnG t K L g) i
    have eg : fnG t K L g i = if (t.getD (K.getD i default).toNat default).kind = 1 then fmtName (L.getD i default) else fmtName (L.getD i default) ++ (⟨#[32,61,32]⟩ ++ g i):=rfl
    rw [e,eg]
    by_cases hke : (t.getD (K.getD i default).toNat default).kind = 1
    · rw [if_pos hke]
      repeat' (first | (with_reducible refine jn_in ?_) | (with_reducible refine cl_ok (by assumption) rfl ?_) | (with_reducible refine br_if (fun hbr=>?_) (fun hbr=>?_)) | (with_reducible refine br_ifn (fun hbr=>?_) (fun hbr=>?_)) | (with_reducible refine br_nb (fun hbr=>?_) (fun hbr=>?_)) | (with_reducible refine br_b (fun hbr=>?_) (fun hbr=>?_)) | simp (disch:=first | omega | (simp only [ByteArray.size_append,szl,List.size_toArray,List.length_cons,List.length_nil,Nat.zero_add,Nat.reduceAdd,maxLen_n];omega) | (simp only [List.length_append,List.map_cons,List.map_nil,List.length_map,List.length_cons,List.length_nil];omega) | (simp only [List.length_cons,List.length_nil,Nat.zero_add,Nat.reduceAdd])) only [go_sem,↓reduceIte,Nat.reduceAdd,Int.reduceNeg,Int.reduceAdd,Int.reduceSub,Int.reduceMul,Int.reduceLT,Int.reduceLE,Int.reduceEq,Int.reduceToNat,Nat.reduceBEq,e_cat,ByteArray.append_assoc,e_sle,e_sge,nat1,ix_s,ix_z,fl_s,fl_z,fl1_s,fl1_z,map_s,map_z,ix_Nod,encNod,encSs,u_impl_printFunction_j0,hke])
      all_goals first | omega | contradiction | exact ⟨rfl,hlt⟩
    · rw [if_neg hke]
      obtain ⟨h1,h2⟩:=hc i (by omega) (fun _=>hke)
      unfold KidI at h1
      simp only [encNods] at h1
      repeat' (first | (with_reducible refine jn_in ?_) | (with_reducible refine cl_ok (by assumption) rfl ?_) | (with_reducible refine br_if (fun hbr=>?_) (fun hbr=>?_)) | (with_reducible refine br_ifn (fun hbr=>?_) (fun hbr=>?_)) | (with_reducible refine br_nb (fun hbr=>?_) (fun hbr=>?_)) | (with_reducible refine br_b (fun hbr=>?_) (fun hbr=>?_)) | simp (disch:=first | omega | (simp only [ByteArray.size_append,szl,List.size_toArray,List.length_cons,List.length_nil,Nat.zero_add,Nat.reduceAdd,maxLen_n];omega) | (simp only [List.length_append,List.map_cons,List.map_nil,List.length_map,List.length_cons,List.length_nil];omega) | (simp only [List.length_cons,List.length_nil,Nat.zero_add,Nat.reduceAdd])) only [go_sem,↓reduceIte,Nat.reduceAdd,Int.reduceNeg,Int.reduceAdd,Int.reduceSub,Int.reduceMul,Int.reduceLT,Int.reduceLE,Int.reduceEq,Int.reduceToNat,Nat.reduceBEq,e_cat,ByteArray.append_assoc,e_sle,e_sge,nat1,ix_s,ix_z,fl_s,fl_z,fl1_s,fl1_z,map_s,map_z,ix_Nod,encNod,encSs,u_impl_printFunction_j0])
      all_goals first | omega | contradiction | exact ⟨rfl,hlt⟩
  · obtain rfl : i = L.length:=by omega
    have e5 : ((L.length : Int) + 1 - 1).toNat = L.length:=by omega
    have e6 : (K.length : Int) - 1 = (L.length : Int):=by omega
    unfold fnB
    have e7 : ((L.length + 1 : Nat) : Int) - 1 = (L.length : Int):=by omega
    repeat' (first | (with_reducible refine jn_in ?_) | (with_reducible refine cl_ok (by assumption) rfl ?_) | (with_reducible refine br_if (fun hbr=>?_) (fun hbr=>?_)) | (with_reducible refine br_ifn (fun hbr=>?_) (fun hbr=>?_)) | (with_reducible refine br_nb (fun hbr=>?_) (fun hbr=>?_)) | (with_reducible refine br_b (fun hbr=>?_) (fun hbr=>?_)) | simp (disch:=first | omega | (simp only [ByteArray.size_append,szl,List.size_toArray,List.length_cons,List.length_nil,Nat.zero_add,Nat.reduceAdd,maxLen_n];omega) | (simp only [List.length_append,List.map_cons,List.map_nil,List.length_map,List.length_cons,List.length_nil];omega) | (simp only [List.length_cons,List.length_nil,Nat.zero_add,Nat.reduceAdd])) only [go_sem,↓reduceIte,Nat.reduceAdd,Int.reduceNeg,Int.reduceAdd,Int.reduceSub,Int.reduceMul,Int.reduceLT,Int.reduceLE,Int.reduceEq,Int.reduceToNat,Nat.reduceBEq,e_cat,ByteArray.append_assoc,e_sle,e_sge,nat1,ix_s,ix_z,fl_s,fl_z,fl1_s,fl1_z,map_s,map_z,e6,e7,hK,Int.toNat_natCast])
    all_goals first | omega | rfl
set_option maxHeartbeats 2000000 in
theorem specFn_m (t : List Nod) (i0 : Nat) (hi0 : i0 < t.length) (K : List Int) (g : Nat→ByteArray) (hK : K.length = (t.getD i0 default).labels.length + 1) (h200 : K.length≤200) (ht : t.length≤200) (hz : ∀ j,j < K.length→0≤K.getD j default∧K.getD j default < t.length) (hL : ∀ j,j < (t.getD i0 default).labels.length→((t.getD i0 default).labels.getD j default).size≤60)
    (hc : ∀ j,j < K.length→(j < (t.getD i0 default).labels.length→(t.getD (K.getD j default).toNat default).kind ≠ 1)→KidS t (K.getD j default) 1 (g j)∧(g j).size≤900000) :
    Meets Try.prog 73 [(false,[encNods t]),(false,[.sc (.int .i64 i0)]),(false,[encZs K])] [(false,[.sc (.string (fnB t K (t.getD i0 default).labels g))],true)]:=by
  have hix : eIdx 5 (some (.sl 41 5 (t.map encNod))) (some (.sc (.int .i64 (i0 : Int)))) = some (encNod (t.getD i0 default)):=by rw [ix_Nod (by omega) (by omega),Int.toNat_natCast]
  generalize t.getD i0 default = x at *
  obtain ⟨k,n,s,L,c⟩:=x
  simp only at hK hL hc ⊢
  simp only [encNod,encSs] at hix
  have hsz : ∀ j,j < L.length→(fnG t K L g j).size≤1000000:=fun j hj=>by
    have:=fnG_size (t:=t) (K:=K) (L:=L) (g:=g) (j:=j) (m:=900000) (fun h=>(hc j (by omega) (fun _=>h)).2)
    omega
  obtain ⟨hk,hks⟩:=hc L.length (by omega) (fun h=>absurd h (Nat.lt_irrefl _))
  have e2 : (⟨#[44,32]⟩ : ByteArray).size = 2:=rfl
  unfold KidS at hk
  refine meets_upf Try.func73 u_spec_l18Function_g rfl ?_;simp only [u_spec_l18Function_u]
  simp only [encNods,encZs] at hk ⊢
  simp (disch:=first | omega | (simp only [length_take,length_drop,length_append,map_cons,map_nil,length_map,length_cons,length_nil,length_set,length_replicate];omega) | (simp only [length_cons,length_nil,Nat.zero_add,Nat.reduceAdd])) only [go_sem,↓reduceIte,Nat.reduceAdd,Int.reduceNeg,Int.reduceAdd,Int.reduceSub,Int.reduceMul,Int.reduceLT,Int.reduceLE,Int.reduceEq,Int.reduceToNat,Nat.reduceBEq,nat1,true_and]
  refine lp_n L.length (fun i=>[.sc (.int .i64 i),.sc (.string (⟨#[102,117,110,99,116,105,111,110,40]⟩ ++ joinG (fnG t K L g) ⟨#[44,32]⟩ i))]) rfl fun i hi=>?_
  have hjs:=joinG_size (g:=fnG t K L g) (sep:=⟨#[44,32]⟩) (n:=i) fun j hj=>hsz j (by omega)
  have h3 : i * (1000000 + (⟨#[44,32]⟩ : ByteArray).size)≤200 * 1000002:=Nat.mul_le_mul (by omega) (by rw [e2];omega)
  simp only [u_spec_l18Function_l2]
  by_cases hlt : i < L.length
  · have hzi:=hz i (by omega)
    have hf:=specFmtName_m (L.getD i default) (by have:=hL i hlt;omega)
    have hfs:=fmtName_size (L.getD i default)
    have e:=joinG_step (fnG t K L g) ⟨#[44,32]⟩ i
    have eg : fnG t K L g i = if (t.getD (K.getD i default).toNat default).kind = 1 then fmtName (L.getD i default) else fmtName (L.getD i default) ++ (⟨#[32,61,32]⟩ ++ g i):=rfl
    rw [e,eg]
    by_cases hke : (t.getD (K.getD i default).toNat default).kind = 1
    · simp only [if_pos hke]
      repeat' (first | (with_reducible refine jn_in ?_) | (with_reducible refine cl_ok (by assumption) rfl ?_) | (with_reducible refine br_if (fun hbr=>?_) (fun hbr=>?_)) | (with_reducible refine br_ifn (fun hbr=>?_) (fun hbr=>?_)) | (with_reducible refine br_nb (fun hbr=>?_) (fun hbr=>?_)) | (with_reducible refine br_b (fun hbr=>?_) (fun hbr=>?_)) | simp (disch:=first | omega | (simp only [ByteArray.size_append,szl,List.size_toArray,List.length_cons,List.length_nil,Nat.zero_add,Nat.reduceAdd,maxLen_n];omega) | (simp only [List.length_append,List.map_cons,List.map_nil,List.length_map,List.length_cons,List.length_nil];omega) | (simp only [List.length_cons,List.length_nil,Nat.zero_add,Nat.reduceAdd])) only [go_sem,↓reduceIte,Nat.reduceAdd,Int.reduceNeg,Int.reduceAdd,Int.reduceSub,Int.reduceMul,Int.reduceLT,Int.reduceLE,Int.reduceEq,Int.reduceToNat,Nat.reduceBEq,e_cat,ByteArray.append_assoc,e_sle,e_sge,nat1,ix_s,ix_z,fl_s,fl_z,fl1_s,fl1_z,map_s,map_z,hix,ix_Nod,encNod,encSs,u_spec_l18Function_j0,u_spec_l18Function_j1,hke])
      all_goals first | omega | exact ⟨by rw [if_neg (by omega)],hlt⟩ | exact ⟨by rw [if_pos (by omega)],hlt⟩ | contradiction
    · simp only [if_neg hke]
      obtain ⟨h1,h2⟩:=hc i (by omega) (fun _=>hke)
      unfold KidS at h1
      simp only [encNods] at h1
      repeat' (first | (with_reducible refine jn_in ?_) | (with_reducible refine cl_ok (by assumption) rfl ?_) | (with_reducible refine br_if (fun hbr=>?_) (fun hbr=>?_)) | (with_reducible refine br_ifn (fun hbr=>?_) (fun hbr=>?_)) | (with_reducible refine br_nb (fun hbr=>?_) (fun hbr=>?_)) | (with_reducible refine br_b (fun hbr=>?_) (fun hbr=>?_)) | simp (disch:=first | omega | (simp only [ByteArray.size_append,szl,List.size_toArray,List.length_cons,List.length_nil,Nat.zero_add,Nat.reduceAdd,maxLen_n];omega) | (simp only [List.length_append,List.map_cons,List.map_nil,List.length_map,List.length_cons,List.length_nil];omega) | (simp only [List.length_cons,List.length_nil,Nat.zero_add,Nat.reduceAdd])) only [go_sem,↓reduceIte,Nat.reduceAdd,Int.reduceNeg,Int.reduceAdd,Int.reduceSub,Int.reduceMul,Int.reduceLT,Int.reduceLE,Int.reduceEq,Int.reduceToNat,Nat.reduceBEq,e_cat,ByteArray.append_assoc,e_sle,e_sge,nat1,ix_s,ix_z,fl_s,fl_z,fl1_s,fl1_z,map_s,map_z,hix,ix_Nod,encNod,encSs,u_spec_l18Function_j0,u_spec_l18Function_j1])
      all_goals first | omega | exact ⟨by rw [if_neg (by omega)],hlt⟩ | exact ⟨by rw [if_pos (by omega)],hlt⟩ | contradiction
  · obtain rfl : i = L.length:=by omega
    have e6 : (K.length : Int) - 1 = (L.length : Int):=by omega
    unfold fnB
    repeat' (first | (with_reducible refine jn_in ?_) | (with_reducible refine cl_ok (by assumption) rfl ?_) | (with_reducible refine br_if (fun hbr=>?_) (fun hbr=>?_)) | (with_reducible refine br_ifn (fun hbr=>?_) (fun hbr=>?_)) | (with_reducible refine br_nb (fun hbr=>?_) (fun hbr=>?_)) | (with_reducible refine br_b (fun hbr=>?_) (fun hbr=>?_)) | simp (disch:=first | omega | (simp only [ByteArray.size_append,szl,List.size_toArray,List.length_cons,List.length_nil,Nat.zero_add,Nat.reduceAdd,maxLen_n];omega) | (simp only [List.length_append,List.map_cons,List.map_nil,List.length_map,List.length_cons,List.length_nil];omega) | (simp only [List.length_cons,List.length_nil,Nat.zero_add,Nat.reduceAdd])) only [go_sem,↓reduceIte,Nat.reduceAdd,Int.reduceNeg,Int.reduceAdd,Int.reduceSub,Int.reduceMul,Int.reduceLT,Int.reduceLE,Int.reduceEq,Int.reduceToNat,Nat.reduceBEq,e_cat,ByteArray.append_assoc,e_sle,e_sge,nat1,ix_s,ix_z,fl_s,fl_z,fl1_s,fl1_z,map_s,map_z,e6])
    all_goals first | omega | rfl
end Go.Proofs.Ytfdpkdfmkedkmaa

namespace Go.Proofs.Ytfdpkdfmkedkmaa
open Go.RowKit
set_option maxRecDepth 100000
def callG (L : List ByteArray) (g : Nat→ByteArray) (j : Nat) : ByteArray:=labB (L.getD j default) ++ g (j + 1)
def callB (L : List ByteArray) (p0 : ByteArray) (g : Nat→ByteArray) : ByteArray:=p0 ++ (⟨#[40]⟩ ++ (joinG (callG L g) ⟨#[44,32]⟩ L.length ++ ⟨#[41]⟩))
set_option maxHeartbeats 2000000 in
theorem implCall_m (t : List Nod) (x : Nod) (K : List Int) (p0 : ByteArray) (g : Nat→ByteArray) (hK : K.length = x.labels.length + 1) (h200 : K.length≤200) (hL : ∀ j,j < x.labels.length→(x.labels.getD j default).size≤60)
    (hp : KidI t (K.getD 0 default) 13 p0) (hps : p0.size≤1000000) (hc : ∀ j,j < x.labels.length→KidI t (K.getD (j + 1) default) 1 (g (j + 1))∧(g (j + 1)).size≤900000) :
    Meets Try.prog 51 [(false,[encNods t]),(true,encNod x),(false,[encZs K])] [(false,[.sc (.string (callB x.labels p0 g))],true)]:=by
  obtain ⟨k,n,s,L,c⟩:=x
  simp only at hK hL hc ⊢
  have hsz : ∀ j,j < L.length→(callG L g j).size≤1000000:=fun j hj=>by
    have h1:=labB_size (hL j hj)
    have h2:=(hc j hj).2
    unfold callG
    rw [ByteArray.size_append];omega
  have hj:=joinTexts_m (callG L g) L.length ⟨#[44,32]⟩ (by omega) hsz (by decide)
  have hjs:=joinG_size (g:=callG L g) (sep:=⟨#[44,32]⟩) (n:=L.length) hsz
  have e2 : (⟨#[44,32]⟩ : ByteArray).size = 2:=rfl
  have h3 : L.length * (1000000 + (⟨#[44,32]⟩ : ByteArray).size)≤200 * 1000002:=Nat.mul_le_mul (by omega) (by rw [e2];omega)
  unfold KidI at hp
  refine meets_upf Try.func51 u_impl_printCall_g rfl ?_;simp only [u_impl_printCall_u]
  simp only [encNods,encNod,encSs,encZs] at hj hp ⊢
  simp (disch:=first | omega | (simp only [List.length_take,List.length_drop,List.length_append,List.map_cons,List.map_nil,List.length_map,List.length_cons,List.length_nil,List.length_set,List.length_replicate];omega) | (simp only [List.length_cons,List.length_nil,Nat.zero_add,Nat.reduceAdd])) only [go_sem,↓reduceIte,Nat.reduceAdd,Int.reduceNeg,Int.reduceAdd,Int.reduceSub,Int.reduceMul,Int.reduceLT,Int.reduceLE,Int.reduceEq,Int.reduceToNat,Nat.reduceBEq,nat1,true_and]
  refine lp_n L.length (fun i=>[.sc (.int .i64 i),.sl 9 1 ((rngL (callG L g) i).map encS)]) (by simp [gL,rngL]) fun i hi=>?_
  have hln:=rngL_len (callG L g) i
  simp only [u_impl_printCall_l1]
  by_cases hlt : i < L.length
  · have hLi:=hL i hlt
    have hf:=implFld_m (L.getD i default) hLi
    have hfs:=fldB_size hLi
    obtain ⟨h1,h2⟩:=hc i hlt
    have e:=rngL_succ (callG L g) i
    have eg : callG L g i = labB (L.getD i default) ++ g (i + 1):=rfl
    unfold labB at eg
    unfold KidI at h1
    simp only [encNods] at h1
    rw [e,eg]
    by_cases hke : L.getD i default = ⟨#[]⟩
    · rw [if_pos hke,e_nilS]
      repeat' (first | (with_reducible refine jn_in ?_) | (with_reducible refine cl_ok (by assumption) rfl ?_) | (with_reducible refine br_if (fun hbr=>?_) (fun hbr=>?_)) | (with_reducible refine br_ifn (fun hbr=>?_) (fun hbr=>?_)) | (with_reducible refine br_nb (fun hbr=>?_) (fun hbr=>?_)) | (with_reducible refine br_b (fun hbr=>?_) (fun hbr=>?_)) | simp (disch:=first | omega | (simp only [ByteArray.size_append,szl,List.size_toArray,List.length_cons,List.length_nil,Nat.zero_add,Nat.reduceAdd,maxLen_n];omega) | (simp only [List.length_append,List.map_cons,List.map_nil,List.length_map,List.length_cons,List.length_nil];omega) | (simp only [List.length_cons,List.length_nil,Nat.zero_add,Nat.reduceAdd])) only [go_sem,↓reduceIte,Nat.reduceAdd,Int.reduceNeg,Int.reduceAdd,Int.reduceSub,Int.reduceMul,Int.reduceLT,Int.reduceLE,Int.reduceEq,Int.reduceToNat,Nat.reduceBEq,e_cat,ByteArray.append_assoc,e_sle,e_sge,nat1,ix_s,ix_z,fl_s,fl_z,fl1_s,fl1_z,map_s,map_z,u_impl_printCall_j0,hke,Int.toNat_natCast])
      all_goals first | omega | exact ⟨rfl,hlt⟩ | exact absurd hke ‹_›
    · rw [if_neg hke]
      simp only [ByteArray.append_assoc]
      repeat' (first | (with_reducible refine jn_in ?_) | (with_reducible refine cl_ok (by assumption) rfl ?_) | (with_reducible refine br_if (fun hbr=>?_) (fun hbr=>?_)) | (with_reducible refine br_ifn (fun hbr=>?_) (fun hbr=>?_)) | (with_reducible refine br_nb (fun hbr=>?_) (fun hbr=>?_)) | (with_reducible refine br_b (fun hbr=>?_) (fun hbr=>?_)) | simp (disch:=first | omega | (simp only [ByteArray.size_append,szl,List.size_toArray,List.length_cons,List.length_nil,Nat.zero_add,Nat.reduceAdd,maxLen_n];omega) | (simp only [List.length_append,List.map_cons,List.map_nil,List.length_map,List.length_cons,List.length_nil];omega) | (simp only [List.length_cons,List.length_nil,Nat.zero_add,Nat.reduceAdd])) only [go_sem,↓reduceIte,Nat.reduceAdd,Int.reduceNeg,Int.reduceAdd,Int.reduceSub,Int.reduceMul,Int.reduceLT,Int.reduceLE,Int.reduceEq,Int.reduceToNat,Nat.reduceBEq,e_cat,ByteArray.append_assoc,e_sle,e_sge,nat1,ix_s,ix_z,fl_s,fl_z,fl1_s,fl1_z,map_s,map_z,u_impl_printCall_j0,Int.toNat_natCast])
      all_goals first | omega | exact ⟨rfl,hlt⟩ | exact absurd ‹L.getD i default = _› hke
  · obtain rfl : i = L.length:=by omega
    unfold callB
    repeat' (first | (with_reducible refine jn_in ?_) | (with_reducible refine cl_ok (by assumption) rfl ?_) | (with_reducible refine br_if (fun hbr=>?_) (fun hbr=>?_)) | (with_reducible refine br_ifn (fun hbr=>?_) (fun hbr=>?_)) | (with_reducible refine br_nb (fun hbr=>?_) (fun hbr=>?_)) | (with_reducible refine br_b (fun hbr=>?_) (fun hbr=>?_)) | simp (disch:=first | omega | (simp only [ByteArray.size_append,szl,List.size_toArray,List.length_cons,List.length_nil,Nat.zero_add,Nat.reduceAdd,maxLen_n];omega) | (simp only [List.length_append,List.map_cons,List.map_nil,List.length_map,List.length_cons,List.length_nil];omega) | (simp only [List.length_cons,List.length_nil,Nat.zero_add,Nat.reduceAdd])) only [go_sem,↓reduceIte,Nat.reduceAdd,Int.reduceNeg,Int.reduceAdd,Int.reduceSub,Int.reduceMul,Int.reduceLT,Int.reduceLE,Int.reduceEq,Int.reduceToNat,Nat.reduceBEq,e_cat,ByteArray.append_assoc,e_sle,e_sge,nat1,ix_s,ix_z,fl_s,fl_z,fl1_s,fl1_z,map_s,map_z,true_and])
    all_goals first | omega | rfl
set_option maxHeartbeats 2000000 in
theorem specCall_m (t : List Nod) (i0 : Nat) (hi0 : i0 < t.length) (K : List Int) (p0 : ByteArray) (g : Nat→ByteArray) (hK : K.length = (t.getD i0 default).labels.length + 1) (h200 : K.length≤200) (ht : t.length≤200) (hL : ∀ j,j < (t.getD i0 default).labels.length→((t.getD i0 default).labels.getD j default).size≤60)
    (hp : KidS t (K.getD 0 default) 13 p0) (hps : p0.size≤1000000) (hc : ∀ j,j < (t.getD i0 default).labels.length→KidS t (K.getD (j + 1) default) 1 (g (j + 1))∧(g (j + 1)).size≤900000) :
    Meets Try.prog 74 [(false,[encNods t]),(false,[.sc (.int .i64 i0)]),(false,[encZs K])] [(false,[.sc (.string (callB (t.getD i0 default).labels p0 g))],true)]:=by
  have hix : eIdx 5 (some (.sl 41 5 (t.map encNod))) (some (.sc (.int .i64 (i0 : Int)))) = some (encNod (t.getD i0 default)):=by rw [ix_Nod (by omega) (by omega),Int.toNat_natCast]
  generalize t.getD i0 default = x at *
  obtain ⟨k,n,s,L,c⟩:=x
  simp only at hK hL hc ⊢
  simp only [encNod,encSs] at hix
  have hsz : ∀ j,j < L.length→(callG L g j).size≤1000000:=fun j hj=>by
    have h1:=labB_size (hL j hj)
    have h2:=(hc j hj).2
    unfold callG
    rw [ByteArray.size_append];omega
  have e2 : (⟨#[44,32]⟩ : ByteArray).size = 2:=rfl
  unfold KidS at hp
  refine meets_upf Try.func74 u_spec_l18Call_g rfl ?_;simp only [u_spec_l18Call_u]
  simp only [encNods,encZs] at hp ⊢
  simp (disch:=first | omega | (simp only [ByteArray.size_append,szl,List.size_toArray,List.length_cons,List.length_nil,Nat.zero_add,Nat.reduceAdd,maxLen_n];omega) | (simp only [List.length_append,List.map_cons,List.map_nil,List.length_map,List.length_cons,List.length_nil];omega) | (simp only [List.length_cons,List.length_nil,Nat.zero_add,Nat.reduceAdd])) only [go_sem,↓reduceIte,Nat.reduceAdd,Int.reduceNeg,Int.reduceAdd,Int.reduceSub,Int.reduceMul,Int.reduceLT,Int.reduceLE,Int.reduceEq,Int.reduceToNat,Nat.reduceBEq,e_cat,ByteArray.append_assoc,e_sle,e_sge,nat1,ix_s,ix_z,fl_s,fl_z,fl1_s,fl1_z,map_s,map_z,true_and]
  refine cl_ok hp rfl ?_
  simp (disch:=first | omega | (simp only [ByteArray.size_append,szl,List.size_toArray,List.length_cons,List.length_nil,Nat.zero_add,Nat.reduceAdd,maxLen_n];omega) | (simp only [List.length_append,List.map_cons,List.map_nil,List.length_map,List.length_cons,List.length_nil];omega) | (simp only [List.length_cons,List.length_nil,Nat.zero_add,Nat.reduceAdd])) only [go_sem,↓reduceIte,Nat.reduceAdd,Int.reduceNeg,Int.reduceAdd,Int.reduceSub,Int.reduceMul,Int.reduceLT,Int.reduceLE,Int.reduceEq,Int.reduceToNat,Nat.reduceBEq,e_cat,ByteArray.append_assoc,e_sle,e_sge,nat1,ix_s,ix_z,fl_s,fl_z,fl1_s,fl1_z,map_s,map_z,true_and]
  refine lp_n L.length (fun i=>[.sc (.int .i64 ((i + 1 : Nat) : Int)),.sc (.string (p0 ++ (⟨#[40]⟩ ++ joinG (callG L g) ⟨#[44,32]⟩ i)))]) (by simp [gL,joinG];rfl) fun i hi=>?_
  have hjs:=joinG_size (g:=callG L g) (sep:=⟨#[44,32]⟩) (n:=i) fun j hj=>hsz j (by omega)
  have h3 : i * (1000000 + (⟨#[44,32]⟩ : ByteArray).size)≤200 * 1000002:=Nat.mul_le_mul (by omega) (by rw [e2];omega)
  have e7 : ((i + 1 : Nat) : Int) - 1 = (i : Int):=by omega
  simp only [u_spec_l18Call_l1]
  by_cases hlt : i < L.length
  · have hLi:=hL i hlt
    have hf:=specLab_m (L.getD i default) hLi
    have hfs:=labB_size hLi
    obtain ⟨h1,h2⟩:=hc i hlt
    have e:=joinG_step (callG L g) ⟨#[44,32]⟩ i
    have eg : callG L g i = labB (L.getD i default) ++ g (i + 1):=rfl
    unfold KidS at h1
    simp only [encNods] at h1
    rw [e,eg]
    repeat' (first | (with_reducible refine jn_in ?_) | (with_reducible refine cl_ok (by assumption) rfl ?_) | (with_reducible refine br_if (fun hbr=>?_) (fun hbr=>?_)) | (with_reducible refine br_ifn (fun hbr=>?_) (fun hbr=>?_)) | (with_reducible refine br_nb (fun hbr=>?_) (fun hbr=>?_)) | (with_reducible refine br_b (fun hbr=>?_) (fun hbr=>?_)) | simp (disch:=first | omega | (simp only [ByteArray.size_append,szl,List.size_toArray,List.length_cons,List.length_nil,Nat.zero_add,Nat.reduceAdd,maxLen_n];omega) | (simp only [List.length_append,List.map_cons,List.map_nil,List.length_map,List.length_cons,List.length_nil];omega) | (simp only [List.length_cons,List.length_nil,Nat.zero_add,Nat.reduceAdd])) only [go_sem,↓reduceIte,Nat.reduceAdd,Int.reduceNeg,Int.reduceAdd,Int.reduceSub,Int.reduceMul,Int.reduceLT,Int.reduceLE,Int.reduceEq,Int.reduceToNat,Nat.reduceBEq,e_cat,ByteArray.append_assoc,e_sle,e_sge,nat1,ix_s,ix_z,fl_s,fl_z,fl1_s,fl1_z,map_s,map_z,hix,u_spec_l18Call_j0,e7,Int.toNat_natCast])
    all_goals first | omega | exact ⟨by rw [if_neg (by omega)],hlt⟩ | exact ⟨by rw [if_pos (by omega)],hlt⟩ | contradiction
  · obtain rfl : i = L.length:=by omega
    unfold callB
    repeat' (first | (with_reducible refine jn_in ?_) | (with_reducible refine cl_ok (by assumption) rfl ?_) | (with_reducible refine br_if (fun hbr=>?_) (fun hbr=>?_)) | (with_reducible refine br_ifn (fun hbr=>?_) (fun hbr=>?_)) | (with_reducible refine br_nb (fun hbr=>?_) (fun hbr=>?_)) | (with_reducible refine br_b (fun hbr=>?_) (fun hbr=>?_)) | simp (disch:=first | omega | (simp only [ByteArray.size_append,szl,List.size_toArray,List.length_cons,List.length_nil,Nat.zero_add,Nat.reduceAdd,maxLen_n];omega) | (simp only [List.length_append,List.map_cons,List.map_nil,List.length_map,List.length_cons,List.length_nil];omega) | (simp only [List.length_cons,List.length_nil,Nat.zero_add,Nat.reduceAdd])) only [go_sem,↓reduceIte,Nat.reduceAdd,Int.reduceNeg,Int.reduceAdd,Int.reduceSub,Int.reduceMul,Int.reduceLT,Int.reduceLE,Int.reduceEq,Int.reduceToNat,Nat.reduceBEq,e_cat,ByteArray.append_assoc,e_sle,e_sge,nat1,ix_s,ix_z,fl_s,fl_z,fl1_s,fl1_z,map_s,map_z,true_and])
    all_goals first | omega | rfl
end Go.Proofs.Ytfdpkdfmkedkmaa

namespace Go.Proofs.Ytfdpkdfmkedkmaa
open Go.RowKit
set_option maxRecDepth 100000
def leafB (k n : Int) (s : ByteArray) : ByteArray :=
  if k = 2 then fmtInt n else if k = 3 then quoteB s else if k = 4 then (if n = 0 then ⟨#[70,65,76,83,69]⟩ else if n = 1 then ⟨#[84,82,85,69]⟩ else ⟨#[78,65]⟩) else if k = 5 then (if n = 0 then ⟨#[78,65,95,110,117,109,98,101,114,95]⟩ else ⟨#[78,65,95,99,104,97,114,97,99,116,101,114,95]⟩) else if k = 6 then ⟨#[78,85,76,76]⟩ else if k = 7 then fmtName s
  else if k = 19 then ⟨#[98,114,101,97,107]⟩ else if k = 20 then ⟨#[110,101,120,116]⟩ else if k = 32 then ⟨#[109,105,115,115,105,110,103,40]⟩ ++ (fmtName s ++ ⟨#[41]⟩) else if k = 34 then ⟨#[85,115,101,77,101,116,104,111,100,40]⟩ ++ (quoteB s ++ ⟨#[41]⟩) else ⟨#[78,101,120,116,77,101,116,104,111,100,40,41]⟩
def binO (s p0 p1 : ByteArray) : ByteArray:=if s = ⟨#[58]⟩ ∨ s = ⟨#[94]⟩ then p0 ++ (s ++ p1) else p0 ++ (⟨#[32]⟩ ++ (s ++ (⟨#[32]⟩ ++ p1)))
def hanO (w s p0 p1 : ByteArray) : ByteArray:=w ++ (⟨#[40]⟩ ++ (p0 ++ (⟨#[44,32]⟩ ++ (fmtName s ++ (⟨#[32,61,32]⟩ ++ (p1 ++ ⟨#[41]⟩))))))
def ifO (n : Nat) (p : Int→Nat→ByteArray) : ByteArray:=if n = 2 then ⟨#[105,102,32,40]⟩ ++ (p 1 0 ++ (⟨#[41,32]⟩ ++ p 1 1)) else ⟨#[105,102,32,40]⟩ ++ (p 1 0 ++ (⟨#[41,32]⟩ ++ (p 2 1 ++ (⟨#[32,101,108,115,101,32]⟩ ++ p 1 2))))
def nodeB (t : List Nod) (K : List Int) (p : Int→Nat→ByteArray) (k n : Int) (s : ByteArray) (L : List ByteArray) : ByteArray :=
  if k = 0 then joinG (p 1) ⟨#[10]⟩ K.length else if k = 8 then fnB t K L (p 1) else if k = 9 then callB L (p 13 0) (p 1) else if k = 10 then s ++ p (ulv s).2 0 else if k = 11 then binO s (p (blv s).2.1 0) (p (blv s).2.2 1)
  else if k = 12 then p 13 0 ++ (⟨#[91]⟩ ++ (p 1 1 ++ ⟨#[93]⟩)) else if k = 13 then p 13 0 ++ (⟨#[91,91]⟩ ++ (p 1 1 ++ ⟨#[93,93]⟩)) else if k = 14 then p 13 0 ++ (⟨#[36]⟩ ++ fldB s)
  else if k = 15 then (if K.length = 0 then ⟨#[123,125]⟩ else ⟨#[123,32]⟩ ++ (joinG (p 1) ⟨#[59,32]⟩ K.length ++ ⟨#[32,125]⟩)) else if k = 16 then ifO K.length p else if k = 17 then ⟨#[119,104,105,108,101,32,40]⟩ ++ (p 1 0 ++ (⟨#[41,32]⟩ ++ p 1 1))
  else if k = 18 then ⟨#[102,111,114,32,40]⟩ ++ (fmtName s ++ (⟨#[32,105,110,32]⟩ ++ (p 1 0 ++ (⟨#[41,32]⟩ ++ p 1 1)))) else if k = 21 then ⟨#[114,101,116,117,114,110,40]⟩ ++ (p 1 0 ++ ⟨#[41]⟩) else if k = 22 then fmtName s ++ (⟨#[32,60,45,32]⟩ ++ p 1 0) else if k = 23 then fmtName s ++ (⟨#[32,60,60,45,32]⟩ ++ p 1 0)
  else if k = 24 then fmtName s ++ (⟨#[91]⟩ ++ (p 1 0 ++ (⟨#[93,32,60,45,32]⟩ ++ p 1 1))) else if k = 25 then fmtName s ++ (⟨#[91,91]⟩ ++ (p 1 0 ++ (⟨#[93,93,32,60,45,32]⟩ ++ p 1 1))) else if k = 26 then fmtName s ++ (⟨#[36]⟩ ++ (fldB (L.getD 0 default) ++ (⟨#[32,60,45,32]⟩ ++ p 1 0)))
  else if k = 27 then fmtName (L.getD 0 default) ++ (⟨#[40]⟩ ++ (fmtName s ++ (⟨#[41,32,60,45,32]⟩ ++ p 1 0))) else if k = 28 then hanO ⟨#[116,114,121,67,97,116,99,104]⟩ s (p 1 0) (p 1 1) else if k = 29 then hanO ⟨#[119,105,116,104,67,97,108,108,105,110,103,72,97,110,100,108,101,114,115]⟩ s (p 1 0) (p 1 1) else if k = 30 then hanO ⟨#[119,105,116,104,82,101,115,116,97,114,116]⟩ s (p 1 0) (p 1 1)
  else if k = 31 then ⟨#[105,110,118,111,107,101,82,101,115,116,97,114,116,40]⟩ ++ (quoteB s ++ (⟨#[44,32]⟩ ++ (p 1 0 ++ ⟨#[41]⟩))) else if k = 33 then ⟨#[111,110,46,101,120,105,116,40]⟩ ++ (p 1 0 ++ ⟨#[41]⟩) else leafB k n s
def NumOk (k n : Int) : Prop:=0≤n∧n≤(if k = 2 then 999999999 else if k = 4 then 2 else if k = 5 then 1 else 0)
set_option maxHeartbeats 4000000 in
theorem implLeaf_m (k n : Int) (s : ByteArray) (L : List ByteArray) (c : Int) (hk : k ∈ ([2,3,4,5,6,7,19,20,32,34,35] : List Int)) (hn : NumOk k n) (hs : s.size≤60) :
    Meets Try.prog 60 [(true,encNod ⟨k,n,s,L,c⟩)] [(false,[.sc (.string (leafB k n s))],true)]:=by
  have h1:=implFmtName_m s (by omega)
  have h2:=implQuo_m s (by omega)
  have h4:=fmtName_size s
  have h5:=quoteB_size s
  unfold NumOk at hn
  have h3:=implFmtInt_m n (by unfold In64;split at hn <;> (try split at hn) <;> (try split at hn) <;> omega)
  simp only [List.mem_cons,List.not_mem_nil,or_false] at hk
  rcases hk with rfl | rfl | rfl | rfl | rfl | rfl | rfl | rfl | rfl | rfl | rfl
  case inr.inr.inl =>
    obtain rfl | rfl | rfl : n = 0 ∨ n = 1 ∨ n = 2:=by simp at hn;omega
    all_goals
      refine meets_upf Try.func60 u_impl_printLeaf_g rfl ?_;simp only [u_impl_printLeaf_u]
      simp only [encNod,encSs]
      repeat' (first | (with_reducible refine jn_in ?_) | (with_reducible refine cl_ok (by assumption) rfl ?_) | (with_reducible refine br_if (fun hbr=>?_) (fun hbr=>?_)) | (with_reducible refine br_ifn (fun hbr=>?_) (fun hbr=>?_)) | (with_reducible refine br_nb (fun hbr=>?_) (fun hbr=>?_)) | (with_reducible refine br_b (fun hbr=>?_) (fun hbr=>?_)) | simp (disch:=first | omega | (simp only [ByteArray.size_append,szl,List.size_toArray,List.length_cons,List.length_nil,Nat.zero_add,Nat.reduceAdd,maxLen_n];omega) | (simp only [List.length_append,List.map_cons,List.map_nil,List.length_map,List.length_cons,List.length_nil];omega) | (simp only [List.length_cons,List.length_nil,Nat.zero_add,Nat.reduceAdd])) only [go_sem,↓reduceIte,Nat.reduceAdd,Int.reduceNeg,Int.reduceAdd,Int.reduceSub,Int.reduceMul,Int.reduceLT,Int.reduceLE,Int.reduceEq,Int.reduceToNat,Nat.reduceBEq,e_cat,ByteArray.append_assoc,e_sle,e_sge,nat1,ix_s,ix_z,fl_s,fl_z,fl1_s,fl1_z,map_s,map_z,ixl_0,ixl_1,ixl_2,chl_0,chl_1,chl_2])
      rfl
  case inr.inr.inr.inl =>
    obtain rfl | rfl : n = 0 ∨ n = 1:=by simp at hn;omega
    all_goals
      refine meets_upf Try.func60 u_impl_printLeaf_g rfl ?_;simp only [u_impl_printLeaf_u]
      simp only [encNod,encSs]
      repeat' (first | (with_reducible refine jn_in ?_) | (with_reducible refine cl_ok (by assumption) rfl ?_) | (with_reducible refine br_if (fun hbr=>?_) (fun hbr=>?_)) | (with_reducible refine br_ifn (fun hbr=>?_) (fun hbr=>?_)) | (with_reducible refine br_nb (fun hbr=>?_) (fun hbr=>?_)) | (with_reducible refine br_b (fun hbr=>?_) (fun hbr=>?_)) | simp (disch:=first | omega | (simp only [ByteArray.size_append,szl,List.size_toArray,List.length_cons,List.length_nil,Nat.zero_add,Nat.reduceAdd,maxLen_n];omega) | (simp only [List.length_append,List.map_cons,List.map_nil,List.length_map,List.length_cons,List.length_nil];omega) | (simp only [List.length_cons,List.length_nil,Nat.zero_add,Nat.reduceAdd])) only [go_sem,↓reduceIte,Nat.reduceAdd,Int.reduceNeg,Int.reduceAdd,Int.reduceSub,Int.reduceMul,Int.reduceLT,Int.reduceLE,Int.reduceEq,Int.reduceToNat,Nat.reduceBEq,e_cat,ByteArray.append_assoc,e_sle,e_sge,nat1,ix_s,ix_z,fl_s,fl_z,fl1_s,fl1_z,map_s,map_z,ixl_0,ixl_1,chl_0,chl_1])
      rfl
  all_goals
    refine meets_upf Try.func60 u_impl_printLeaf_g rfl ?_;simp only [u_impl_printLeaf_u]
    simp only [encNod,encSs]
    repeat' (first | (with_reducible refine jn_in ?_) | (with_reducible refine cl_ok (by assumption) rfl ?_) | (with_reducible refine br_if (fun hbr=>?_) (fun hbr=>?_)) | (with_reducible refine br_ifn (fun hbr=>?_) (fun hbr=>?_)) | (with_reducible refine br_nb (fun hbr=>?_) (fun hbr=>?_)) | (with_reducible refine br_b (fun hbr=>?_) (fun hbr=>?_)) | simp (disch:=first | omega | (simp only [ByteArray.size_append,szl,List.size_toArray,List.length_cons,List.length_nil,Nat.zero_add,Nat.reduceAdd,maxLen_n];omega) | (simp only [List.length_append,List.map_cons,List.map_nil,List.length_map,List.length_cons,List.length_nil];omega) | (simp only [List.length_cons,List.length_nil,Nat.zero_add,Nat.reduceAdd])) only [go_sem,↓reduceIte,Nat.reduceAdd,Int.reduceNeg,Int.reduceAdd,Int.reduceSub,Int.reduceMul,Int.reduceLT,Int.reduceLE,Int.reduceEq,Int.reduceToNat,Nat.reduceBEq,e_cat,ByteArray.append_assoc,e_sle,e_sge,nat1,ix_s,ix_z,fl_s,fl_z,fl1_s,fl1_z,map_s,map_z,true_and])
    rfl
set_option maxHeartbeats 4000000 in
theorem implBinO_m (t : List Nod) (K : List Int) (p : Int→Nat→ByteArray) (k n : Int) (s : ByteArray) (L : List ByteArray) (c : Int) (hK : (K.length : Int) = 2) (hs : s.size≤60) (hz : ∀ lev j,(p lev j).size≤900000) (hI : ∀ lev j,j < K.length→Meets Try.prog 53 [(false,[encNods t]),(false,[.sc (.int .i64 (K.getD j default))]),(false,[.sc (.int .i64 lev)])] [(false,[.sc (.string (p lev j))],true)]) :
    Meets Try.prog 54 [(false,[encNods t]),(true,encNod ⟨k,n,s,L,c⟩),(false,[encZs K])] [(false,[.sc (.string (binO s (p (blv s).2.1 0) (p (blv s).2.2 1)))],true)]:=by
  have h1:=implBlv_m s
  have s0:=hz (blv s).2.1 0
  have s1:=hz (blv s).2.2 1
  unfold binO
  refine meets_upf Try.func54 u_impl_printBinary_g rfl ?_;simp only [u_impl_printBinary_u]
  simp only [encNods,encNod,encSs,encZs] at hI ⊢
  repeat' (first | (with_reducible refine jn_in ?_) | (with_reducible refine cl_ok (by assumption) rfl ?_) | (with_reducible refine cl_ok (hI _ _ (by omega)) rfl ?_) | (with_reducible refine br_if (fun hbr=>?_) (fun hbr=>?_)) | (with_reducible refine br_ifn (fun hbr=>?_) (fun hbr=>?_)) | (with_reducible refine br_nb (fun hbr=>?_) (fun hbr=>?_)) | (with_reducible refine br_b (fun hbr=>?_) (fun hbr=>?_)) | simp (disch:=first | omega | (simp only [ByteArray.size_append,szl,List.size_toArray,List.length_cons,List.length_nil,Nat.zero_add,Nat.reduceAdd,maxLen_n];omega) | (simp only [List.length_append,List.map_cons,List.map_nil,List.length_map,List.length_cons,List.length_nil];omega) | (simp only [List.length_cons,List.length_nil,Nat.zero_add,Nat.reduceAdd])) only [go_sem,↓reduceIte,Nat.reduceAdd,Int.reduceNeg,Int.reduceAdd,Int.reduceSub,Int.reduceMul,Int.reduceLT,Int.reduceLE,Int.reduceEq,Int.reduceToNat,Nat.reduceBEq,e_cat,ByteArray.append_assoc,e_sle,e_sge,nat1,ix_s,ix_z,fl_s,fl_z,fl1_s,fl1_z,map_s,map_z,u_impl_printBinary_j0,u_impl_printBinary_j1])
  all_goals first
    | (rw [if_pos (.inl ‹_›)];rfl)
    | (rw [if_pos (.inr ‹_›)];rfl)
    | (rw [if_neg (by rintro (h | h) <;> contradiction)];rfl)
set_option maxHeartbeats 4000000 in
theorem implIf_m (t : List Nod) (K : List Int) (p : Int→Nat→ByteArray) (hK : (K.length : Int) = 2 ∨ (K.length : Int) = 3) (hz : ∀ lev j,(p lev j).size≤900000) (hI : ∀ lev j,j < K.length→Meets Try.prog 53 [(false,[encNods t]),(false,[.sc (.int .i64 (K.getD j default))]),(false,[.sc (.int .i64 lev)])] [(false,[.sc (.string (p lev j))],true)]) :
    Meets Try.prog 56 [(false,[encNods t]),(false,[encZs K])] [(false,[.sc (.string (ifO K.length p))],true)]:=by
  have s:=(⟨#[]⟩ : ByteArray)
  have s10:=hz 1 0;have s11:=hz 1 1;have s12:=hz 1 2;have s21:=hz 2 1;have s13:=hz 13 0;have sn:=fmtName_size s
  unfold ifO
  refine meets_upf Try.func56 u_impl_printIf_g rfl ?_;simp only [u_impl_printIf_u]
  simp only [encNods,encZs] at hI ⊢
  repeat' (first | (with_reducible refine jn_in ?_) | (with_reducible refine cl_ok (by assumption) rfl ?_) | (with_reducible refine cl_ok (hI _ _ (by omega)) rfl ?_) | (with_reducible refine br_if (fun hbr=>?_) (fun hbr=>?_)) | (with_reducible refine br_ifn (fun hbr=>?_) (fun hbr=>?_)) | (with_reducible refine br_nb (fun hbr=>?_) (fun hbr=>?_)) | (with_reducible refine br_b (fun hbr=>?_) (fun hbr=>?_)) | simp (disch:=first | omega | (simp only [ByteArray.size_append,szl,List.size_toArray,List.length_cons,List.length_nil,Nat.zero_add,Nat.reduceAdd,maxLen_n];omega) | (simp only [List.length_append,List.map_cons,List.map_nil,List.length_map,List.length_cons,List.length_nil];omega) | (simp only [List.length_cons,List.length_nil,Nat.zero_add,Nat.reduceAdd])) only [go_sem,↓reduceIte,Nat.reduceAdd,Int.reduceNeg,Int.reduceAdd,Int.reduceSub,Int.reduceMul,Int.reduceLT,Int.reduceLE,Int.reduceEq,Int.reduceToNat,Nat.reduceBEq,e_cat,ByteArray.append_assoc,e_sle,e_sge,nat1,ix_s,ix_z,fl_s,fl_z,fl1_s,fl1_z,map_s,map_z,true_and])
  all_goals first
    | (rw [if_pos (by omega)];rfl)
    | (rw [if_neg (by omega)];rfl)
set_option maxHeartbeats 4000000 in
theorem implHan_m (t : List Nod) (K : List Int) (p : Int→Nat→ByteArray) (w : ByteArray) (k n : Int) (s : ByteArray) (L : List ByteArray) (c : Int) (hK : (K.length : Int) = 2) (hw : w.size≤60) (hs : s.size≤60) (hz : ∀ lev j,(p lev j).size≤900000) (hI : ∀ lev j,j < K.length→Meets Try.prog 53 [(false,[encNods t]),(false,[.sc (.int .i64 (K.getD j default))]),(false,[.sc (.int .i64 lev)])] [(false,[.sc (.string (p lev j))],true)]) :
    Meets Try.prog 58 [(false,[.sc (.string w)]),(false,[encNods t]),(true,encNod ⟨k,n,s,L,c⟩),(false,[encZs K])] [(false,[.sc (.string (hanO w s (p 1 0) (p 1 1)))],true)]:=by
  have h1:=implFmtName_m s (by omega)
  have s10:=hz 1 0;have s11:=hz 1 1;have s12:=hz 1 2;have s21:=hz 2 1;have s13:=hz 13 0;have sn:=fmtName_size s
  unfold hanO
  refine meets_upf Try.func58 u_impl_printHandled_g rfl ?_;simp only [u_impl_printHandled_u]
  simp only [encNods,encNod,encSs,encZs] at hI ⊢
  repeat' (first | (with_reducible refine jn_in ?_) | (with_reducible refine cl_ok (by assumption) rfl ?_) | (with_reducible refine cl_ok (hI _ _ (by omega)) rfl ?_) | (with_reducible refine br_if (fun hbr=>?_) (fun hbr=>?_)) | (with_reducible refine br_ifn (fun hbr=>?_) (fun hbr=>?_)) | (with_reducible refine br_nb (fun hbr=>?_) (fun hbr=>?_)) | (with_reducible refine br_b (fun hbr=>?_) (fun hbr=>?_)) | simp (disch:=first | omega | (simp only [ByteArray.size_append,szl,List.size_toArray,List.length_cons,List.length_nil,Nat.zero_add,Nat.reduceAdd,maxLen_n];omega) | (simp only [List.length_append,List.map_cons,List.map_nil,List.length_map,List.length_cons,List.length_nil];omega) | (simp only [List.length_cons,List.length_nil,Nat.zero_add,Nat.reduceAdd])) only [go_sem,↓reduceIte,Nat.reduceAdd,Int.reduceNeg,Int.reduceAdd,Int.reduceSub,Int.reduceMul,Int.reduceLT,Int.reduceLE,Int.reduceEq,Int.reduceToNat,Nat.reduceBEq,e_cat,ByteArray.append_assoc,e_sle,e_sge,nat1,ix_s,ix_z,fl_s,fl_z,fl1_s,fl1_z,map_s,map_z,true_and])
  rfl
set_option maxHeartbeats 8000000 in
theorem implNodeL (t : List Nod) (hT : treeB t = true) (i : Nat) (hi : i < t.length) (K : List Int) (hKe : kidsT t i = K) (p : Int→Nat→ByteArray) (k n : Int) (s : ByteArray) (L : List ByteArray) (c : Int) (hx : t.getD i default = ⟨k,n,s,L,c⟩) (hk : k ∈ ([2,3,4,5,6,7,19,20,32,34,35] : List Int)) (hs : s.size≤60) (hn : NumOk k n) (hz : ∀ lev j,(p lev j).size≤900000) (hI : ∀ lev j,j < K.length→Meets Try.prog 53 [(false,[encNods t]),(false,[.sc (.int .i64 (K.getD j default))]),(false,[.sc (.int .i64 lev)])] [(false,[.sc (.string (p lev j))],true)]) :
    Meets Try.prog 37 [(false,[encNods t]),(false,[.sc (.int .i64 i)])] [(false,[.sc (.string (nodeB t K p k n s L))],true)]:=by
  have hkid:=implKidsT_m t hT i hi
  rw [hKe] at hkid
  have hlT:=tree_len hT
  have hix : eIdx 5 (some (.sl 41 5 (t.map encNod))) (some (.sc (.int .i64 (i : Int)))) = some (encNod ⟨k,n,s,L,c⟩):=by rw [ix_Nod (by omega) (by omega),Int.toNat_natCast,hx]
  have hleaf:=implLeaf_m k n s L c hk hn hs
  simp only [encNods,encNod,encSs,encZs] at hI hkid hix hleaf ⊢
  simp only [List.mem_cons,List.not_mem_nil,or_false] at hk
  rcases hk with rfl | rfl | rfl | rfl | rfl | rfl | rfl | rfl | rfl | rfl | rfl
  all_goals
    refine meets_upf Try.func37 u_impl_printNode_g rfl ?_;simp only [u_impl_printNode_u]
    repeat' (first | (with_reducible refine jn_in ?_) | (with_reducible refine cl_ok (by assumption) rfl ?_) | (with_reducible refine cl_ok (hI _ _ (by omega)) rfl ?_) | (with_reducible refine br_if (fun hbr=>?_) (fun hbr=>?_)) | (with_reducible refine br_ifn (fun hbr=>?_) (fun hbr=>?_)) | (with_reducible refine br_nb (fun hbr=>?_) (fun hbr=>?_)) | (with_reducible refine br_b (fun hbr=>?_) (fun hbr=>?_)) | simp (disch:=first | omega | (simp only [ByteArray.size_append,szl,List.size_toArray,List.length_cons,List.length_nil,Nat.zero_add,Nat.reduceAdd,maxLen_n];omega) | (simp only [List.length_append,List.map_cons,List.map_nil,List.length_map,List.length_cons,List.length_nil];omega) | (simp only [List.length_cons,List.length_nil,Nat.zero_add,Nat.reduceAdd])) only [go_sem,↓reduceIte,Nat.reduceAdd,Int.reduceNeg,Int.reduceAdd,Int.reduceSub,Int.reduceMul,Int.reduceLT,Int.reduceLE,Int.reduceEq,Int.reduceToNat,Nat.reduceBEq,e_cat,ByteArray.append_assoc,e_sle,e_sge,nat1,ix_s,ix_z,fl_s,fl_z,fl1_s,fl1_z,map_s,map_z,hix])
    rfl
set_option maxHeartbeats 8000000 in
theorem implNode0 (t : List Nod) (hT : treeB t = true) (i : Nat) (hi : i < t.length) (K : List Int) (hKe : kidsT t i = K) (p : Int→Nat→ByteArray) (k n : Int) (s : ByteArray) (L : List ByteArray) (c : Int) (hx : t.getD i default = ⟨k,n,s,L,c⟩) (hk : k ∈ ([0,15] : List Int)) (h200 : K.length≤200) (hs : s.size≤60) (hz : ∀ lev j,(p lev j).size≤900000) (hI : ∀ lev j,j < K.length→Meets Try.prog 53 [(false,[encNods t]),(false,[.sc (.int .i64 (K.getD j default))]),(false,[.sc (.int .i64 lev)])] [(false,[.sc (.string (p lev j))],true)]) :
    Meets Try.prog 37 [(false,[encNods t]),(false,[.sc (.int .i64 i)])] [(false,[.sc (.string (nodeB t K p k n s L))],true)]:=by
  have hkid:=implKidsT_m t hT i hi
  rw [hKe] at hkid
  have hlT:=tree_len hT
  have hix : eIdx 5 (some (.sl 41 5 (t.map encNod))) (some (.sc (.int .i64 (i : Int)))) = some (encNod ⟨k,n,s,L,c⟩):=by rw [ix_Nod (by omega) (by omega),Int.toNat_natCast,hx]
  have ha:=implAll_m t K ⟨#[10]⟩ (p 1) K.length rfl h200 (fun j hj=>hI 1 j hj) (fun j _=>by have:=hz 1 j;omega) (by decide)
  have hb:=implAll_m t K ⟨#[59,32]⟩ (p 1) K.length rfl h200 (fun j hj=>hI 1 j hj) (fun j _=>by have:=hz 1 j;omega) (by decide)
  have hsz:=joinG_size (g:=p 1) (sep:=⟨#[59,32]⟩) (n:=K.length) fun j _=>hz 1 j
  have hsz2 : K.length * (900000 + (⟨#[59,32]⟩ : ByteArray).size)≤200 * 900002:=Nat.mul_le_mul h200 (by show 900000 + 2≤_;omega)
  simp only [encNods,encNod,encSs,encZs] at hI hkid hix ha hb ⊢
  simp only [List.mem_cons,List.not_mem_nil,or_false] at hk
  rcases hk with rfl | rfl
  all_goals
    refine meets_upf Try.func37 u_impl_printNode_g rfl ?_;simp only [u_impl_printNode_u]
    repeat' (first | (with_reducible refine jn_in ?_) | (with_reducible refine cl_ok (by assumption) rfl ?_) | (with_reducible refine cl_ok (hI _ _ (by omega)) rfl ?_) | (with_reducible refine br_if (fun hbr=>?_) (fun hbr=>?_)) | (with_reducible refine br_ifn (fun hbr=>?_) (fun hbr=>?_)) | (with_reducible refine br_nb (fun hbr=>?_) (fun hbr=>?_)) | (with_reducible refine br_b (fun hbr=>?_) (fun hbr=>?_)) | simp (disch:=first | omega | (simp only [ByteArray.size_append,szl,List.size_toArray,List.length_cons,List.length_nil,Nat.zero_add,Nat.reduceAdd,maxLen_n];omega) | (simp only [List.length_append,List.map_cons,List.map_nil,List.length_map,List.length_cons,List.length_nil];omega) | (simp only [List.length_cons,List.length_nil,Nat.zero_add,Nat.reduceAdd])) only [go_sem,↓reduceIte,Nat.reduceAdd,Int.reduceNeg,Int.reduceAdd,Int.reduceSub,Int.reduceMul,Int.reduceLT,Int.reduceLE,Int.reduceEq,Int.reduceToNat,Nat.reduceBEq,e_cat,ByteArray.append_assoc,e_sle,e_sge,nat1,ix_s,ix_z,fl_s,fl_z,fl1_s,fl1_z,map_s,map_z,hix])
    all_goals first
      | rfl
      | (simp only [nodeB,Int.reduceEq,↓reduceIte];rw [if_pos (by omega)];rfl)
      | (simp only [nodeB,Int.reduceEq,↓reduceIte];rw [if_neg (by omega)];rfl)
set_option maxHeartbeats 8000000 in
theorem implNode1 (t : List Nod) (hT : treeB t = true) (i : Nat) (hi : i < t.length) (K : List Int) (hKe : kidsT t i = K) (p : Int→Nat→ByteArray) (k n : Int) (s : ByteArray) (L : List ByteArray) (c : Int) (hx : t.getD i default = ⟨k,n,s,L,c⟩) (hk : k ∈ ([10,14,21,22,23,31,33] : List Int)) (hK : (K.length : Int) = 1) (hs : s.size≤60) (hz : ∀ lev j,(p lev j).size≤900000) (hI : ∀ lev j,j < K.length→Meets Try.prog 53 [(false,[encNods t]),(false,[.sc (.int .i64 (K.getD j default))]),(false,[.sc (.int .i64 lev)])] [(false,[.sc (.string (p lev j))],true)]) :
    Meets Try.prog 37 [(false,[encNods t]),(false,[.sc (.int .i64 i)])] [(false,[.sc (.string (nodeB t K p k n s L))],true)]:=by
  have hkid:=implKidsT_m t hT i hi
  rw [hKe] at hkid
  have hlT:=tree_len hT
  have hix : eIdx 5 (some (.sl 41 5 (t.map encNod))) (some (.sc (.int .i64 (i : Int)))) = some (encNod ⟨k,n,s,L,c⟩):=by rw [ix_Nod (by omega) (by omega),Int.toNat_natCast,hx]
  have h7:=implUlv_m s
  have s9:=hz (ulv s).2 0
  have h1:=implFmtName_m s (by omega)
  have h2:=implFld_m s hs
  have h3:=implQuo_m s (by omega)
  have h4:=fmtName_size s
  have h5:=quoteB_size s
  have h6:=fldB_size hs
  have s10:=hz 1 0;have s11:=hz 1 1;have s12:=hz 1 2;have s21:=hz 2 1;have s13:=hz 13 0;have sn:=fmtName_size s
  simp only [encNods,encNod,encSs,encZs] at hI hkid hix ⊢
  simp only [List.mem_cons,List.not_mem_nil,or_false] at hk
  rcases hk with rfl | rfl | rfl | rfl | rfl | rfl | rfl
  all_goals
    refine meets_upf Try.func37 u_impl_printNode_g rfl ?_;simp only [u_impl_printNode_u]
    repeat' (first | (with_reducible refine jn_in ?_) | (with_reducible refine cl_ok (by assumption) rfl ?_) | (with_reducible refine cl_ok (hI _ _ (by omega)) rfl ?_) | (with_reducible refine br_if (fun hbr=>?_) (fun hbr=>?_)) | (with_reducible refine br_ifn (fun hbr=>?_) (fun hbr=>?_)) | (with_reducible refine br_nb (fun hbr=>?_) (fun hbr=>?_)) | (with_reducible refine br_b (fun hbr=>?_) (fun hbr=>?_)) | simp (disch:=first | omega | (simp only [ByteArray.size_append,szl,List.size_toArray,List.length_cons,List.length_nil,Nat.zero_add,Nat.reduceAdd,maxLen_n];omega) | (simp only [List.length_append,List.map_cons,List.map_nil,List.length_map,List.length_cons,List.length_nil];omega) | (simp only [List.length_cons,List.length_nil,Nat.zero_add,Nat.reduceAdd])) only [go_sem,↓reduceIte,Nat.reduceAdd,Int.reduceNeg,Int.reduceAdd,Int.reduceSub,Int.reduceMul,Int.reduceLT,Int.reduceLE,Int.reduceEq,Int.reduceToNat,Nat.reduceBEq,e_cat,ByteArray.append_assoc,e_sle,e_sge,nat1,ix_s,ix_z,fl_s,fl_z,fl1_s,fl1_z,map_s,map_z,hix])
    rfl
set_option maxHeartbeats 8000000 in
theorem implNode1L (t : List Nod) (hT : treeB t = true) (i : Nat) (hi : i < t.length) (K : List Int) (hKe : kidsT t i = K) (p : Int→Nat→ByteArray) (k n : Int) (s : ByteArray) (L : List ByteArray) (c : Int) (hx : t.getD i default = ⟨k,n,s,L,c⟩) (hk : k ∈ ([26,27] : List Int)) (hK : (K.length : Int) = 1) (hL : L.length = 1) (hL0 : (L.getD 0 default).size≤60) (hs : s.size≤60) (hz : ∀ lev j,(p lev j).size≤900000) (hI : ∀ lev j,j < K.length→Meets Try.prog 53 [(false,[encNods t]),(false,[.sc (.int .i64 (K.getD j default))]),(false,[.sc (.int .i64 lev)])] [(false,[.sc (.string (p lev j))],true)]) :
    Meets Try.prog 37 [(false,[encNods t]),(false,[.sc (.int .i64 i)])] [(false,[.sc (.string (nodeB t K p k n s L))],true)]:=by
  have hkid:=implKidsT_m t hT i hi
  rw [hKe] at hkid
  have hlT:=tree_len hT
  have hix : eIdx 5 (some (.sl 41 5 (t.map encNod))) (some (.sc (.int .i64 (i : Int)))) = some (encNod ⟨k,n,s,L,c⟩):=by rw [ix_Nod (by omega) (by omega),Int.toNat_natCast,hx]
  have h7:=implFmtName_m (L.getD 0 default) (by omega)
  have h8:=implFld_m (L.getD 0 default) hL0
  have h9:=fldB_size hL0
  have s8:=fmtName_size (L.getD 0 default)
  have h1:=implFmtName_m s (by omega)
  have h2:=implFld_m s hs
  have h3:=implQuo_m s (by omega)
  have h4:=fmtName_size s
  have h5:=quoteB_size s
  have h6:=fldB_size hs
  have s10:=hz 1 0;have s11:=hz 1 1;have s12:=hz 1 2;have s21:=hz 2 1;have s13:=hz 13 0;have sn:=fmtName_size s
  simp only [encNods,encNod,encSs,encZs] at hI hkid hix ⊢
  simp only [List.mem_cons,List.not_mem_nil,or_false] at hk
  rcases hk with rfl | rfl
  all_goals
    refine meets_upf Try.func37 u_impl_printNode_g rfl ?_;simp only [u_impl_printNode_u]
    repeat' (first | (with_reducible refine jn_in ?_) | (with_reducible refine cl_ok (by assumption) rfl ?_) | (with_reducible refine cl_ok (hI _ _ (by omega)) rfl ?_) | (with_reducible refine br_if (fun hbr=>?_) (fun hbr=>?_)) | (with_reducible refine br_ifn (fun hbr=>?_) (fun hbr=>?_)) | (with_reducible refine br_nb (fun hbr=>?_) (fun hbr=>?_)) | (with_reducible refine br_b (fun hbr=>?_) (fun hbr=>?_)) | simp (disch:=first | omega | (simp only [ByteArray.size_append,szl,List.size_toArray,List.length_cons,List.length_nil,Nat.zero_add,Nat.reduceAdd,maxLen_n];omega) | (simp only [List.length_append,List.map_cons,List.map_nil,List.length_map,List.length_cons,List.length_nil];omega) | (simp only [List.length_cons,List.length_nil,Nat.zero_add,Nat.reduceAdd])) only [go_sem,↓reduceIte,Nat.reduceAdd,Int.reduceNeg,Int.reduceAdd,Int.reduceSub,Int.reduceMul,Int.reduceLT,Int.reduceLE,Int.reduceEq,Int.reduceToNat,Nat.reduceBEq,e_cat,ByteArray.append_assoc,e_sle,e_sge,nat1,ix_s,ix_z,fl_s,fl_z,fl1_s,fl1_z,map_s,map_z,hix])
    rfl
set_option maxHeartbeats 8000000 in
theorem implNode2 (t : List Nod) (hT : treeB t = true) (i : Nat) (hi : i < t.length) (K : List Int) (hKe : kidsT t i = K) (p : Int→Nat→ByteArray) (k n : Int) (s : ByteArray) (L : List ByteArray) (c : Int) (hx : t.getD i default = ⟨k,n,s,L,c⟩) (hk : k ∈ ([11,12,13,17,18,24,25,28,29,30] : List Int)) (hK : (K.length : Int) = 2) (hs : s.size≤60) (hz : ∀ lev j,(p lev j).size≤900000) (hI : ∀ lev j,j < K.length→Meets Try.prog 53 [(false,[encNods t]),(false,[.sc (.int .i64 (K.getD j default))]),(false,[.sc (.int .i64 lev)])] [(false,[.sc (.string (p lev j))],true)]) :
    Meets Try.prog 37 [(false,[encNods t]),(false,[.sc (.int .i64 i)])] [(false,[.sc (.string (nodeB t K p k n s L))],true)]:=by
  have hkid:=implKidsT_m t hT i hi
  rw [hKe] at hkid
  have hlT:=tree_len hT
  have hix : eIdx 5 (some (.sl 41 5 (t.map encNod))) (some (.sc (.int .i64 (i : Int)))) = some (encNod ⟨k,n,s,L,c⟩):=by rw [ix_Nod (by omega) (by omega),Int.toNat_natCast,hx]
  have h7:=implBinO_m t K p k n s L c hK hs hz hI
  have h10:=implHan_m t K p ⟨#[116,114,121,67,97,116,99,104]⟩ k n s L c hK (by decide) hs hz hI
  have h11:=implHan_m t K p ⟨#[119,105,116,104,67,97,108,108,105,110,103,72,97,110,100,108,101,114,115]⟩ k n s L c hK (by decide) hs hz hI
  have h12:=implHan_m t K p ⟨#[119,105,116,104,82,101,115,116,97,114,116]⟩ k n s L c hK (by decide) hs hz hI
  have h1:=implFmtName_m s (by omega)
  have h2:=implFld_m s hs
  have h3:=implQuo_m s (by omega)
  have h4:=fmtName_size s
  have h5:=quoteB_size s
  have h6:=fldB_size hs
  have s10:=hz 1 0;have s11:=hz 1 1;have s12:=hz 1 2;have s21:=hz 2 1;have s13:=hz 13 0;have sn:=fmtName_size s
  simp only [encNods,encNod,encSs,encZs] at hI hkid hix h7 h10 h11 h12 ⊢
  simp only [List.mem_cons,List.not_mem_nil,or_false] at hk
  rcases hk with rfl | rfl | rfl | rfl | rfl | rfl | rfl | rfl | rfl | rfl
  all_goals
    refine meets_upf Try.func37 u_impl_printNode_g rfl ?_;simp only [u_impl_printNode_u]
    repeat' (first | (with_reducible refine jn_in ?_) | (with_reducible refine cl_ok (by assumption) rfl ?_) | (with_reducible refine cl_ok (hI _ _ (by omega)) rfl ?_) | (with_reducible refine br_if (fun hbr=>?_) (fun hbr=>?_)) | (with_reducible refine br_ifn (fun hbr=>?_) (fun hbr=>?_)) | (with_reducible refine br_nb (fun hbr=>?_) (fun hbr=>?_)) | (with_reducible refine br_b (fun hbr=>?_) (fun hbr=>?_)) | simp (disch:=first | omega | (simp only [ByteArray.size_append,szl,List.size_toArray,List.length_cons,List.length_nil,Nat.zero_add,Nat.reduceAdd,maxLen_n];omega) | (simp only [List.length_append,List.map_cons,List.map_nil,List.length_map,List.length_cons,List.length_nil];omega) | (simp only [List.length_cons,List.length_nil,Nat.zero_add,Nat.reduceAdd])) only [go_sem,↓reduceIte,Nat.reduceAdd,Int.reduceNeg,Int.reduceAdd,Int.reduceSub,Int.reduceMul,Int.reduceLT,Int.reduceLE,Int.reduceEq,Int.reduceToNat,Nat.reduceBEq,e_cat,ByteArray.append_assoc,e_sle,e_sge,nat1,ix_s,ix_z,fl_s,fl_z,fl1_s,fl1_z,map_s,map_z,hix])
    rfl
set_option maxHeartbeats 8000000 in
theorem implNode16 (t : List Nod) (hT : treeB t = true) (i : Nat) (hi : i < t.length) (K : List Int) (hKe : kidsT t i = K) (p : Int→Nat→ByteArray) (k n : Int) (s : ByteArray) (L : List ByteArray) (c : Int) (hx : t.getD i default = ⟨k,n,s,L,c⟩) (hk : k ∈ ([16] : List Int)) (hK : (K.length : Int) = 2 ∨ (K.length : Int) = 3) (hs : s.size≤60) (hz : ∀ lev j,(p lev j).size≤900000) (hI : ∀ lev j,j < K.length→Meets Try.prog 53 [(false,[encNods t]),(false,[.sc (.int .i64 (K.getD j default))]),(false,[.sc (.int .i64 lev)])] [(false,[.sc (.string (p lev j))],true)]) :
    Meets Try.prog 37 [(false,[encNods t]),(false,[.sc (.int .i64 i)])] [(false,[.sc (.string (nodeB t K p k n s L))],true)]:=by
  have hkid:=implKidsT_m t hT i hi
  rw [hKe] at hkid
  have hlT:=tree_len hT
  have hix : eIdx 5 (some (.sl 41 5 (t.map encNod))) (some (.sc (.int .i64 (i : Int)))) = some (encNod ⟨k,n,s,L,c⟩):=by rw [ix_Nod (by omega) (by omega),Int.toNat_natCast,hx]
  have h7:=implIf_m t K p hK hz hI
  simp only [encNods,encNod,encSs,encZs] at hI hkid hix h7 ⊢
  simp only [List.mem_cons,List.not_mem_nil,or_false] at hk
  rcases hk with rfl
  all_goals
    refine meets_upf Try.func37 u_impl_printNode_g rfl ?_;simp only [u_impl_printNode_u]
    repeat' (first | (with_reducible refine jn_in ?_) | (with_reducible refine cl_ok (by assumption) rfl ?_) | (with_reducible refine cl_ok (hI _ _ (by omega)) rfl ?_) | (with_reducible refine br_if (fun hbr=>?_) (fun hbr=>?_)) | (with_reducible refine br_ifn (fun hbr=>?_) (fun hbr=>?_)) | (with_reducible refine br_nb (fun hbr=>?_) (fun hbr=>?_)) | (with_reducible refine br_b (fun hbr=>?_) (fun hbr=>?_)) | simp (disch:=first | omega | (simp only [ByteArray.size_append,szl,List.size_toArray,List.length_cons,List.length_nil,Nat.zero_add,Nat.reduceAdd,maxLen_n];omega) | (simp only [List.length_append,List.map_cons,List.map_nil,List.length_map,List.length_cons,List.length_nil];omega) | (simp only [List.length_cons,List.length_nil,Nat.zero_add,Nat.reduceAdd])) only [go_sem,↓reduceIte,Nat.reduceAdd,Int.reduceNeg,Int.reduceAdd,Int.reduceSub,Int.reduceMul,Int.reduceLT,Int.reduceLE,Int.reduceEq,Int.reduceToNat,Nat.reduceBEq,e_cat,ByteArray.append_assoc,e_sle,e_sge,nat1,ix_s,ix_z,fl_s,fl_z,fl1_s,fl1_z,map_s,map_z,hix])
    rfl
set_option maxHeartbeats 8000000 in
theorem implNode8 (t : List Nod) (hT : treeB t = true) (i : Nat) (hi : i < t.length) (K : List Int) (hKe : kidsT t i = K) (p : Int→Nat→ByteArray) (k n : Int) (s : ByteArray) (L : List ByteArray) (c : Int) (hx : t.getD i default = ⟨k,n,s,L,c⟩) (hk : k ∈ ([8] : List Int)) (hw : Meets Try.prog 50 [(false,[encNods t]),(true,encNod ⟨8,n,s,L,c⟩),(false,[encZs K])] [(false,[.sc (.string (fnB t K L (p 1)))],true)]) :
    Meets Try.prog 37 [(false,[encNods t]),(false,[.sc (.int .i64 i)])] [(false,[.sc (.string (nodeB t K p k n s L))],true)]:=by
  have hkid:=implKidsT_m t hT i hi
  rw [hKe] at hkid
  have hlT:=tree_len hT
  have hix : eIdx 5 (some (.sl 41 5 (t.map encNod))) (some (.sc (.int .i64 (i : Int)))) = some (encNod ⟨k,n,s,L,c⟩):=by rw [ix_Nod (by omega) (by omega),Int.toNat_natCast,hx]
  simp only [encNods,encNod,encSs,encZs] at hkid hix hw ⊢
  simp only [List.mem_cons,List.not_mem_nil,or_false] at hk
  rcases hk with rfl
  all_goals
    refine meets_upf Try.func37 u_impl_printNode_g rfl ?_;simp only [u_impl_printNode_u]
    repeat' (first | (with_reducible refine jn_in ?_) | (with_reducible refine cl_ok (by assumption) rfl ?_) | (with_reducible refine cl_ok (hI _ _ (by omega)) rfl ?_) | (with_reducible refine br_if (fun hbr=>?_) (fun hbr=>?_)) | (with_reducible refine br_ifn (fun hbr=>?_) (fun hbr=>?_)) | (with_reducible refine br_nb (fun hbr=>?_) (fun hbr=>?_)) | (with_reducible refine br_b (fun hbr=>?_) (fun hbr=>?_)) | simp (disch:=first | omega | (simp only [ByteArray.size_append,szl,List.size_toArray,List.length_cons,List.length_nil,Nat.zero_add,Nat.reduceAdd,maxLen_n];omega) | (simp only [List.length_append,List.map_cons,List.map_nil,List.length_map,List.length_cons,List.length_nil];omega) | (simp only [List.length_cons,List.length_nil,Nat.zero_add,Nat.reduceAdd])) only [go_sem,↓reduceIte,Nat.reduceAdd,Int.reduceNeg,Int.reduceAdd,Int.reduceSub,Int.reduceMul,Int.reduceLT,Int.reduceLE,Int.reduceEq,Int.reduceToNat,Nat.reduceBEq,e_cat,ByteArray.append_assoc,e_sle,e_sge,nat1,ix_s,ix_z,fl_s,fl_z,fl1_s,fl1_z,map_s,map_z,hix])
    rfl
set_option maxHeartbeats 8000000 in
theorem implNode9 (t : List Nod) (hT : treeB t = true) (i : Nat) (hi : i < t.length) (K : List Int) (hKe : kidsT t i = K) (p : Int→Nat→ByteArray) (k n : Int) (s : ByteArray) (L : List ByteArray) (c : Int) (hx : t.getD i default = ⟨k,n,s,L,c⟩) (hk : k ∈ ([9] : List Int)) (hw : Meets Try.prog 51 [(false,[encNods t]),(true,encNod ⟨9,n,s,L,c⟩),(false,[encZs K])] [(false,[.sc (.string (callB L (p 13 0) (p 1)))],true)]) :
    Meets Try.prog 37 [(false,[encNods t]),(false,[.sc (.int .i64 i)])] [(false,[.sc (.string (nodeB t K p k n s L))],true)]:=by
  have hkid:=implKidsT_m t hT i hi
  rw [hKe] at hkid
  have hlT:=tree_len hT
  have hix : eIdx 5 (some (.sl 41 5 (t.map encNod))) (some (.sc (.int .i64 (i : Int)))) = some (encNod ⟨k,n,s,L,c⟩):=by rw [ix_Nod (by omega) (by omega),Int.toNat_natCast,hx]
  simp only [encNods,encNod,encSs,encZs] at hkid hix hw ⊢
  simp only [List.mem_cons,List.not_mem_nil,or_false] at hk
  rcases hk with rfl
  all_goals
    refine meets_upf Try.func37 u_impl_printNode_g rfl ?_;simp only [u_impl_printNode_u]
    repeat' (first | (with_reducible refine jn_in ?_) | (with_reducible refine cl_ok (by assumption) rfl ?_) | (with_reducible refine cl_ok (hI _ _ (by omega)) rfl ?_) | (with_reducible refine br_if (fun hbr=>?_) (fun hbr=>?_)) | (with_reducible refine br_ifn (fun hbr=>?_) (fun hbr=>?_)) | (with_reducible refine br_nb (fun hbr=>?_) (fun hbr=>?_)) | (with_reducible refine br_b (fun hbr=>?_) (fun hbr=>?_)) | simp (disch:=first | omega | (simp only [ByteArray.size_append,szl,List.size_toArray,List.length_cons,List.length_nil,Nat.zero_add,Nat.reduceAdd,maxLen_n];omega) | (simp only [List.length_append,List.map_cons,List.map_nil,List.length_map,List.length_cons,List.length_nil];omega) | (simp only [List.length_cons,List.length_nil,Nat.zero_add,Nat.reduceAdd])) only [go_sem,↓reduceIte,Nat.reduceAdd,Int.reduceNeg,Int.reduceAdd,Int.reduceSub,Int.reduceMul,Int.reduceLT,Int.reduceLE,Int.reduceEq,Int.reduceToNat,Nat.reduceBEq,e_cat,ByteArray.append_assoc,e_sle,e_sge,nat1,ix_s,ix_z,fl_s,fl_z,fl1_s,fl1_z,map_s,map_z,hix])
    rfl
end Go.Proofs.Ytfdpkdfmkedkmaa

namespace Go.Proofs.Ytfdpkdfmkedkmaa
open Go.RowKit
set_option maxRecDepth 100000
def setO (p : Int→Nat→ByteArray) (k : Int) (s : ByteArray) (L : List ByteArray) : ByteArray :=
  if k = 22 then fmtName s ++ ⟨#[32,60,45,32]⟩ else if k = 23 then fmtName s ++ ⟨#[32,60,60,45,32]⟩ else if k = 24 then fmtName s ++ (⟨#[91]⟩ ++ (p 1 0 ++ ⟨#[93,32,60,45,32]⟩)) else if k = 25 then fmtName s ++ (⟨#[91,91]⟩ ++ (p 1 0 ++ ⟨#[93,93,32,60,45,32]⟩)) else if k = 26 then fmtName s ++ (⟨#[36]⟩ ++ (fldB (L.getD 0 default) ++ ⟨#[32,60,45,32]⟩)) else fmtName (L.getD 0 default) ++ (⟨#[40]⟩ ++ (fmtName s ++ ⟨#[41,32,60,45,32]⟩))
theorem setO_size {p : Int→Nat→ByteArray} {k : Int} {s : ByteArray} {L : List ByteArray} (hz : ∀ lev j,(p lev j).size≤900000) (hL0 : (L.getD 0 default).size≤60) : (setO p k s L).size≤901000:=by
  have h1:=fmtName_size s
  have h2:=fmtName_size (L.getD 0 default)
  have h3:=fldB_size hL0
  have h4:=hz 1 0
  unfold setO
  repeat' split
  all_goals (simp only [ByteArray.size_append,szl,List.size_toArray,List.length_cons,List.length_nil,Nat.zero_add,Nat.reduceAdd];omega)
set_option maxHeartbeats 8000000 in
theorem specSet0_m (t : List Nod) (hT : t.length≤200) (i : Nat) (hi : i < t.length) (K : List Int) (p : Int→Nat→ByteArray) (k n : Int) (s : ByteArray) (L : List ByteArray) (c : Int) (hx : t.getD i default = ⟨k,n,s,L,c⟩) (hk : k ∈ ([22,23,24,25] : List Int)) (hs : s.size≤60) (hK : 1≤(K.length : Int)) (hz : ∀ lev j,(p lev j).size≤900000) (hI : ∀ lev j,j < K.length→Meets Try.prog 36 [(false,[encNods t]),(false,[.sc (.int .i64 (K.getD j default))]),(false,[.sc (.int .i64 lev)])] [(false,[.sc (.string (p lev j))],true)]) :
    Meets Try.prog 90 [(false,[encNods t]),(false,[.sc (.int .i64 i)]),(false,[encZs K])] [(false,[.sc (.string (setO p k s L))],true)]:=by
  have hix : eIdx 5 (some (.sl 41 5 (t.map encNod))) (some (.sc (.int .i64 (i : Int)))) = some (encNod ⟨k,n,s,L,c⟩):=by rw [ix_Nod (by omega) (by omega),Int.toNat_natCast,hx]
  have h1:=specFmtName_m s (by omega)
  have h2:=specFld_m s hs
  have h3:=specQuo_m s (by omega)
  have h4:=fmtName_size s
  have h5:=quoteB_size s
  have h6:=fldB_size hs
  have s10:=hz 1 0;have s11:=hz 1 1;have s12:=hz 1 2;have s21:=hz 2 1;have s13:=hz 13 0;have sn:=fmtName_size s
  simp only [encNods,encNod,encSs,encZs] at hI hix ⊢
  simp only [List.mem_cons,List.not_mem_nil,or_false] at hk
  rcases hk with rfl | rfl | rfl | rfl
  all_goals
    refine meets_upf Try.func90 u_spec_l18Set_g rfl ?_;simp only [u_spec_l18Set_u]
    repeat' (first | (with_reducible refine jn_in ?_) | (with_reducible refine cl_ok (by assumption) rfl ?_) | (with_reducible refine cl_ok (hI _ _ (by omega)) rfl ?_) | (with_reducible refine br_if (fun hbr=>?_) (fun hbr=>?_)) | (with_reducible refine br_ifn (fun hbr=>?_) (fun hbr=>?_)) | (with_reducible refine br_nb (fun hbr=>?_) (fun hbr=>?_)) | (with_reducible refine br_b (fun hbr=>?_) (fun hbr=>?_)) | simp (disch:=first | omega | (simp only [ByteArray.size_append,szl,List.size_toArray,List.length_cons,List.length_nil,Nat.zero_add,Nat.reduceAdd,maxLen_n];omega) | (simp only [List.length_append,List.map_cons,List.map_nil,List.length_map,List.length_cons,List.length_nil];omega) | (simp only [List.length_cons,List.length_nil,Nat.zero_add,Nat.reduceAdd])) only [go_sem,↓reduceIte,Nat.reduceAdd,Int.reduceNeg,Int.reduceAdd,Int.reduceSub,Int.reduceMul,Int.reduceLT,Int.reduceLE,Int.reduceEq,Int.reduceToNat,Nat.reduceBEq,e_cat,ByteArray.append_assoc,e_sle,e_sge,nat1,ix_s,ix_z,fl_s,fl_z,fl1_s,fl1_z,map_s,map_z,hix])
    rfl
set_option maxHeartbeats 8000000 in
theorem specSet1_m (t : List Nod) (hT : t.length≤200) (i : Nat) (hi : i < t.length) (K : List Int) (p : Int→Nat→ByteArray) (k n : Int) (s : ByteArray) (L : List ByteArray) (c : Int) (hx : t.getD i default = ⟨k,n,s,L,c⟩) (hk : k ∈ ([26,27] : List Int)) (hs : s.size≤60) (hK : 1≤(K.length : Int)) (hL : L.length = 1) (hL0 : (L.getD 0 default).size≤60) (hz : ∀ lev j,(p lev j).size≤900000) (hI : ∀ lev j,j < K.length→Meets Try.prog 36 [(false,[encNods t]),(false,[.sc (.int .i64 (K.getD j default))]),(false,[.sc (.int .i64 lev)])] [(false,[.sc (.string (p lev j))],true)]) :
    Meets Try.prog 90 [(false,[encNods t]),(false,[.sc (.int .i64 i)]),(false,[encZs K])] [(false,[.sc (.string (setO p k s L))],true)]:=by
  have hix : eIdx 5 (some (.sl 41 5 (t.map encNod))) (some (.sc (.int .i64 (i : Int)))) = some (encNod ⟨k,n,s,L,c⟩):=by rw [ix_Nod (by omega) (by omega),Int.toNat_natCast,hx]
  have h1:=specFmtName_m s (by omega)
  have h2:=specFld_m s hs
  have h3:=specQuo_m s (by omega)
  have h4:=fmtName_size s
  have h5:=quoteB_size s
  have h6:=fldB_size hs
  have s10:=hz 1 0;have s11:=hz 1 1;have s12:=hz 1 2;have s21:=hz 2 1;have s13:=hz 13 0;have sn:=fmtName_size s
  have h7:=specFmtName_m (L.getD 0 default) (by omega)
  have h8:=specFld_m (L.getD 0 default) hL0
  have h9:=fldB_size hL0
  have s8:=fmtName_size (L.getD 0 default)
  simp only [encNods,encNod,encSs,encZs] at hI hix ⊢
  simp only [List.mem_cons,List.not_mem_nil,or_false] at hk
  rcases hk with rfl | rfl
  all_goals
    refine meets_upf Try.func90 u_spec_l18Set_g rfl ?_;simp only [u_spec_l18Set_u]
    repeat' (first | (with_reducible refine jn_in ?_) | (with_reducible refine cl_ok (by assumption) rfl ?_) | (with_reducible refine cl_ok (hI _ _ (by omega)) rfl ?_) | (with_reducible refine br_if (fun hbr=>?_) (fun hbr=>?_)) | (with_reducible refine br_ifn (fun hbr=>?_) (fun hbr=>?_)) | (with_reducible refine br_nb (fun hbr=>?_) (fun hbr=>?_)) | (with_reducible refine br_b (fun hbr=>?_) (fun hbr=>?_)) | simp (disch:=first | omega | (simp only [ByteArray.size_append,szl,List.size_toArray,List.length_cons,List.length_nil,Nat.zero_add,Nat.reduceAdd,maxLen_n];omega) | (simp only [List.length_append,List.map_cons,List.map_nil,List.length_map,List.length_cons,List.length_nil];omega) | (simp only [List.length_cons,List.length_nil,Nat.zero_add,Nat.reduceAdd])) only [go_sem,↓reduceIte,Nat.reduceAdd,Int.reduceNeg,Int.reduceAdd,Int.reduceSub,Int.reduceMul,Int.reduceLT,Int.reduceLE,Int.reduceEq,Int.reduceToNat,Nat.reduceBEq,e_cat,ByteArray.append_assoc,e_sle,e_sge,nat1,ix_s,ix_z,fl_s,fl_z,fl1_s,fl1_z,map_s,map_z,hix])
    rfl
set_option maxHeartbeats 8000000 in
theorem specWord0_m (t : List Nod) (hT : t.length≤200) (i : Nat) (hi : i < t.length) (K : List Int) (p : Int→Nat→ByteArray) (k n : Int) (s : ByteArray) (L : List ByteArray) (c : Int) (hx : t.getD i default = ⟨k,n,s,L,c⟩) (hk : k ∈ ([19,20,32,34,35] : List Int)) (hs : s.size≤60) (hz : ∀ lev j,(p lev j).size≤900000) (hI : ∀ lev j,j < K.length→Meets Try.prog 36 [(false,[encNods t]),(false,[.sc (.int .i64 (K.getD j default))]),(false,[.sc (.int .i64 lev)])] [(false,[.sc (.string (p lev j))],true)]) :
    Meets Try.prog 77 [(false,[encNods t]),(false,[.sc (.int .i64 i)]),(false,[encZs K])] [(false,[.sc (.string (nodeB t K p k n s L))],true)]:=by
  have hix : eIdx 5 (some (.sl 41 5 (t.map encNod))) (some (.sc (.int .i64 (i : Int)))) = some (encNod ⟨k,n,s,L,c⟩):=by rw [ix_Nod (by omega) (by omega),Int.toNat_natCast,hx]
  have h1:=specFmtName_m s (by omega)
  have h2:=specFld_m s hs
  have h3:=specQuo_m s (by omega)
  have h4:=fmtName_size s
  have h5:=quoteB_size s
  have h6:=fldB_size hs
  have s10:=hz 1 0;have s11:=hz 1 1;have s12:=hz 1 2;have s21:=hz 2 1;have s13:=hz 13 0;have sn:=fmtName_size s
  simp only [encNods,encNod,encSs,encZs] at hI hix ⊢
  simp only [List.mem_cons,List.not_mem_nil,or_false] at hk
  rcases hk with rfl | rfl | rfl | rfl | rfl
  all_goals
    refine meets_upf Try.func77 u_spec_l18Word_g rfl ?_;simp only [u_spec_l18Word_u]
    repeat' (first | (with_reducible refine jn_in ?_) | (with_reducible refine cl_ok (by assumption) rfl ?_) | (with_reducible refine cl_ok (hI _ _ (by omega)) rfl ?_) | (with_reducible refine br_if (fun hbr=>?_) (fun hbr=>?_)) | (with_reducible refine br_ifn (fun hbr=>?_) (fun hbr=>?_)) | (with_reducible refine br_nb (fun hbr=>?_) (fun hbr=>?_)) | (with_reducible refine br_b (fun hbr=>?_) (fun hbr=>?_)) | simp (disch:=first | omega | (simp only [ByteArray.size_append,szl,List.size_toArray,List.length_cons,List.length_nil,Nat.zero_add,Nat.reduceAdd,maxLen_n];omega) | (simp only [List.length_append,List.map_cons,List.map_nil,List.length_map,List.length_cons,List.length_nil];omega) | (simp only [List.length_cons,List.length_nil,Nat.zero_add,Nat.reduceAdd])) only [go_sem,↓reduceIte,Nat.reduceAdd,Int.reduceNeg,Int.reduceAdd,Int.reduceSub,Int.reduceMul,Int.reduceLT,Int.reduceLE,Int.reduceEq,Int.reduceToNat,Nat.reduceBEq,e_cat,ByteArray.append_assoc,e_sle,e_sge,nat1,ix_s,ix_z,fl_s,fl_z,fl1_s,fl1_z,map_s,map_z,hix,u_spec_l18Word_j0])
    rfl
set_option maxHeartbeats 8000000 in
theorem specWord1_m (t : List Nod) (hT : t.length≤200) (i : Nat) (hi : i < t.length) (K : List Int) (p : Int→Nat→ByteArray) (k n : Int) (s : ByteArray) (L : List ByteArray) (c : Int) (hx : t.getD i default = ⟨k,n,s,L,c⟩) (hk : k ∈ ([21,31,33] : List Int)) (hs : s.size≤60) (hK : (K.length : Int) = 1) (hz : ∀ lev j,(p lev j).size≤900000) (hI : ∀ lev j,j < K.length→Meets Try.prog 36 [(false,[encNods t]),(false,[.sc (.int .i64 (K.getD j default))]),(false,[.sc (.int .i64 lev)])] [(false,[.sc (.string (p lev j))],true)]) :
    Meets Try.prog 77 [(false,[encNods t]),(false,[.sc (.int .i64 i)]),(false,[encZs K])] [(false,[.sc (.string (nodeB t K p k n s L))],true)]:=by
  have hix : eIdx 5 (some (.sl 41 5 (t.map encNod))) (some (.sc (.int .i64 (i : Int)))) = some (encNod ⟨k,n,s,L,c⟩):=by rw [ix_Nod (by omega) (by omega),Int.toNat_natCast,hx]
  have h1:=specFmtName_m s (by omega)
  have h2:=specFld_m s hs
  have h3:=specQuo_m s (by omega)
  have h4:=fmtName_size s
  have h5:=quoteB_size s
  have h6:=fldB_size hs
  have s10:=hz 1 0;have s11:=hz 1 1;have s12:=hz 1 2;have s21:=hz 2 1;have s13:=hz 13 0;have sn:=fmtName_size s
  simp only [encNods,encNod,encSs,encZs] at hI hix ⊢
  simp only [List.mem_cons,List.not_mem_nil,or_false] at hk
  rcases hk with rfl | rfl | rfl
  all_goals
    refine meets_upf Try.func77 u_spec_l18Word_g rfl ?_;simp only [u_spec_l18Word_u]
    repeat' (first | (with_reducible refine jn_in ?_) | (with_reducible refine cl_ok (by assumption) rfl ?_) | (with_reducible refine cl_ok (hI _ _ (by omega)) rfl ?_) | (with_reducible refine br_if (fun hbr=>?_) (fun hbr=>?_)) | (with_reducible refine br_ifn (fun hbr=>?_) (fun hbr=>?_)) | (with_reducible refine br_nb (fun hbr=>?_) (fun hbr=>?_)) | (with_reducible refine br_b (fun hbr=>?_) (fun hbr=>?_)) | simp (disch:=first | omega | (simp only [ByteArray.size_append,szl,List.size_toArray,List.length_cons,List.length_nil,Nat.zero_add,Nat.reduceAdd,maxLen_n];omega) | (simp only [List.length_append,List.map_cons,List.map_nil,List.length_map,List.length_cons,List.length_nil];omega) | (simp only [List.length_cons,List.length_nil,Nat.zero_add,Nat.reduceAdd])) only [go_sem,↓reduceIte,Nat.reduceAdd,Int.reduceNeg,Int.reduceAdd,Int.reduceSub,Int.reduceMul,Int.reduceLT,Int.reduceLE,Int.reduceEq,Int.reduceToNat,Nat.reduceBEq,e_cat,ByteArray.append_assoc,e_sle,e_sge,nat1,ix_s,ix_z,fl_s,fl_z,fl1_s,fl1_z,map_s,map_z,hix,u_spec_l18Word_j0])
    rfl
set_option maxHeartbeats 8000000 in
theorem specWord2_m (t : List Nod) (hT : t.length≤200) (i : Nat) (hi : i < t.length) (K : List Int) (p : Int→Nat→ByteArray) (k n : Int) (s : ByteArray) (L : List ByteArray) (c : Int) (hx : t.getD i default = ⟨k,n,s,L,c⟩) (hk : k ∈ ([28,29,30] : List Int)) (hs : s.size≤60) (hK : (K.length : Int) = 2) (hz : ∀ lev j,(p lev j).size≤900000) (hI : ∀ lev j,j < K.length→Meets Try.prog 36 [(false,[encNods t]),(false,[.sc (.int .i64 (K.getD j default))]),(false,[.sc (.int .i64 lev)])] [(false,[.sc (.string (p lev j))],true)]) :
    Meets Try.prog 77 [(false,[encNods t]),(false,[.sc (.int .i64 i)]),(false,[encZs K])] [(false,[.sc (.string (nodeB t K p k n s L))],true)]:=by
  have hix : eIdx 5 (some (.sl 41 5 (t.map encNod))) (some (.sc (.int .i64 (i : Int)))) = some (encNod ⟨k,n,s,L,c⟩):=by rw [ix_Nod (by omega) (by omega),Int.toNat_natCast,hx]
  have h1:=specFmtName_m s (by omega)
  have h2:=specFld_m s hs
  have h3:=specQuo_m s (by omega)
  have h4:=fmtName_size s
  have h5:=quoteB_size s
  have h6:=fldB_size hs
  have s10:=hz 1 0;have s11:=hz 1 1;have s12:=hz 1 2;have s21:=hz 2 1;have s13:=hz 13 0;have sn:=fmtName_size s
  simp only [encNods,encNod,encSs,encZs] at hI hix ⊢
  simp only [List.mem_cons,List.not_mem_nil,or_false] at hk
  rcases hk with rfl | rfl | rfl
  all_goals
    refine meets_upf Try.func77 u_spec_l18Word_g rfl ?_;simp only [u_spec_l18Word_u]
    repeat' (first | (with_reducible refine jn_in ?_) | (with_reducible refine cl_ok (by assumption) rfl ?_) | (with_reducible refine cl_ok (hI _ _ (by omega)) rfl ?_) | (with_reducible refine br_if (fun hbr=>?_) (fun hbr=>?_)) | (with_reducible refine br_ifn (fun hbr=>?_) (fun hbr=>?_)) | (with_reducible refine br_nb (fun hbr=>?_) (fun hbr=>?_)) | (with_reducible refine br_b (fun hbr=>?_) (fun hbr=>?_)) | simp (disch:=first | omega | (simp only [ByteArray.size_append,szl,List.size_toArray,List.length_cons,List.length_nil,Nat.zero_add,Nat.reduceAdd,maxLen_n];omega) | (simp only [List.length_append,List.map_cons,List.map_nil,List.length_map,List.length_cons,List.length_nil];omega) | (simp only [List.length_cons,List.length_nil,Nat.zero_add,Nat.reduceAdd])) only [go_sem,↓reduceIte,Nat.reduceAdd,Int.reduceNeg,Int.reduceAdd,Int.reduceSub,Int.reduceMul,Int.reduceLT,Int.reduceLE,Int.reduceEq,Int.reduceToNat,Nat.reduceBEq,e_cat,ByteArray.append_assoc,e_sle,e_sge,nat1,ix_s,ix_z,fl_s,fl_z,fl1_s,fl1_z,map_s,map_z,hix,u_spec_l18Word_j0,ixl_0,ixl_1,ixl_2,chl_0,chl_1,chl_2])
    rfl
set_option maxHeartbeats 8000000 in
theorem specWord22_m (t : List Nod) (hT : t.length≤200) (i : Nat) (hi : i < t.length) (K : List Int) (p : Int→Nat→ByteArray) (k n : Int) (s : ByteArray) (L : List ByteArray) (c : Int) (hx : t.getD i default = ⟨k,n,s,L,c⟩) (hk : k ∈ ([22,23] : List Int)) (hs : s.size≤60) (hK : (K.length : Int) = 1) (hL0 : (L.getD 0 default).size≤60) (hz : ∀ lev j,(p lev j).size≤900000) (hI : ∀ lev j,j < K.length→Meets Try.prog 36 [(false,[encNods t]),(false,[.sc (.int .i64 (K.getD j default))]),(false,[.sc (.int .i64 lev)])] [(false,[.sc (.string (p lev j))],true)]) :
    Meets Try.prog 77 [(false,[encNods t]),(false,[.sc (.int .i64 i)]),(false,[encZs K])] [(false,[.sc (.string (nodeB t K p k n s L))],true)]:=by
  have hix : eIdx 5 (some (.sl 41 5 (t.map encNod))) (some (.sc (.int .i64 (i : Int)))) = some (encNod ⟨k,n,s,L,c⟩):=by rw [ix_Nod (by omega) (by omega),Int.toNat_natCast,hx]
  have hset:=specSet0_m t hT i hi K p k n s L c hx (by revert hk;simp;omega) hs (by omega) hz hI
  have hss:=setO_size (p:=p) (k:=k) (s:=s) (L:=L) hz hL0
  have h1:=specFmtName_m s (by omega)
  have h2:=specFld_m s hs
  have h3:=specQuo_m s (by omega)
  have h4:=fmtName_size s
  have h5:=quoteB_size s
  have h6:=fldB_size hs
  have s10:=hz 1 0;have s11:=hz 1 1;have s12:=hz 1 2;have s21:=hz 2 1;have s13:=hz 13 0;have sn:=fmtName_size s
  simp only [encNods,encNod,encSs,encZs] at hI hix hset ⊢
  simp only [List.mem_cons,List.not_mem_nil,or_false] at hk
  rcases hk with rfl | rfl
  all_goals
    refine meets_upf Try.func77 u_spec_l18Word_g rfl ?_;simp only [u_spec_l18Word_u]
    repeat' (first | (with_reducible refine jn_in ?_) | (with_reducible refine cl_ok (by assumption) rfl ?_) | (with_reducible refine cl_ok (hI _ _ (by omega)) rfl ?_) | (with_reducible refine br_if (fun hbr=>?_) (fun hbr=>?_)) | (with_reducible refine br_ifn (fun hbr=>?_) (fun hbr=>?_)) | (with_reducible refine br_nb (fun hbr=>?_) (fun hbr=>?_)) | (with_reducible refine br_b (fun hbr=>?_) (fun hbr=>?_)) | simp (disch:=first | omega | (simp only [ByteArray.size_append,szl,List.size_toArray,List.length_cons,List.length_nil,Nat.zero_add,Nat.reduceAdd,maxLen_n];omega) | (simp only [List.length_append,List.map_cons,List.map_nil,List.length_map,List.length_cons,List.length_nil];omega) | (simp only [List.length_cons,List.length_nil,Nat.zero_add,Nat.reduceAdd])) only [go_sem,↓reduceIte,Nat.reduceAdd,Int.reduceNeg,Int.reduceAdd,Int.reduceSub,Int.reduceMul,Int.reduceLT,Int.reduceLE,Int.reduceEq,Int.reduceToNat,Nat.reduceBEq,e_cat,ByteArray.append_assoc,e_sle,e_sge,nat1,ix_s,ix_z,fl_s,fl_z,fl1_s,fl1_z,map_s,map_z,hix,u_spec_l18Word_j0,hK])
    simp only [setO,Int.reduceEq,↓reduceIte,ByteArray.append_assoc];rfl
set_option maxHeartbeats 8000000 in
theorem specWord24_m (t : List Nod) (hT : t.length≤200) (i : Nat) (hi : i < t.length) (K : List Int) (p : Int→Nat→ByteArray) (k n : Int) (s : ByteArray) (L : List ByteArray) (c : Int) (hx : t.getD i default = ⟨k,n,s,L,c⟩) (hk : k ∈ ([24,25] : List Int)) (hs : s.size≤60) (hK : (K.length : Int) = 2) (hL0 : (L.getD 0 default).size≤60) (hz : ∀ lev j,(p lev j).size≤900000) (hI : ∀ lev j,j < K.length→Meets Try.prog 36 [(false,[encNods t]),(false,[.sc (.int .i64 (K.getD j default))]),(false,[.sc (.int .i64 lev)])] [(false,[.sc (.string (p lev j))],true)]) :
    Meets Try.prog 77 [(false,[encNods t]),(false,[.sc (.int .i64 i)]),(false,[encZs K])] [(false,[.sc (.string (nodeB t K p k n s L))],true)]:=by
  have hix : eIdx 5 (some (.sl 41 5 (t.map encNod))) (some (.sc (.int .i64 (i : Int)))) = some (encNod ⟨k,n,s,L,c⟩):=by rw [ix_Nod (by omega) (by omega),Int.toNat_natCast,hx]
  have hset:=specSet0_m t hT i hi K p k n s L c hx (by revert hk;simp;omega) hs (by omega) hz hI
  have hss:=setO_size (p:=p) (k:=k) (s:=s) (L:=L) hz hL0
  have h1:=specFmtName_m s (by omega)
  have h2:=specFld_m s hs
  have h3:=specQuo_m s (by omega)
  have h4:=fmtName_size s
  have h5:=quoteB_size s
  have h6:=fldB_size hs
  have s10:=hz 1 0;have s11:=hz 1 1;have s12:=hz 1 2;have s21:=hz 2 1;have s13:=hz 13 0;have sn:=fmtName_size s
  simp only [encNods,encNod,encSs,encZs] at hI hix hset ⊢
  simp only [List.mem_cons,List.not_mem_nil,or_false] at hk
  rcases hk with rfl | rfl
  all_goals
    refine meets_upf Try.func77 u_spec_l18Word_g rfl ?_;simp only [u_spec_l18Word_u]
    repeat' (first | (with_reducible refine jn_in ?_) | (with_reducible refine cl_ok (by assumption) rfl ?_) | (with_reducible refine cl_ok (hI _ _ (by omega)) rfl ?_) | (with_reducible refine br_if (fun hbr=>?_) (fun hbr=>?_)) | (with_reducible refine br_ifn (fun hbr=>?_) (fun hbr=>?_)) | (with_reducible refine br_nb (fun hbr=>?_) (fun hbr=>?_)) | (with_reducible refine br_b (fun hbr=>?_) (fun hbr=>?_)) | simp (disch:=first | omega | (simp only [ByteArray.size_append,szl,List.size_toArray,List.length_cons,List.length_nil,Nat.zero_add,Nat.reduceAdd,maxLen_n];omega) | (simp only [List.length_append,List.map_cons,List.map_nil,List.length_map,List.length_cons,List.length_nil];omega) | (simp only [List.length_cons,List.length_nil,Nat.zero_add,Nat.reduceAdd])) only [go_sem,↓reduceIte,Nat.reduceAdd,Int.reduceNeg,Int.reduceAdd,Int.reduceSub,Int.reduceMul,Int.reduceLT,Int.reduceLE,Int.reduceEq,Int.reduceToNat,Nat.reduceBEq,e_cat,ByteArray.append_assoc,e_sle,e_sge,nat1,ix_s,ix_z,fl_s,fl_z,fl1_s,fl1_z,map_s,map_z,hix,u_spec_l18Word_j0,hK])
    simp only [setO,Int.reduceEq,↓reduceIte,ByteArray.append_assoc];rfl
set_option maxHeartbeats 8000000 in
theorem specWord26_m (t : List Nod) (hT : t.length≤200) (i : Nat) (hi : i < t.length) (K : List Int) (p : Int→Nat→ByteArray) (k n : Int) (s : ByteArray) (L : List ByteArray) (c : Int) (hx : t.getD i default = ⟨k,n,s,L,c⟩) (hk : k ∈ ([26,27] : List Int)) (hs : s.size≤60) (hK : (K.length : Int) = 1) (hL : L.length = 1) (hL0 : (L.getD 0 default).size≤60) (hz : ∀ lev j,(p lev j).size≤900000) (hI : ∀ lev j,j < K.length→Meets Try.prog 36 [(false,[encNods t]),(false,[.sc (.int .i64 (K.getD j default))]),(false,[.sc (.int .i64 lev)])] [(false,[.sc (.string (p lev j))],true)]) :
    Meets Try.prog 77 [(false,[encNods t]),(false,[.sc (.int .i64 i)]),(false,[encZs K])] [(false,[.sc (.string (nodeB t K p k n s L))],true)]:=by
  have hix : eIdx 5 (some (.sl 41 5 (t.map encNod))) (some (.sc (.int .i64 (i : Int)))) = some (encNod ⟨k,n,s,L,c⟩):=by rw [ix_Nod (by omega) (by omega),Int.toNat_natCast,hx]
  have hset:=specSet1_m t hT i hi K p k n s L c hx hk hs (by omega) hL hL0 hz hI
  have hss:=setO_size (p:=p) (k:=k) (s:=s) (L:=L) hz hL0
  have h1:=specFmtName_m s (by omega)
  have h2:=specFld_m s hs
  have h3:=specQuo_m s (by omega)
  have h4:=fmtName_size s
  have h5:=quoteB_size s
  have h6:=fldB_size hs
  have s10:=hz 1 0;have s11:=hz 1 1;have s12:=hz 1 2;have s21:=hz 2 1;have s13:=hz 13 0;have sn:=fmtName_size s
  simp only [encNods,encNod,encSs,encZs] at hI hix hset ⊢
  simp only [List.mem_cons,List.not_mem_nil,or_false] at hk
  rcases hk with rfl | rfl
  all_goals
    refine meets_upf Try.func77 u_spec_l18Word_g rfl ?_;simp only [u_spec_l18Word_u]
    repeat' (first | (with_reducible refine jn_in ?_) | (with_reducible refine cl_ok (by assumption) rfl ?_) | (with_reducible refine cl_ok (hI _ _ (by omega)) rfl ?_) | (with_reducible refine br_if (fun hbr=>?_) (fun hbr=>?_)) | (with_reducible refine br_ifn (fun hbr=>?_) (fun hbr=>?_)) | (with_reducible refine br_nb (fun hbr=>?_) (fun hbr=>?_)) | (with_reducible refine br_b (fun hbr=>?_) (fun hbr=>?_)) | simp (disch:=first | omega | (simp only [ByteArray.size_append,szl,List.size_toArray,List.length_cons,List.length_nil,Nat.zero_add,Nat.reduceAdd,maxLen_n];omega) | (simp only [List.length_append,List.map_cons,List.map_nil,List.length_map,List.length_cons,List.length_nil];omega) | (simp only [List.length_cons,List.length_nil,Nat.zero_add,Nat.reduceAdd])) only [go_sem,↓reduceIte,Nat.reduceAdd,Int.reduceNeg,Int.reduceAdd,Int.reduceSub,Int.reduceMul,Int.reduceLT,Int.reduceLE,Int.reduceEq,Int.reduceToNat,Nat.reduceBEq,e_cat,ByteArray.append_assoc,e_sle,e_sge,nat1,ix_s,ix_z,fl_s,fl_z,fl1_s,fl1_z,map_s,map_z,hix,u_spec_l18Word_j0,hK])
    simp only [setO,Int.reduceEq,↓reduceIte,ByteArray.append_assoc];rfl
set_option maxHeartbeats 8000000 in
theorem specNode0 (t : List Nod) (hT : treeB t = true) (i : Nat) (hi : i < t.length) (K : List Int) (hKe : kidsT t i = K) (p : Int→Nat→ByteArray) (k n : Int) (s : ByteArray) (L : List ByteArray) (c : Int) (hx : t.getD i default = ⟨k,n,s,L,c⟩) (hk : k ∈ ([0,15] : List Int)) (h200 : K.length≤200) (hs : s.size≤60) (hz : ∀ lev j,(p lev j).size≤900000) (hI : ∀ lev j,j < K.length→Meets Try.prog 36 [(false,[encNods t]),(false,[.sc (.int .i64 (K.getD j default))]),(false,[.sc (.int .i64 lev)])] [(false,[.sc (.string (p lev j))],true)]) :
    Meets Try.prog 46 [(false,[encNods t]),(false,[.sc (.int .i64 i)])] [(false,[.sc (.string (nodeB t K p k n s L))],true)]:=by
  have hkid:=specKidsT_m t hT i hi
  rw [hKe] at hkid
  have hlT:=tree_len hT
  have hix : eIdx 5 (some (.sl 41 5 (t.map encNod))) (some (.sc (.int .i64 (i : Int)))) = some (encNod ⟨k,n,s,L,c⟩):=by rw [ix_Nod (by omega) (by omega),Int.toNat_natCast,hx]
  have ha:=specAll_m t K ⟨#[10]⟩ (p 1) K.length rfl h200 (fun j hj=>hI 1 j hj) (fun j _=>by have:=hz 1 j;omega) (by decide)
  have hb:=specAll_m t K ⟨#[59,32]⟩ (p 1) K.length rfl h200 (fun j hj=>hI 1 j hj) (fun j _=>by have:=hz 1 j;omega) (by decide)
  have hsz:=joinG_size (g:=p 1) (sep:=⟨#[59,32]⟩) (n:=K.length) fun j _=>hz 1 j
  have hsz2 : K.length * (900000 + (⟨#[59,32]⟩ : ByteArray).size)≤200 * 900002:=Nat.mul_le_mul h200 (by show 900000 + 2≤_;omega)
  simp only [encNods,encNod,encSs,encZs] at hI hkid hix ha hb ⊢
  simp only [List.mem_cons,List.not_mem_nil,or_false] at hk
  rcases hk with rfl | rfl
  all_goals
    refine meets_upf Try.func46 u_spec_l18Bare_g rfl ?_;simp only [u_spec_l18Bare_u]
    repeat' (first | (with_reducible refine jn_in ?_) | (with_reducible refine cl_ok (by assumption) rfl ?_) | (with_reducible refine cl_ok (hI _ _ (by omega)) rfl ?_) | (with_reducible refine br_if (fun hbr=>?_) (fun hbr=>?_)) | (with_reducible refine br_ifn (fun hbr=>?_) (fun hbr=>?_)) | (with_reducible refine br_nb (fun hbr=>?_) (fun hbr=>?_)) | (with_reducible refine br_b (fun hbr=>?_) (fun hbr=>?_)) | simp (disch:=first | omega | (simp only [ByteArray.size_append,szl,List.size_toArray,List.length_cons,List.length_nil,Nat.zero_add,Nat.reduceAdd,maxLen_n];omega) | (simp only [List.length_append,List.map_cons,List.map_nil,List.length_map,List.length_cons,List.length_nil];omega) | (simp only [List.length_cons,List.length_nil,Nat.zero_add,Nat.reduceAdd])) only [go_sem,↓reduceIte,Nat.reduceAdd,Int.reduceNeg,Int.reduceAdd,Int.reduceSub,Int.reduceMul,Int.reduceLT,Int.reduceLE,Int.reduceEq,Int.reduceToNat,Nat.reduceBEq,e_cat,ByteArray.append_assoc,e_sle,e_sge,nat1,ix_s,ix_z,fl_s,fl_z,fl1_s,fl1_z,map_s,map_z,hix])
    all_goals first
      | rfl
      | (simp only [nodeB,Int.reduceEq,↓reduceIte];rw [if_pos (by omega)];rfl)
      | (simp only [nodeB,Int.reduceEq,↓reduceIte];rw [if_neg (by omega)];rfl)
set_option maxHeartbeats 8000000 in
theorem specNodeL (t : List Nod) (hT : treeB t = true) (i : Nat) (hi : i < t.length) (K : List Int) (hKe : kidsT t i = K) (p : Int→Nat→ByteArray) (k n : Int) (s : ByteArray) (L : List ByteArray) (c : Int) (hx : t.getD i default = ⟨k,n,s,L,c⟩) (hk : k ∈ ([2,3,6,7] : List Int)) (hs : s.size≤60) (hn : NumOk k n) (hz : ∀ lev j,(p lev j).size≤900000) (hI : ∀ lev j,j < K.length→Meets Try.prog 36 [(false,[encNods t]),(false,[.sc (.int .i64 (K.getD j default))]),(false,[.sc (.int .i64 lev)])] [(false,[.sc (.string (p lev j))],true)]) :
    Meets Try.prog 46 [(false,[encNods t]),(false,[.sc (.int .i64 i)])] [(false,[.sc (.string (nodeB t K p k n s L))],true)]:=by
  have hkid:=specKidsT_m t hT i hi
  rw [hKe] at hkid
  have hlT:=tree_len hT
  have hix : eIdx 5 (some (.sl 41 5 (t.map encNod))) (some (.sc (.int .i64 (i : Int)))) = some (encNod ⟨k,n,s,L,c⟩):=by rw [ix_Nod (by omega) (by omega),Int.toNat_natCast,hx]
  have h1:=specFmtName_m s (by omega)
  have h2:=specFld_m s hs
  have h3:=specQuo_m s (by omega)
  have h4:=fmtName_size s
  have h5:=quoteB_size s
  have h6:=fldB_size hs
  have s10:=hz 1 0;have s11:=hz 1 1;have s12:=hz 1 2;have s21:=hz 2 1;have s13:=hz 13 0;have sn:=fmtName_size s
  have h8:=specFmtInt_m n (by unfold NumOk at hn;unfold In64;split at hn <;> (try split at hn) <;> (try split at hn) <;> omega)
  simp only [encNods,encNod,encSs,encZs] at hI hkid hix ⊢
  simp only [List.mem_cons,List.not_mem_nil,or_false] at hk
  rcases hk with rfl | rfl | rfl | rfl
  all_goals
    refine meets_upf Try.func46 u_spec_l18Bare_g rfl ?_;simp only [u_spec_l18Bare_u]
    repeat' (first | (with_reducible refine jn_in ?_) | (with_reducible refine cl_ok (by assumption) rfl ?_) | (with_reducible refine cl_ok (hI _ _ (by omega)) rfl ?_) | (with_reducible refine br_if (fun hbr=>?_) (fun hbr=>?_)) | (with_reducible refine br_ifn (fun hbr=>?_) (fun hbr=>?_)) | (with_reducible refine br_nb (fun hbr=>?_) (fun hbr=>?_)) | (with_reducible refine br_b (fun hbr=>?_) (fun hbr=>?_)) | simp (disch:=first | omega | (simp only [ByteArray.size_append,szl,List.size_toArray,List.length_cons,List.length_nil,Nat.zero_add,Nat.reduceAdd,maxLen_n];omega) | (simp only [List.length_append,List.map_cons,List.map_nil,List.length_map,List.length_cons,List.length_nil];omega) | (simp only [List.length_cons,List.length_nil,Nat.zero_add,Nat.reduceAdd])) only [go_sem,↓reduceIte,Nat.reduceAdd,Int.reduceNeg,Int.reduceAdd,Int.reduceSub,Int.reduceMul,Int.reduceLT,Int.reduceLE,Int.reduceEq,Int.reduceToNat,Nat.reduceBEq,e_cat,ByteArray.append_assoc,e_sle,e_sge,nat1,ix_s,ix_z,fl_s,fl_z,fl1_s,fl1_z,map_s,map_z,hix])
    rfl
set_option maxHeartbeats 8000000 in
theorem specNode4 (t : List Nod) (hT : treeB t = true) (i : Nat) (hi : i < t.length) (K : List Int) (hKe : kidsT t i = K) (p : Int→Nat→ByteArray) (k n : Int) (s : ByteArray) (L : List ByteArray) (c : Int) (hx : t.getD i default = ⟨k,n,s,L,c⟩) (hk : k ∈ ([4] : List Int)) (hs : s.size≤60) (hn : NumOk k n) (hz : ∀ lev j,(p lev j).size≤900000) (hI : ∀ lev j,j < K.length→Meets Try.prog 36 [(false,[encNods t]),(false,[.sc (.int .i64 (K.getD j default))]),(false,[.sc (.int .i64 lev)])] [(false,[.sc (.string (p lev j))],true)]) :
    Meets Try.prog 46 [(false,[encNods t]),(false,[.sc (.int .i64 i)])] [(false,[.sc (.string (nodeB t K p k n s L))],true)]:=by
  have hkid:=specKidsT_m t hT i hi
  rw [hKe] at hkid
  have hlT:=tree_len hT
  have hix : eIdx 5 (some (.sl 41 5 (t.map encNod))) (some (.sc (.int .i64 (i : Int)))) = some (encNod ⟨k,n,s,L,c⟩):=by rw [ix_Nod (by omega) (by omega),Int.toNat_natCast,hx]
  simp only [encNods,encNod,encSs,encZs] at hI hkid hix ⊢
  simp only [List.mem_cons,List.not_mem_nil,or_false] at hk
  rcases hk with rfl
  unfold NumOk at hn
  obtain rfl | rfl | rfl : n = 0 ∨ n = 1 ∨ n = 2:=by simp at hn;omega
  all_goals
    refine meets_upf Try.func46 u_spec_l18Bare_g rfl ?_;simp only [u_spec_l18Bare_u]
    repeat' (first | (with_reducible refine jn_in ?_) | (with_reducible refine cl_ok (by assumption) rfl ?_) | (with_reducible refine cl_ok (hI _ _ (by omega)) rfl ?_) | (with_reducible refine br_if (fun hbr=>?_) (fun hbr=>?_)) | (with_reducible refine br_ifn (fun hbr=>?_) (fun hbr=>?_)) | (with_reducible refine br_nb (fun hbr=>?_) (fun hbr=>?_)) | (with_reducible refine br_b (fun hbr=>?_) (fun hbr=>?_)) | simp (disch:=first | omega | (simp only [ByteArray.size_append,szl,List.size_toArray,List.length_cons,List.length_nil,Nat.zero_add,Nat.reduceAdd,maxLen_n];omega) | (simp only [List.length_append,List.map_cons,List.map_nil,List.length_map,List.length_cons,List.length_nil];omega) | (simp only [List.length_cons,List.length_nil,Nat.zero_add,Nat.reduceAdd])) only [go_sem,↓reduceIte,Nat.reduceAdd,Int.reduceNeg,Int.reduceAdd,Int.reduceSub,Int.reduceMul,Int.reduceLT,Int.reduceLE,Int.reduceEq,Int.reduceToNat,Nat.reduceBEq,e_cat,ByteArray.append_assoc,e_sle,e_sge,nat1,ix_s,ix_z,fl_s,fl_z,fl1_s,fl1_z,map_s,map_z,hix,ixl_0,ixl_1,ixl_2,chl_0,chl_1,chl_2])
    rfl
set_option maxHeartbeats 8000000 in
theorem specNode5 (t : List Nod) (hT : treeB t = true) (i : Nat) (hi : i < t.length) (K : List Int) (hKe : kidsT t i = K) (p : Int→Nat→ByteArray) (k n : Int) (s : ByteArray) (L : List ByteArray) (c : Int) (hx : t.getD i default = ⟨k,n,s,L,c⟩) (hk : k ∈ ([5] : List Int)) (hs : s.size≤60) (hn : NumOk k n) (hz : ∀ lev j,(p lev j).size≤900000) (hI : ∀ lev j,j < K.length→Meets Try.prog 36 [(false,[encNods t]),(false,[.sc (.int .i64 (K.getD j default))]),(false,[.sc (.int .i64 lev)])] [(false,[.sc (.string (p lev j))],true)]) :
    Meets Try.prog 46 [(false,[encNods t]),(false,[.sc (.int .i64 i)])] [(false,[.sc (.string (nodeB t K p k n s L))],true)]:=by
  have hkid:=specKidsT_m t hT i hi
  rw [hKe] at hkid
  have hlT:=tree_len hT
  have hix : eIdx 5 (some (.sl 41 5 (t.map encNod))) (some (.sc (.int .i64 (i : Int)))) = some (encNod ⟨k,n,s,L,c⟩):=by rw [ix_Nod (by omega) (by omega),Int.toNat_natCast,hx]
  simp only [encNods,encNod,encSs,encZs] at hI hkid hix ⊢
  simp only [List.mem_cons,List.not_mem_nil,or_false] at hk
  rcases hk with rfl
  unfold NumOk at hn
  obtain rfl | rfl : n = 0 ∨ n = 1:=by simp at hn;omega
  all_goals
    refine meets_upf Try.func46 u_spec_l18Bare_g rfl ?_;simp only [u_spec_l18Bare_u]
    repeat' (first | (with_reducible refine jn_in ?_) | (with_reducible refine cl_ok (by assumption) rfl ?_) | (with_reducible refine cl_ok (hI _ _ (by omega)) rfl ?_) | (with_reducible refine br_if (fun hbr=>?_) (fun hbr=>?_)) | (with_reducible refine br_ifn (fun hbr=>?_) (fun hbr=>?_)) | (with_reducible refine br_nb (fun hbr=>?_) (fun hbr=>?_)) | (with_reducible refine br_b (fun hbr=>?_) (fun hbr=>?_)) | simp (disch:=first | omega | (simp only [ByteArray.size_append,szl,List.size_toArray,List.length_cons,List.length_nil,Nat.zero_add,Nat.reduceAdd,maxLen_n];omega) | (simp only [List.length_append,List.map_cons,List.map_nil,List.length_map,List.length_cons,List.length_nil];omega) | (simp only [List.length_cons,List.length_nil,Nat.zero_add,Nat.reduceAdd])) only [go_sem,↓reduceIte,Nat.reduceAdd,Int.reduceNeg,Int.reduceAdd,Int.reduceSub,Int.reduceMul,Int.reduceLT,Int.reduceLE,Int.reduceEq,Int.reduceToNat,Nat.reduceBEq,e_cat,ByteArray.append_assoc,e_sle,e_sge,nat1,ix_s,ix_z,fl_s,fl_z,fl1_s,fl1_z,map_s,map_z,hix,ixl_0,ixl_1,ixl_2,chl_0,chl_1,chl_2])
    rfl
set_option maxHeartbeats 8000000 in
theorem specNode10 (t : List Nod) (hT : treeB t = true) (i : Nat) (hi : i < t.length) (K : List Int) (hKe : kidsT t i = K) (p : Int→Nat→ByteArray) (k n : Int) (s : ByteArray) (L : List ByteArray) (c : Int) (hx : t.getD i default = ⟨k,n,s,L,c⟩) (hk : k ∈ ([10] : List Int)) (hK : (K.length : Int) = 1) (hu : hasB unaL s = true) (hs : s.size≤60) (hz : ∀ lev j,(p lev j).size≤900000) (hI : ∀ lev j,j < K.length→Meets Try.prog 36 [(false,[encNods t]),(false,[.sc (.int .i64 (K.getD j default))]),(false,[.sc (.int .i64 lev)])] [(false,[.sc (.string (p lev j))],true)]) :
    Meets Try.prog 46 [(false,[encNods t]),(false,[.sc (.int .i64 i)])] [(false,[.sc (.string (nodeB t K p k n s L))],true)]:=by
  have hkid:=specKidsT_m t hT i hi
  rw [hKe] at hkid
  have hlT:=tree_len hT
  have hix : eIdx 5 (some (.sl 41 5 (t.map encNod))) (some (.sc (.int .i64 (i : Int)))) = some (encNod ⟨k,n,s,L,c⟩):=by rw [ix_Nod (by omega) (by omega),Int.toNat_natCast,hx]
  have hf:=l1Find_m 9 unaL s (by decide)
  simp only [unaL,List.map_cons,List.map_nil,encS] at hf
  have s5:=hz 5 0;have s11a:=hz 11 0;have s3a:=hz 3 0;have sz0:=hz 0 0
  clear hs
  simp only [encNods,encNod,encSs,encZs] at hI hkid hix ⊢
  simp only [List.mem_cons,List.not_mem_nil,or_false] at hk
  rcases hk with rfl
  rcases una_cases hu with rfl | rfl | rfl
  · rw [show find1 [⟨#[45]⟩,⟨#[33]⟩,⟨#[126]⟩] ⟨#[45]⟩ = 0 by decide] at hf
    refine meets_upf Try.func46 u_spec_l18Bare_g rfl ?_;simp only [u_spec_l18Bare_u]
    repeat' (first | (with_reducible refine jn_in ?_) | (with_reducible refine cl_ok (by assumption) rfl ?_) | (with_reducible refine cl_ok (hI _ _ (by omega)) rfl ?_) | (with_reducible refine br_if (fun hbr=>?_) (fun hbr=>?_)) | (with_reducible refine br_ifn (fun hbr=>?_) (fun hbr=>?_)) | (with_reducible refine br_nb (fun hbr=>?_) (fun hbr=>?_)) | (with_reducible refine br_b (fun hbr=>?_) (fun hbr=>?_)) | simp (disch:=first | omega | (simp only [ByteArray.size_append,szl,List.size_toArray,List.length_cons,List.length_nil,Nat.zero_add,Nat.reduceAdd,maxLen_n];omega) | (simp only [List.length_append,List.map_cons,List.map_nil,List.length_map,List.length_cons,List.length_nil];omega) | (simp only [List.length_cons,List.length_nil,Nat.zero_add,Nat.reduceAdd])) only [go_sem,↓reduceIte,Nat.reduceAdd,Int.reduceNeg,Int.reduceAdd,Int.reduceSub,Int.reduceMul,Int.reduceLT,Int.reduceLE,Int.reduceEq,Int.reduceToNat,Nat.reduceBEq,e_cat,ByteArray.append_assoc,e_sle,e_sge,nat1,ix_s,ix_z,fl_s,fl_z,fl1_s,fl1_z,map_s,map_z,hix,ixl_0,ixl_1,ixl_2,chl_0,chl_1,chl_2])
    rfl
  · rw [show find1 [⟨#[45]⟩,⟨#[33]⟩,⟨#[126]⟩] ⟨#[33]⟩ = 1 by decide] at hf
    refine meets_upf Try.func46 u_spec_l18Bare_g rfl ?_;simp only [u_spec_l18Bare_u]
    repeat' (first | (with_reducible refine jn_in ?_) | (with_reducible refine cl_ok (by assumption) rfl ?_) | (with_reducible refine cl_ok (hI _ _ (by omega)) rfl ?_) | (with_reducible refine br_if (fun hbr=>?_) (fun hbr=>?_)) | (with_reducible refine br_ifn (fun hbr=>?_) (fun hbr=>?_)) | (with_reducible refine br_nb (fun hbr=>?_) (fun hbr=>?_)) | (with_reducible refine br_b (fun hbr=>?_) (fun hbr=>?_)) | simp (disch:=first | omega | (simp only [ByteArray.size_append,szl,List.size_toArray,List.length_cons,List.length_nil,Nat.zero_add,Nat.reduceAdd,maxLen_n];omega) | (simp only [List.length_append,List.map_cons,List.map_nil,List.length_map,List.length_cons,List.length_nil];omega) | (simp only [List.length_cons,List.length_nil,Nat.zero_add,Nat.reduceAdd])) only [go_sem,↓reduceIte,Nat.reduceAdd,Int.reduceNeg,Int.reduceAdd,Int.reduceSub,Int.reduceMul,Int.reduceLT,Int.reduceLE,Int.reduceEq,Int.reduceToNat,Nat.reduceBEq,e_cat,ByteArray.append_assoc,e_sle,e_sge,nat1,ix_s,ix_z,fl_s,fl_z,fl1_s,fl1_z,map_s,map_z,hix,ixl_0,ixl_1,ixl_2,chl_0,chl_1,chl_2])
    rfl
  · rw [show find1 [⟨#[45]⟩,⟨#[33]⟩,⟨#[126]⟩] ⟨#[126]⟩ = 2 by decide] at hf
    refine meets_upf Try.func46 u_spec_l18Bare_g rfl ?_;simp only [u_spec_l18Bare_u]
    repeat' (first | (with_reducible refine jn_in ?_) | (with_reducible refine cl_ok (by assumption) rfl ?_) | (with_reducible refine cl_ok (hI _ _ (by omega)) rfl ?_) | (with_reducible refine br_if (fun hbr=>?_) (fun hbr=>?_)) | (with_reducible refine br_ifn (fun hbr=>?_) (fun hbr=>?_)) | (with_reducible refine br_nb (fun hbr=>?_) (fun hbr=>?_)) | (with_reducible refine br_b (fun hbr=>?_) (fun hbr=>?_)) | simp (disch:=first | omega | (simp only [ByteArray.size_append,szl,List.size_toArray,List.length_cons,List.length_nil,Nat.zero_add,Nat.reduceAdd,maxLen_n];omega) | (simp only [List.length_append,List.map_cons,List.map_nil,List.length_map,List.length_cons,List.length_nil];omega) | (simp only [List.length_cons,List.length_nil,Nat.zero_add,Nat.reduceAdd])) only [go_sem,↓reduceIte,Nat.reduceAdd,Int.reduceNeg,Int.reduceAdd,Int.reduceSub,Int.reduceMul,Int.reduceLT,Int.reduceLE,Int.reduceEq,Int.reduceToNat,Nat.reduceBEq,e_cat,ByteArray.append_assoc,e_sle,e_sge,nat1,ix_s,ix_z,fl_s,fl_z,fl1_s,fl1_z,map_s,map_z,hix,ixl_0,ixl_1,ixl_2,chl_0,chl_1,chl_2])
    rfl
set_option maxHeartbeats 8000000 in
theorem specNode11 (t : List Nod) (hT : treeB t = true) (i : Nat) (hi : i < t.length) (K : List Int) (hKe : kidsT t i = K) (p : Int→Nat→ByteArray) (k n : Int) (s : ByteArray) (L : List ByteArray) (c : Int) (hx : t.getD i default = ⟨k,n,s,L,c⟩) (hk : k ∈ ([11] : List Int)) (hK : (K.length : Int) = 2) (hs : s.size≤60) (hz : ∀ lev j,(p lev j).size≤900000) (hI : ∀ lev j,j < K.length→Meets Try.prog 36 [(false,[encNods t]),(false,[.sc (.int .i64 (K.getD j default))]),(false,[.sc (.int .i64 lev)])] [(false,[.sc (.string (p lev j))],true)]) :
    Meets Try.prog 46 [(false,[encNods t]),(false,[.sc (.int .i64 i)])] [(false,[.sc (.string (nodeB t K p k n s L))],true)]:=by
  have hkid:=specKidsT_m t hT i hi
  rw [hKe] at hkid
  have hlT:=tree_len hT
  have hix : eIdx 5 (some (.sl 41 5 (t.map encNod))) (some (.sc (.int .i64 (i : Int)))) = some (encNod ⟨k,n,s,L,c⟩):=by rw [ix_Nod (by omega) (by omega),Int.toNat_natCast,hx]
  have h1:=specBlv_m s
  have s0:=hz (blv s).2.1 0
  have s1:=hz (blv s).2.2 1
  simp only [encNods,encNod,encSs,encZs] at hI hkid hix ⊢
  simp only [List.mem_cons,List.not_mem_nil,or_false] at hk
  rcases hk with rfl
  all_goals
    refine meets_upf Try.func46 u_spec_l18Bare_g rfl ?_;simp only [u_spec_l18Bare_u]
    repeat' (first | (with_reducible refine jn_in ?_) | (with_reducible refine cl_ok (by assumption) rfl ?_) | (with_reducible refine cl_ok (hI _ _ (by omega)) rfl ?_) | (with_reducible refine br_if (fun hbr=>?_) (fun hbr=>?_)) | (with_reducible refine br_ifn (fun hbr=>?_) (fun hbr=>?_)) | (with_reducible refine br_nb (fun hbr=>?_) (fun hbr=>?_)) | (with_reducible refine br_b (fun hbr=>?_) (fun hbr=>?_)) | simp (disch:=first | omega | (simp only [ByteArray.size_append,szl,List.size_toArray,List.length_cons,List.length_nil,Nat.zero_add,Nat.reduceAdd,maxLen_n];omega) | (simp only [List.length_append,List.map_cons,List.map_nil,List.length_map,List.length_cons,List.length_nil];omega) | (simp only [List.length_cons,List.length_nil,Nat.zero_add,Nat.reduceAdd])) only [go_sem,↓reduceIte,Nat.reduceAdd,Int.reduceNeg,Int.reduceAdd,Int.reduceSub,Int.reduceMul,Int.reduceLT,Int.reduceLE,Int.reduceEq,Int.reduceToNat,Nat.reduceBEq,e_cat,ByteArray.append_assoc,e_sle,e_sge,nat1,ix_s,ix_z,fl_s,fl_z,fl1_s,fl1_z,map_s,map_z,hix,u_spec_l18Bare_j0,u_spec_l18Bare_j1])
    all_goals first
      | (simp only [nodeB,binO,Int.reduceEq,↓reduceIte];rw [if_pos (.inl ‹_›)];rfl)
      | (simp only [nodeB,binO,Int.reduceEq,↓reduceIte];rw [if_pos (.inr ‹_›)];rfl)
      | (simp only [nodeB,binO,Int.reduceEq,↓reduceIte];rw [if_neg (by rintro (h | h) <;> contradiction)];rfl)
set_option maxHeartbeats 8000000 in
theorem specNode2 (t : List Nod) (hT : treeB t = true) (i : Nat) (hi : i < t.length) (K : List Int) (hKe : kidsT t i = K) (p : Int→Nat→ByteArray) (k n : Int) (s : ByteArray) (L : List ByteArray) (c : Int) (hx : t.getD i default = ⟨k,n,s,L,c⟩) (hk : k ∈ ([12,13,17,18] : List Int)) (hK : (K.length : Int) = 2) (hs : s.size≤60) (hz : ∀ lev j,(p lev j).size≤900000) (hI : ∀ lev j,j < K.length→Meets Try.prog 36 [(false,[encNods t]),(false,[.sc (.int .i64 (K.getD j default))]),(false,[.sc (.int .i64 lev)])] [(false,[.sc (.string (p lev j))],true)]) :
    Meets Try.prog 46 [(false,[encNods t]),(false,[.sc (.int .i64 i)])] [(false,[.sc (.string (nodeB t K p k n s L))],true)]:=by
  have hkid:=specKidsT_m t hT i hi
  rw [hKe] at hkid
  have hlT:=tree_len hT
  have hix : eIdx 5 (some (.sl 41 5 (t.map encNod))) (some (.sc (.int .i64 (i : Int)))) = some (encNod ⟨k,n,s,L,c⟩):=by rw [ix_Nod (by omega) (by omega),Int.toNat_natCast,hx]
  have h1:=specFmtName_m s (by omega)
  have h2:=specFld_m s hs
  have h3:=specQuo_m s (by omega)
  have h4:=fmtName_size s
  have h5:=quoteB_size s
  have h6:=fldB_size hs
  have s10:=hz 1 0;have s11:=hz 1 1;have s12:=hz 1 2;have s21:=hz 2 1;have s13:=hz 13 0;have sn:=fmtName_size s
  simp only [encNods,encNod,encSs,encZs] at hI hkid hix ⊢
  simp only [List.mem_cons,List.not_mem_nil,or_false] at hk
  rcases hk with rfl | rfl | rfl | rfl
  all_goals
    refine meets_upf Try.func46 u_spec_l18Bare_g rfl ?_;simp only [u_spec_l18Bare_u]
    repeat' (first | (with_reducible refine jn_in ?_) | (with_reducible refine cl_ok (by assumption) rfl ?_) | (with_reducible refine cl_ok (hI _ _ (by omega)) rfl ?_) | (with_reducible refine br_if (fun hbr=>?_) (fun hbr=>?_)) | (with_reducible refine br_ifn (fun hbr=>?_) (fun hbr=>?_)) | (with_reducible refine br_nb (fun hbr=>?_) (fun hbr=>?_)) | (with_reducible refine br_b (fun hbr=>?_) (fun hbr=>?_)) | simp (disch:=first | omega | (simp only [ByteArray.size_append,szl,List.size_toArray,List.length_cons,List.length_nil,Nat.zero_add,Nat.reduceAdd,maxLen_n];omega) | (simp only [List.length_append,List.map_cons,List.map_nil,List.length_map,List.length_cons,List.length_nil];omega) | (simp only [List.length_cons,List.length_nil,Nat.zero_add,Nat.reduceAdd])) only [go_sem,↓reduceIte,Nat.reduceAdd,Int.reduceNeg,Int.reduceAdd,Int.reduceSub,Int.reduceMul,Int.reduceLT,Int.reduceLE,Int.reduceEq,Int.reduceToNat,Nat.reduceBEq,e_cat,ByteArray.append_assoc,e_sle,e_sge,nat1,ix_s,ix_z,fl_s,fl_z,fl1_s,fl1_z,map_s,map_z,hix])
    rfl
set_option maxHeartbeats 8000000 in
theorem specNode14 (t : List Nod) (hT : treeB t = true) (i : Nat) (hi : i < t.length) (K : List Int) (hKe : kidsT t i = K) (p : Int→Nat→ByteArray) (k n : Int) (s : ByteArray) (L : List ByteArray) (c : Int) (hx : t.getD i default = ⟨k,n,s,L,c⟩) (hk : k ∈ ([14] : List Int)) (hK : (K.length : Int) = 1) (hs : s.size≤60) (hz : ∀ lev j,(p lev j).size≤900000) (hI : ∀ lev j,j < K.length→Meets Try.prog 36 [(false,[encNods t]),(false,[.sc (.int .i64 (K.getD j default))]),(false,[.sc (.int .i64 lev)])] [(false,[.sc (.string (p lev j))],true)]) :
    Meets Try.prog 46 [(false,[encNods t]),(false,[.sc (.int .i64 i)])] [(false,[.sc (.string (nodeB t K p k n s L))],true)]:=by
  have hkid:=specKidsT_m t hT i hi
  rw [hKe] at hkid
  have hlT:=tree_len hT
  have hix : eIdx 5 (some (.sl 41 5 (t.map encNod))) (some (.sc (.int .i64 (i : Int)))) = some (encNod ⟨k,n,s,L,c⟩):=by rw [ix_Nod (by omega) (by omega),Int.toNat_natCast,hx]
  have h1:=specFmtName_m s (by omega)
  have h2:=specFld_m s hs
  have h3:=specQuo_m s (by omega)
  have h4:=fmtName_size s
  have h5:=quoteB_size s
  have h6:=fldB_size hs
  have s10:=hz 1 0;have s11:=hz 1 1;have s12:=hz 1 2;have s21:=hz 2 1;have s13:=hz 13 0;have sn:=fmtName_size s
  simp only [encNods,encNod,encSs,encZs] at hI hkid hix ⊢
  simp only [List.mem_cons,List.not_mem_nil,or_false] at hk
  rcases hk with rfl
  all_goals
    refine meets_upf Try.func46 u_spec_l18Bare_g rfl ?_;simp only [u_spec_l18Bare_u]
    repeat' (first | (with_reducible refine jn_in ?_) | (with_reducible refine cl_ok (by assumption) rfl ?_) | (with_reducible refine cl_ok (hI _ _ (by omega)) rfl ?_) | (with_reducible refine br_if (fun hbr=>?_) (fun hbr=>?_)) | (with_reducible refine br_ifn (fun hbr=>?_) (fun hbr=>?_)) | (with_reducible refine br_nb (fun hbr=>?_) (fun hbr=>?_)) | (with_reducible refine br_b (fun hbr=>?_) (fun hbr=>?_)) | simp (disch:=first | omega | (simp only [ByteArray.size_append,szl,List.size_toArray,List.length_cons,List.length_nil,Nat.zero_add,Nat.reduceAdd,maxLen_n];omega) | (simp only [List.length_append,List.map_cons,List.map_nil,List.length_map,List.length_cons,List.length_nil];omega) | (simp only [List.length_cons,List.length_nil,Nat.zero_add,Nat.reduceAdd])) only [go_sem,↓reduceIte,Nat.reduceAdd,Int.reduceNeg,Int.reduceAdd,Int.reduceSub,Int.reduceMul,Int.reduceLT,Int.reduceLE,Int.reduceEq,Int.reduceToNat,Nat.reduceBEq,e_cat,ByteArray.append_assoc,e_sle,e_sge,nat1,ix_s,ix_z,fl_s,fl_z,fl1_s,fl1_z,map_s,map_z,hix])
    rfl
set_option maxHeartbeats 8000000 in
theorem specNode16 (t : List Nod) (hT : treeB t = true) (i : Nat) (hi : i < t.length) (K : List Int) (hKe : kidsT t i = K) (p : Int→Nat→ByteArray) (k n : Int) (s : ByteArray) (L : List ByteArray) (c : Int) (hx : t.getD i default = ⟨k,n,s,L,c⟩) (hk : k ∈ ([16] : List Int)) (hK : (K.length : Int) = 2 ∨ (K.length : Int) = 3) (hs : s.size≤60) (hz : ∀ lev j,(p lev j).size≤900000) (hI : ∀ lev j,j < K.length→Meets Try.prog 36 [(false,[encNods t]),(false,[.sc (.int .i64 (K.getD j default))]),(false,[.sc (.int .i64 lev)])] [(false,[.sc (.string (p lev j))],true)]) :
    Meets Try.prog 46 [(false,[encNods t]),(false,[.sc (.int .i64 i)])] [(false,[.sc (.string (nodeB t K p k n s L))],true)]:=by
  have hkid:=specKidsT_m t hT i hi
  rw [hKe] at hkid
  have hlT:=tree_len hT
  have hix : eIdx 5 (some (.sl 41 5 (t.map encNod))) (some (.sc (.int .i64 (i : Int)))) = some (encNod ⟨k,n,s,L,c⟩):=by rw [ix_Nod (by omega) (by omega),Int.toNat_natCast,hx]
  have s10:=hz 1 0;have s11:=hz 1 1;have s12:=hz 1 2;have s21:=hz 2 1;have s13:=hz 13 0
  simp only [encNods,encNod,encSs,encZs] at hI hkid hix ⊢
  simp only [List.mem_cons,List.not_mem_nil,or_false] at hk
  rcases hk with rfl
  all_goals
    refine meets_upf Try.func46 u_spec_l18Bare_g rfl ?_;simp only [u_spec_l18Bare_u]
    repeat' (first | (with_reducible refine jn_in ?_) | (with_reducible refine cl_ok (by assumption) rfl ?_) | (with_reducible refine cl_ok (hI _ _ (by omega)) rfl ?_) | (with_reducible refine br_if (fun hbr=>?_) (fun hbr=>?_)) | (with_reducible refine br_ifn (fun hbr=>?_) (fun hbr=>?_)) | (with_reducible refine br_nb (fun hbr=>?_) (fun hbr=>?_)) | (with_reducible refine br_b (fun hbr=>?_) (fun hbr=>?_)) | simp (disch:=first | omega | (simp only [ByteArray.size_append,szl,List.size_toArray,List.length_cons,List.length_nil,Nat.zero_add,Nat.reduceAdd,maxLen_n];omega) | (simp only [List.length_append,List.map_cons,List.map_nil,List.length_map,List.length_cons,List.length_nil];omega) | (simp only [List.length_cons,List.length_nil,Nat.zero_add,Nat.reduceAdd])) only [go_sem,↓reduceIte,Nat.reduceAdd,Int.reduceNeg,Int.reduceAdd,Int.reduceSub,Int.reduceMul,Int.reduceLT,Int.reduceLE,Int.reduceEq,Int.reduceToNat,Nat.reduceBEq,e_cat,ByteArray.append_assoc,e_sle,e_sge,nat1,ix_s,ix_z,fl_s,fl_z,fl1_s,fl1_z,map_s,map_z,hix])
    all_goals first
      | (simp only [nodeB,ifO,Int.reduceEq,↓reduceIte];rw [if_pos (by omega)];rfl)
      | (simp only [nodeB,ifO,Int.reduceEq,↓reduceIte];rw [if_neg (by omega)];rfl)
set_option maxHeartbeats 8000000 in
theorem specNodeW (t : List Nod) (hT : treeB t = true) (i : Nat) (hi : i < t.length) (K : List Int) (hKe : kidsT t i = K) (p : Int→Nat→ByteArray) (k n : Int) (s : ByteArray) (L : List ByteArray) (c : Int) (hx : t.getD i default = ⟨k,n,s,L,c⟩) (hk : k ∈ ([19,20,21,22,23,24,25,26,27,28,29,30,31,32,33,34,35] : List Int)) (hs : s.size≤60) (hw : Meets Try.prog 77 [(false,[encNods t]),(false,[.sc (.int .i64 i)]),(false,[encZs K])] [(false,[.sc (.string (nodeB t K p k n s L))],true)]) (hz : ∀ lev j,(p lev j).size≤900000) (hI : ∀ lev j,j < K.length→Meets Try.prog 36 [(false,[encNods t]),(false,[.sc (.int .i64 (K.getD j default))]),(false,[.sc (.int .i64 lev)])] [(false,[.sc (.string (p lev j))],true)]) :
    Meets Try.prog 46 [(false,[encNods t]),(false,[.sc (.int .i64 i)])] [(false,[.sc (.string (nodeB t K p k n s L))],true)]:=by
  have hkid:=specKidsT_m t hT i hi
  rw [hKe] at hkid
  have hlT:=tree_len hT
  have hix : eIdx 5 (some (.sl 41 5 (t.map encNod))) (some (.sc (.int .i64 (i : Int)))) = some (encNod ⟨k,n,s,L,c⟩):=by rw [ix_Nod (by omega) (by omega),Int.toNat_natCast,hx]
  simp only [encNods,encNod,encSs,encZs] at hI hkid hix hw ⊢
  simp only [List.mem_cons,List.not_mem_nil,or_false] at hk
  rcases hk with rfl | rfl | rfl | rfl | rfl | rfl | rfl | rfl | rfl | rfl | rfl | rfl | rfl | rfl | rfl | rfl | rfl
  all_goals
    refine meets_upf Try.func46 u_spec_l18Bare_g rfl ?_;simp only [u_spec_l18Bare_u]
    repeat' (first | (with_reducible refine jn_in ?_) | (with_reducible refine cl_ok (by assumption) rfl ?_) | (with_reducible refine cl_ok (hI _ _ (by omega)) rfl ?_) | (with_reducible refine br_if (fun hbr=>?_) (fun hbr=>?_)) | (with_reducible refine br_ifn (fun hbr=>?_) (fun hbr=>?_)) | (with_reducible refine br_nb (fun hbr=>?_) (fun hbr=>?_)) | (with_reducible refine br_b (fun hbr=>?_) (fun hbr=>?_)) | simp (disch:=first | omega | (simp only [ByteArray.size_append,szl,List.size_toArray,List.length_cons,List.length_nil,Nat.zero_add,Nat.reduceAdd,maxLen_n];omega) | (simp only [List.length_append,List.map_cons,List.map_nil,List.length_map,List.length_cons,List.length_nil];omega) | (simp only [List.length_cons,List.length_nil,Nat.zero_add,Nat.reduceAdd])) only [go_sem,↓reduceIte,Nat.reduceAdd,Int.reduceNeg,Int.reduceAdd,Int.reduceSub,Int.reduceMul,Int.reduceLT,Int.reduceLE,Int.reduceEq,Int.reduceToNat,Nat.reduceBEq,e_cat,ByteArray.append_assoc,e_sle,e_sge,nat1,ix_s,ix_z,fl_s,fl_z,fl1_s,fl1_z,map_s,map_z,hix])
    rfl
set_option maxHeartbeats 8000000 in
theorem specNode8 (t : List Nod) (hT : treeB t = true) (i : Nat) (hi : i < t.length) (K : List Int) (hKe : kidsT t i = K) (p : Int→Nat→ByteArray) (k n : Int) (s : ByteArray) (L : List ByteArray) (c : Int) (hx : t.getD i default = ⟨k,n,s,L,c⟩) (hk : k ∈ ([8] : List Int)) (hw : Meets Try.prog 73 [(false,[encNods t]),(false,[.sc (.int .i64 i)]),(false,[encZs K])] [(false,[.sc (.string (fnB t K L (p 1)))],true)]) :
    Meets Try.prog 46 [(false,[encNods t]),(false,[.sc (.int .i64 i)])] [(false,[.sc (.string (nodeB t K p k n s L))],true)]:=by
  have hkid:=specKidsT_m t hT i hi
  rw [hKe] at hkid
  have hlT:=tree_len hT
  have hix : eIdx 5 (some (.sl 41 5 (t.map encNod))) (some (.sc (.int .i64 (i : Int)))) = some (encNod ⟨k,n,s,L,c⟩):=by rw [ix_Nod (by omega) (by omega),Int.toNat_natCast,hx]
  simp only [encNods,encNod,encSs,encZs] at hkid hix hw ⊢
  simp only [List.mem_cons,List.not_mem_nil,or_false] at hk
  rcases hk with rfl
  all_goals
    refine meets_upf Try.func46 u_spec_l18Bare_g rfl ?_;simp only [u_spec_l18Bare_u]
    repeat' (first | (with_reducible refine jn_in ?_) | (with_reducible refine cl_ok (by assumption) rfl ?_) | (with_reducible refine cl_ok (hI _ _ (by omega)) rfl ?_) | (with_reducible refine br_if (fun hbr=>?_) (fun hbr=>?_)) | (with_reducible refine br_ifn (fun hbr=>?_) (fun hbr=>?_)) | (with_reducible refine br_nb (fun hbr=>?_) (fun hbr=>?_)) | (with_reducible refine br_b (fun hbr=>?_) (fun hbr=>?_)) | simp (disch:=first | omega | (simp only [ByteArray.size_append,szl,List.size_toArray,List.length_cons,List.length_nil,Nat.zero_add,Nat.reduceAdd,maxLen_n];omega) | (simp only [List.length_append,List.map_cons,List.map_nil,List.length_map,List.length_cons,List.length_nil];omega) | (simp only [List.length_cons,List.length_nil,Nat.zero_add,Nat.reduceAdd])) only [go_sem,↓reduceIte,Nat.reduceAdd,Int.reduceNeg,Int.reduceAdd,Int.reduceSub,Int.reduceMul,Int.reduceLT,Int.reduceLE,Int.reduceEq,Int.reduceToNat,Nat.reduceBEq,e_cat,ByteArray.append_assoc,e_sle,e_sge,nat1,ix_s,ix_z,fl_s,fl_z,fl1_s,fl1_z,map_s,map_z,hix])
    rfl
set_option maxHeartbeats 8000000 in
theorem specNode9 (t : List Nod) (hT : treeB t = true) (i : Nat) (hi : i < t.length) (K : List Int) (hKe : kidsT t i = K) (p : Int→Nat→ByteArray) (k n : Int) (s : ByteArray) (L : List ByteArray) (c : Int) (hx : t.getD i default = ⟨k,n,s,L,c⟩) (hk : k ∈ ([9] : List Int)) (hw : Meets Try.prog 74 [(false,[encNods t]),(false,[.sc (.int .i64 i)]),(false,[encZs K])] [(false,[.sc (.string (callB L (p 13 0) (p 1)))],true)]) :
    Meets Try.prog 46 [(false,[encNods t]),(false,[.sc (.int .i64 i)])] [(false,[.sc (.string (nodeB t K p k n s L))],true)]:=by
  have hkid:=specKidsT_m t hT i hi
  rw [hKe] at hkid
  have hlT:=tree_len hT
  have hix : eIdx 5 (some (.sl 41 5 (t.map encNod))) (some (.sc (.int .i64 (i : Int)))) = some (encNod ⟨k,n,s,L,c⟩):=by rw [ix_Nod (by omega) (by omega),Int.toNat_natCast,hx]
  simp only [encNods,encNod,encSs,encZs] at hkid hix hw ⊢
  simp only [List.mem_cons,List.not_mem_nil,or_false] at hk
  rcases hk with rfl
  all_goals
    refine meets_upf Try.func46 u_spec_l18Bare_g rfl ?_;simp only [u_spec_l18Bare_u]
    repeat' (first | (with_reducible refine jn_in ?_) | (with_reducible refine cl_ok (by assumption) rfl ?_) | (with_reducible refine cl_ok (hI _ _ (by omega)) rfl ?_) | (with_reducible refine br_if (fun hbr=>?_) (fun hbr=>?_)) | (with_reducible refine br_ifn (fun hbr=>?_) (fun hbr=>?_)) | (with_reducible refine br_nb (fun hbr=>?_) (fun hbr=>?_)) | (with_reducible refine br_b (fun hbr=>?_) (fun hbr=>?_)) | simp (disch:=first | omega | (simp only [ByteArray.size_append,szl,List.size_toArray,List.length_cons,List.length_nil,Nat.zero_add,Nat.reduceAdd,maxLen_n];omega) | (simp only [List.length_append,List.map_cons,List.map_nil,List.length_map,List.length_cons,List.length_nil];omega) | (simp only [List.length_cons,List.length_nil,Nat.zero_add,Nat.reduceAdd])) only [go_sem,↓reduceIte,Nat.reduceAdd,Int.reduceNeg,Int.reduceAdd,Int.reduceSub,Int.reduceMul,Int.reduceLT,Int.reduceLE,Int.reduceEq,Int.reduceToNat,Nat.reduceBEq,e_cat,ByteArray.append_assoc,e_sle,e_sge,nat1,ix_s,ix_z,fl_s,fl_z,fl1_s,fl1_z,map_s,map_z,hix])
    rfl
end Go.Proofs.Ytfdpkdfmkedkmaa

namespace Go.Proofs.Ytfdpkdfmkedkmaa
open Go.RowKit
set_option maxRecDepth 100000
theorem nB_parts {x : Nod} (h : nB x = true) : (0≤x.kind∧x.kind≤35)∧kidB x.kind x.kids x.labels.length = true∧NumOk x.kind x.num∧txtB x.kind x.text = true∧(if usL x.kind = true then labR x.kind x.labels else decide (x.labels.length = 0)) = true:=by
  unfold nB nodB at h
  simp only [Bool.and_eq_true] at h
  obtain ⟨h1,h2,h3,h4,h5⟩:=h
  have h3:=of_decide_eq_true h3
  exact ⟨of_decide_eq_true h1,h2,h3,h4,h5⟩
theorem nB_text {x : Nod} (h : nB x = true) : x.text.size≤60:=by
  obtain ⟨-,-,-,h4,-⟩:=nB_parts h
  unfold txtB at h4
  split at h4
  · unfold txtR at h4
    split at h4
    · have:=of_decide_eq_true h4;omega
    split at h4
    · rcases una_cases h4 with e | e | e <;> rw [e] <;> decide
    split at h4
    · have h5:=(hasB_iff binL _).1 h4
      have h6 : ∀ y ∈ binL,y.size≤60:=by decide
      exact h6 _ h5
    split at h4
    · have:=of_decide_eq_true h4;omega
    · have:=nameB_size h4;omega
  · rw [of_decide_eq_true h4];decide
theorem nB_lab {x : Nod} (h : nB x = true) {j : Nat} (hj : j < x.labels.length) : (x.labels.getD j default).size≤60:=by
  obtain ⟨-,-,-,-,h5⟩:=nB_parts h
  split at h5
  · rename_i hu
    have hu:=of_decide_eq_true hu
    simp only [List.mem_cons,List.not_mem_nil,or_false] at hu
    unfold labR at h5
    split at h5
    · have:=allB_iff.1 h5 j hj
      unfold labN at this
      simp only [Bool.and_eq_true] at this
      have:=nameB_size this.1;omega
    split at h5
    · have:=allB_iff.1 h5 j hj
      unfold labS at this
      have:=of_decide_eq_true this;omega
    split at h5
    · simp only [Bool.and_eq_true,decide_eq_true_eq] at h5
      obtain rfl : j = 0:=by omega
      omega
    split at h5
    · simp only [Bool.and_eq_true,decide_eq_true_eq] at h5
      obtain rfl : j = 0:=by omega
      have:=nameB_size h5.2.1;omega
    · omega
  · have:=of_decide_eq_true h5;omega
theorem nB_lab1 {x : Nod} (h : nB x = true) (hk : x.kind = 26 ∨ x.kind = 27) : x.labels.length = 1:=by
  obtain ⟨-,-,-,-,h5⟩:=nB_parts h
  rw [if_pos (by rcases hk with e | e <;> rw [e] <;> decide)] at h5
  unfold labR at h5
  rw [if_neg (by omega),if_neg (by omega)] at h5
  split at h5
  · simp only [Bool.and_eq_true,decide_eq_true_eq] at h5;exact h5.1
  rw [if_pos (by omega)] at h5
  simp only [Bool.and_eq_true,decide_eq_true_eq] at h5;exact h5.1
theorem kid1 {k c : Int} {n : Nat} (h : kidB k c n = true) (hk : k ∈ ([10,14,21,22,23,26,27,31,33] : List Int)) : c = 1:=by
  simp only [List.mem_cons,List.not_mem_nil,or_false] at hk
  rcases hk with rfl | rfl | rfl | rfl | rfl | rfl | rfl | rfl | rfl <;> simpa [kidB] using h
theorem kid2 {k c : Int} {n : Nat} (h : kidB k c n = true) (hk : k ∈ ([11,12,13,17,18,24,25,28,29,30] : List Int)) : c = 2:=by
  simp only [List.mem_cons,List.not_mem_nil,or_false] at hk
  rcases hk with rfl | rfl | rfl | rfl | rfl | rfl | rfl | rfl | rfl | rfl <;> simpa [kidB] using h
theorem kid16 {k c : Int} {n : Nat} (h : kidB k c n = true) (hk : k = 16) : c = 2 ∨ c = 3:=by
  subst hk;simpa [kidB] using h
theorem kid89 {k c : Int} {n : Nat} (h : kidB k c n = true) (hk : k = 8 ∨ k = 9) : c = (n : Int) + 1:=by
  rcases hk with rfl | rfl <;> simpa [kidB] using h
theorem tk_succ {α : Type} [Inhabited α] {l : List α} {i : Nat} (h : i < l.length) : l.take (i + 1) = l.take i ++ [l.getD i default]:=by
  rw [List.take_add_one,List.getD_eq_getElem?_getD,List.getElem?_eq_getElem h];rfl
theorem joinG_sum {g : Nat→ByteArray} {sep : ByteArray} {w : Int→Nat} {M : List Int} : ∀ {i : Nat},i≤M.length→(∀ j,j < i→(g j).size + sep.size≤552 * w (M.getD j default))→(joinG g sep i).size≤552 * sumOf w (M.take i)
  | 0,_,_=>Nat.zero_le _
  | i + 1,hi,h=>by
    have h1:=joinG_sum (i:=i) (by omega) fun j hj=>h j (by omega)
    have h2:=h i (by omega)
    rw [tk_succ (by omega),sumOf_app]
    simp only [sumOf]
    unfold joinG
    rw [ByteArray.size_append]
    split
    · omega
    · rw [ByteArray.size_append];omega
theorem fmtInt_size {n : Int} (h : In64 n) : (fmtInt n).size≤20:=by
  have:=fmtIntL_len h
  unfold fmtInt
  have e : (ofN (fmtIntL n)).size = (ofN (fmtIntL n)).data.toList.length:=by rw [Array.length_toList];rfl
  rw [e,ofN_data,List.length_map];exact this
macro "szs" : tactic => `(tactic| ((try simp only [ByteArray.size_append, szl, List.size_toArray, List.length_cons, List.length_nil, Nat.zero_add, Nat.reduceAdd]); omega))
theorem ite_le {c : Prop} [Decidable c] {a b : ByteArray} {m : Nat} (h1 : c→a.size≤m) (h2 : ¬c→b.size≤m) : (if c then a else b).size≤m:=by
  split
  · exact h1 ‹_›
  · exact h2 ‹_›
theorem len_two {α : Type} {l : List α} (h : l.length = 2) : ∃ a b,l = [a,b]:=by
  match l,h with
  | [a,b],_=>exact ⟨a,b,rfl⟩
theorem len_three {α : Type} {l : List α} (h : l.length = 3) : ∃ a b c,l = [a,b,c]:=by
  match l,h with
  | [a,b,c],_=>exact ⟨a,b,c,rfl⟩
theorem leafB_size {k n : Int} {s : ByteArray} (hn : NumOk k n) (hs : s.size≤60) : (leafB k n s).size≤300:=by
  have h1:=fmtName_size s
  have h2:=quoteB_size s
  have h3 : (fmtInt n).size≤20:=fmtInt_size (by unfold NumOk at hn;unfold In64;split at hn <;> (try split at hn) <;> (try split at hn) <;> omega)
  unfold leafB
  repeat' split
  all_goals szs
theorem nodeB_size {t : List Nod} {K : List Int} {p : Int→Nat→ByteArray} {k n c : Int} {s : ByteArray} {L : List ByteArray} {w : Int→Nat} (hx : nB ⟨k,n,s,L,c⟩ = true) (hK : (K.length : Int) = c) (hw : ∀ j,j < K.length→1≤w (K.getD j default))
    (hz : ∀ lev j,j < K.length→(k ≠ 8 ∨ j + 1 = K.length ∨ (t.getD (K.getD j default).toNat default).kind ≠ 1)→(p lev j).size + 250≤552 * w (K.getD j default)) : (nodeB t K p k n s L).size≤552 * sumOf w K + 300:=by
  obtain ⟨h1,h2,h3,h4,h5⟩:=nB_parts hx
  have hs:=nB_text hx
  have hl:=fun j hj=>nB_lab (j:=j) hx hj
  have hl0:=nB_lab1 hx
  simp only at h1 h2 h3 h4 h5 hs hl hl0
  have s1:=fmtName_size s
  have s2:=quoteB_size s
  have s3:=fldB_size hs
  have e2 : (⟨#[59,32]⟩ : ByteArray).size = 2:=rfl
  have e2' : (⟨#[44,32]⟩ : ByteArray).size = 2:=rfl
  have e1 : (⟨#[10]⟩ : ByteArray).size = 1:=rfl
  have hsum : sumOf w (K.take K.length) = sumOf w K:=by rw [List.take_length]
  have one : ∀ k',k = k'→k' ∈ ([10,14,21,22,23,26,27,31,33] : List Int)→∀ lev,(p lev 0).size + 250≤552 * sumOf w K:=fun k' e hk lev=>by
    subst e
    have:=kid1 h2 hk
    obtain ⟨a,rfl⟩ : ∃ a,K = [a]:=List.length_eq_one_iff.1 (by omega)
    have:=hz lev 0 (by simp) (.inr (.inl rfl))
    simpa [sumOf] using this
  have two : ∀ k',k = k'→k' ∈ ([11,12,13,17,18,24,25,28,29,30] : List Int)→∀ lev lev',(p lev 0).size + (p lev' 1).size + 500≤552 * sumOf w K:=fun k' e hk lev lev'=>by
    subst e
    have:=kid2 h2 hk
    obtain ⟨a,b,rfl⟩ : ∃ a b,K = [a,b]:=len_two (by omega)
    have h8 : k ≠ 8:=by rintro rfl;simp at hk
    have q0:=hz lev 0 (by simp) (.inl h8)
    have q1:=hz lev' 1 (by simp) (.inl h8)
    simp [sumOf] at q0 q1 ⊢
    omega
  unfold nodeB
  refine ite_le (fun hk=>?_) (fun hk=>?_)
  · have:=joinG_sum (g:=p 1) (sep:=⟨#[10]⟩) (w:=w) (M:=K) (i:=K.length) (Nat.le_refl _) fun j hj=>by
      have:=hz 1 j hj (.inl (by omega));omega
    omega
  refine ite_le (fun hk=>?_) (fun hk=>?_)
  · have hc:=kid89 h2 (by omega)
    have ha:=joinG_sum (g:=fnG t K L (p 1)) (sep:=⟨#[44,32]⟩) (w:=w) (M:=K) (i:=L.length) (by omega) fun j hj=>by
      have hw1:=hw j (by omega)
      have:=fnG_size (t:=t) (K:=K) (L:=L) (g:=p 1) (j:=j) (m:=552 * w (K.getD j default) - 250) (fun h=>by have:=hz 1 j (by omega) (.inr (.inr h));omega)
      omega
    have hb:=hz 1 L.length (by omega) (.inr (.inl (by omega)))
    have hcs : sumOf w K = sumOf w (K.take L.length) + w (K.getD L.length default):=by
      rw [← hsum,show K.length = L.length + 1 by omega,tk_succ (by omega),sumOf_app]
      simp [sumOf]
    unfold fnB
    szs
  refine ite_le (fun hk=>?_) (fun hk=>?_)
  · have hc:=kid89 h2 (by omega)
    obtain ⟨a,M,rfl⟩ : ∃ a M,K = a :: M:=by
      cases K with
      | nil=>simp at hK;omega
      | cons a M=>exact ⟨a,M,rfl⟩
    have hML : M.length = L.length:=by simp at hK;omega
    have ha:=joinG_sum (g:=callG L (p 1)) (sep:=⟨#[44,32]⟩) (w:=w) (M:=M) (i:=M.length) (Nat.le_refl _) fun j hj=>by
      have:=hz 1 (j + 1) (by simp;omega) (.inl (by omega))
      have:=labB_size (hl j (by omega))
      unfold callG
      rw [ByteArray.size_append]
      simp only [List.getD_cons_succ] at *
      omega
    have hb:=hz 13 0 (by simp) (.inl (by omega))
    rw [List.take_length,hML] at ha
    simp only [List.getD_cons_zero] at hb
    unfold callB
    simp only [sumOf]
    szs
  refine ite_le (fun hk=>?_) (fun hk=>?_)
  · have:=one 10 hk (by decide) (ulv s).2;szs
  refine ite_le (fun hk=>?_) (fun hk=>?_)
  · have:=two 11 hk (by decide) (blv s).2.1 (blv s).2.2
    unfold binO
    split <;> szs
  refine ite_le (fun hk=>?_) (fun hk=>?_)
  · have:=two 12 hk (by decide) 13 1;szs
  refine ite_le (fun hk=>?_) (fun hk=>?_)
  · have:=two 13 hk (by decide) 13 1;szs
  refine ite_le (fun hk=>?_) (fun hk=>?_)
  · have:=one 14 hk (by decide) 13;szs
  refine ite_le (fun hk=>?_) (fun hk=>?_)
  · have:=joinG_sum (g:=p 1) (sep:=⟨#[59,32]⟩) (w:=w) (M:=K) (i:=K.length) (Nat.le_refl _) fun j hj=>by
      have:=hz 1 j hj (.inl (by omega));omega
    split <;> szs
  refine ite_le (fun hk=>?_) (fun hk=>?_)
  · have h16:=kid16 h2 hk
    have h8 : k ≠ 8:=by omega
    unfold ifO
    split
    · obtain ⟨a,b,rfl⟩ : ∃ a b,K = [a,b]:=len_two ‹_›
      have q0:=hz 1 0 (by simp) (.inl h8)
      have q1:=hz 1 1 (by simp) (.inl h8)
      simp [sumOf] at q0 q1 ⊢
      szs
    · obtain ⟨a,b,d,rfl⟩ : ∃ a b d,K = [a,b,d]:=len_three (by omega)
      have q0:=hz 1 0 (by simp) (.inl h8)
      have q1:=hz 2 1 (by simp) (.inl h8)
      have q2:=hz 1 2 (by simp) (.inl h8)
      simp [sumOf] at q0 q1 q2 ⊢
      szs
  refine ite_le (fun hk=>?_) (fun hk=>?_)
  · have:=two 17 hk (by decide) 1 1;szs
  refine ite_le (fun hk=>?_) (fun hk=>?_)
  · have:=two 18 hk (by decide) 1 1;szs
  refine ite_le (fun hk=>?_) (fun hk=>?_)
  · have:=one 21 hk (by decide) 1;szs
  refine ite_le (fun hk=>?_) (fun hk=>?_)
  · have:=one 22 hk (by decide) 1;szs
  refine ite_le (fun hk=>?_) (fun hk=>?_)
  · have:=one 23 hk (by decide) 1;szs
  refine ite_le (fun hk=>?_) (fun hk=>?_)
  · have:=two 24 hk (by decide) 1 1;szs
  refine ite_le (fun hk=>?_) (fun hk=>?_)
  · have:=two 25 hk (by decide) 1 1;szs
  refine ite_le (fun hk=>?_) (fun hk=>?_)
  · have:=one 26 hk (by decide) 1
    have h6:=fldB_size (hl 0 (by have:=hl0 (by omega);omega))
    szs
  refine ite_le (fun hk=>?_) (fun hk=>?_)
  · have:=one 27 hk (by decide) 1
    have h6:=fmtName_size (L.getD 0 default)
    szs
  refine ite_le (fun hk=>?_) (fun hk=>?_)
  · have:=two 28 hk (by decide) 1 1
    unfold hanO;szs
  refine ite_le (fun hk=>?_) (fun hk=>?_)
  · have:=two 29 hk (by decide) 1 1
    unfold hanO;szs
  refine ite_le (fun hk=>?_) (fun hk=>?_)
  · have:=two 30 hk (by decide) 1 1
    unfold hanO;szs
  refine ite_le (fun hk=>?_) (fun hk=>?_)
  · have:=one 31 hk (by decide) 1;szs
  refine ite_le (fun hk=>?_) (fun hk=>?_)
  · have:=one 33 hk (by decide) 1;szs
  · have:=leafB_size h3 hs (k:=k)
    omega
end Go.Proofs.Ytfdpkdfmkedkmaa

namespace Go.Proofs.Ytfdpkdfmkedkmaa
open List (length_take length_drop length_append map_cons map_nil length_map length_cons length_nil length_set length_replicate)
open Go.RowKit
set_option maxRecDepth 100000
def PI (t : List Nod) (i : Nat) (s : ByteArray) : Prop:=Meets Try.prog 37 [(false,[encNods t]),(false,[.sc (.int .i64 i)])] [(false,[.sc (.string s)],true)]
def PS (t : List Nod) (i : Nat) (s : ByteArray) : Prop:=Meets Try.prog 46 [(false,[encNods t]),(false,[.sc (.int .i64 i)])] [(false,[.sc (.string s)],true)]
theorem nB_cases {k : Int} (h : 0≤k∧k≤35) (h1 : k ≠ 1) : k ∈ ([2,3,4,5,6,7,19,20,32,34,35] : List Int) ∨ k ∈ ([0,15] : List Int) ∨ k ∈ ([10,14,21,22,23,31,33] : List Int) ∨ k ∈ ([26,27] : List Int) ∨ k ∈ ([11,12,13,17,18,24,25,28,29,30] : List Int) ∨ k = 16 ∨ k = 8 ∨ k = 9:=by
  simp only [List.mem_cons,List.not_mem_nil,or_false]
  omega
set_option maxHeartbeats 2000000 in
theorem node_both {t : List Nod} (hT : treeB t = true) {i : Nat} (hi : i < t.length) (h1 : (t.getD i default).kind ≠ 1) {f : Nat→ByteArray} (hf : ∀ k,k < i→(t.getD k default).kind ≠ 1→PI t k (f k)∧PS t k (f k)) (hz : ∀ k,(f k).size≤110400) :
    PI t i (nodeB t (kidsT t i) (fun lev j=>par t f lev ((kidsT t i).getD j default)) (t.getD i default).kind (t.getD i default).num (t.getD i default).text (t.getD i default).labels) ∧
    PS t i (nodeB t (kidsT t i) (fun lev j=>par t f lev ((kidsT t i).getD j default)) (t.getD i default).kind (t.getD i default).num (t.getD i default).text (t.getD i default).labels):=by
  have hlT:=tree_len hT
  have hB:=tree_nB hT hi
  have hfull:=fun j=>kid_full hT (j:=j) hi
  have hlt:=fun j=>kid_lt hT (j:=j) hi
  obtain ⟨ck,hck,hck2,-⟩:=lenT_step hT hi
  have hKl:=kidsT_len hck
  have hle:=lenT_le t i
  have htx:=nB_text hB
  have hlab:=fun j=>nB_lab (j:=j) hB
  have hl1:=nB_lab1 hB
  have huna:=nB_una hB
  obtain ⟨q1,q2,q3,q4,q5⟩:=nB_parts hB
  generalize hx : t.getD i default = x at *
  obtain ⟨k,n,s,L,c⟩:=x
  simp only at h1 hfull hlt hck htx hlab hl1 huna q1 q2 q3 q4 q5 ⊢
  subst hck
  simp only [Int.toNat_natCast] at hfull hlt
  generalize hKe : kidsT t i = K at *
  generalize hp : (fun lev j=>par t f lev (K.getD j default)) = p
  have hpz : ∀ lev j,(p lev j).size≤900000:=fun lev j=>by
    rw [← hp]
    have:=par_size t f lev (K.getD j default)
    have:=hz (K.getD j default).toNat
    simp only
    omega
  have hkid : ∀ lev j,j < K.length→(k ≠ 8 ∨ j + 1 = K.length) ∨ (t.getD (K.getD j default).toNat default).kind ≠ 1→KidI t (K.getD j default) lev (p lev j)∧KidS t (K.getD j default) lev (p lev j):=fun lev j hj hk=>by
    have hk1 : (t.getD (K.getD j default).toNat default).kind ≠ 1:=by
      rcases hk with hk | hk
      · exact hfull j (by omega) (by rw [← hKl];exact hk)
      · exact hk
    obtain ⟨g1,g2⟩:=hlt j (by omega)
    have e : (((K.getD j default).toNat : Nat) : Int) = K.getD j default:=Int.toNat_of_nonneg g1
    obtain ⟨f1,f2⟩:=hf (K.getD j default).toNat (by omega) hk1
    have hzz:=hz (K.getD j default).toNat
    unfold PI at f1
    unfold PS at f2
    rw [e] at f1 f2
    rw [← hp]
    exact ⟨implKid_m (by omega) g1 (by omega) (by omega) f1,specKid_m hT g1 (by omega) (by omega) f2⟩
  have hKI : k ≠ 8→∀ lev j,j < K.length→KidI t (K.getD j default) lev (p lev j):=fun h8 lev j hj=>(hkid lev j hj (.inl (.inl h8))).1
  have hKS : k ≠ 8→∀ lev j,j < K.length→KidS t (K.getD j default) lev (p lev j):=fun h8 lev j hj=>(hkid lev j hj (.inl (.inl h8))).2
  have h200 : K.length≤200:=by omega
  unfold PI PS
  rcases nB_cases q1 h1 with hk | hk | hk | hk | hk | hk | hk | hk
  · have h8 : k ≠ 8:=by rintro rfl;simp at hk
    refine ⟨implNodeL t hT i hi K hKe p k n s L _ hx hk htx q3 hpz (hKI h8),?_⟩
    have hs:=hKS h8
    simp only [List.mem_cons,List.not_mem_nil,or_false] at hk
    rcases hk with hk | hk | hk | hk | hk | hk | hk | hk | hk | hk | hk
    · exact specNodeL t hT i hi K hKe p k n s L _ hx (by simp [hk]) htx q3 hpz hs
    · exact specNodeL t hT i hi K hKe p k n s L _ hx (by simp [hk]) htx q3 hpz hs
    · exact specNode4 t hT i hi K hKe p k n s L _ hx (by simp [hk]) htx q3 hpz hs
    · exact specNode5 t hT i hi K hKe p k n s L _ hx (by simp [hk]) htx q3 hpz hs
    · exact specNodeL t hT i hi K hKe p k n s L _ hx (by simp [hk]) htx q3 hpz hs
    · exact specNodeL t hT i hi K hKe p k n s L _ hx (by simp [hk]) htx q3 hpz hs
    all_goals exact specNodeW t hT i hi K hKe p k n s L _ hx (by simp [hk]) htx (specWord0_m t (by omega) i hi K p k n s L _ hx (by simp [hk]) htx hpz hs) hpz hs
  · have h8 : k ≠ 8:=by rintro rfl;simp at hk
    exact ⟨implNode0 t hT i hi K hKe p k n s L _ hx hk h200 htx hpz (hKI h8),specNode0 t hT i hi K hKe p k n s L _ hx hk h200 htx hpz (hKS h8)⟩
  · have h8 : k ≠ 8:=by rintro rfl;simp at hk
    have hK1 : (K.length : Int) = 1:=by
      have:=kid1 q2 (by simp only [List.mem_cons,List.not_mem_nil,or_false] at hk ⊢;omega)
      omega
    refine ⟨implNode1 t hT i hi K hKe p k n s L _ hx hk hK1 htx hpz (hKI h8),?_⟩
    have hs:=hKS h8
    simp only [List.mem_cons,List.not_mem_nil,or_false] at hk
    have hL0 : (L.getD 0 default).size≤60:=by
      rcases Nat.lt_or_ge 0 L.length with h | h
      · exact hlab 0 h
      · rw [List.getD_eq_getElem?_getD,List.getElem?_eq_none h];decide
    rcases hk with hk | hk | hk | hk | hk | hk | hk
    · exact specNode10 t hT i hi K hKe p k n s L _ hx (by simp [hk]) hK1 (huna hk) htx hpz hs
    · exact specNode14 t hT i hi K hKe p k n s L _ hx (by simp [hk]) hK1 htx hpz hs
    · exact specNodeW t hT i hi K hKe p k n s L _ hx (by simp [hk]) htx (specWord1_m t (by omega) i hi K p k n s L _ hx (by simp [hk]) htx hK1 hpz hs) hpz hs
    · exact specNodeW t hT i hi K hKe p k n s L _ hx (by simp [hk]) htx (specWord22_m t (by omega) i hi K p k n s L _ hx (by simp [hk]) htx hK1 hL0 hpz hs) hpz hs
    · exact specNodeW t hT i hi K hKe p k n s L _ hx (by simp [hk]) htx (specWord22_m t (by omega) i hi K p k n s L _ hx (by simp [hk]) htx hK1 hL0 hpz hs) hpz hs
    · exact specNodeW t hT i hi K hKe p k n s L _ hx (by simp [hk]) htx (specWord1_m t (by omega) i hi K p k n s L _ hx (by simp [hk]) htx hK1 hpz hs) hpz hs
    · exact specNodeW t hT i hi K hKe p k n s L _ hx (by simp [hk]) htx (specWord1_m t (by omega) i hi K p k n s L _ hx (by simp [hk]) htx hK1 hpz hs) hpz hs
  · have h8 : k ≠ 8:=by rintro rfl;simp at hk
    have hK1 : (K.length : Int) = 1:=by
      have:=kid1 q2 (by simp only [List.mem_cons,List.not_mem_nil,or_false] at hk ⊢;omega)
      omega
    have hL:=hl1 (by simpa using hk)
    have hL0:=hlab 0 (by omega)
    refine ⟨implNode1L t hT i hi K hKe p k n s L _ hx hk hK1 hL hL0 htx hpz (hKI h8),?_⟩
    have hs:=hKS h8
    exact specNodeW t hT i hi K hKe p k n s L _ hx (by simp only [List.mem_cons,List.not_mem_nil,or_false] at hk;rcases hk with hk | hk <;> simp [hk]) htx (specWord26_m t (by omega) i hi K p k n s L _ hx hk htx hK1 hL hL0 hpz hs) hpz hs
  · have h8 : k ≠ 8:=by rintro rfl;simp at hk
    have hK2 : (K.length : Int) = 2:=by
      have:=kid2 q2 hk
      omega
    refine ⟨implNode2 t hT i hi K hKe p k n s L _ hx hk hK2 htx hpz (hKI h8),?_⟩
    have hs:=hKS h8
    have hL0 : (L.getD 0 default).size≤60:=by
      rcases Nat.lt_or_ge 0 L.length with h | h
      · exact hlab 0 h
      · rw [List.getD_eq_getElem?_getD,List.getElem?_eq_none h];decide
    simp only [List.mem_cons,List.not_mem_nil,or_false] at hk
    rcases hk with hk | hk | hk | hk | hk | hk | hk | hk | hk | hk
    · exact specNode11 t hT i hi K hKe p k n s L _ hx (by simp [hk]) hK2 htx hpz hs
    · exact specNode2 t hT i hi K hKe p k n s L _ hx (by simp [hk]) hK2 htx hpz hs
    · exact specNode2 t hT i hi K hKe p k n s L _ hx (by simp [hk]) hK2 htx hpz hs
    · exact specNode2 t hT i hi K hKe p k n s L _ hx (by simp [hk]) hK2 htx hpz hs
    · exact specNode2 t hT i hi K hKe p k n s L _ hx (by simp [hk]) hK2 htx hpz hs
    · exact specNodeW t hT i hi K hKe p k n s L _ hx (by simp [hk]) htx (specWord24_m t (by omega) i hi K p k n s L _ hx (by simp [hk]) htx hK2 hL0 hpz hs) hpz hs
    · exact specNodeW t hT i hi K hKe p k n s L _ hx (by simp [hk]) htx (specWord24_m t (by omega) i hi K p k n s L _ hx (by simp [hk]) htx hK2 hL0 hpz hs) hpz hs
    all_goals exact specNodeW t hT i hi K hKe p k n s L _ hx (by simp [hk]) htx (specWord2_m t (by omega) i hi K p k n s L _ hx (by simp [hk]) htx hK2 hpz hs) hpz hs
  · have h8 : k ≠ 8:=by omega
    have hK3 : (K.length : Int) = 2 ∨ (K.length : Int) = 3:=by
      have:=kid16 q2 hk
      omega
    exact ⟨implNode16 t hT i hi K hKe p k n s L _ hx (by simp [hk]) hK3 htx hpz (hKI h8),specNode16 t hT i hi K hKe p k n s L _ hx (by simp [hk]) hK3 htx hpz (hKS h8)⟩
  · have hKL : K.length = L.length + 1:=by have:=kid89 q2 (.inl hk);omega
    have hzz : ∀ j,j < K.length→0≤K.getD j default∧K.getD j default < t.length:=fun j hj=>by have:=hlt j (by omega);omega
    have hm:=implFn_m t ⟨k,n,s,L,ck⟩ K (p 1) hKL h200 hlT.2 hzz (fun j hj=>hlab j hj) (fun j hj hn=>⟨(hkid 1 j hj (by by_cases hj2 : j < L.length;exact .inr (hn hj2);exact .inl (.inr (by omega)))).1,hpz 1 j⟩)
    have hm2:=specFn_m t i hi K (p 1) (by rw [hx];exact hKL) h200 hlT.2 hzz (by rw [hx];exact fun j hj=>hlab j hj) (by rw [hx];exact fun j hj hn=>⟨(hkid 1 j hj (by by_cases hj2 : j < L.length;exact .inr (hn hj2);exact .inl (.inr (by omega)))).2,hpz 1 j⟩)
    rw [hx] at hm2
    subst hk
    exact ⟨implNode8 t hT i hi K hKe p 8 n s L _ hx (by simp) hm,specNode8 t hT i hi K hKe p 8 n s L _ hx (by simp) hm2⟩
  · have hKL : K.length = L.length + 1:=by have:=kid89 q2 (.inr hk);omega
    have h8 : k ≠ 8:=by omega
    have hp0:=hpz 13 0
    have hm:=implCall_m t ⟨k,n,s,L,ck⟩ K (p 13 0) (p 1) hKL h200 (fun j hj=>hlab j hj) (hKI h8 13 0 (by omega)) (by omega) (fun j hj=>⟨hKI h8 1 (j + 1) (by simp only at hj;omega),hpz 1 (j + 1)⟩)
    have hm2:=specCall_m t i hi K (p 13 0) (p 1) (by rw [hx];exact hKL) h200 hlT.2 (by rw [hx];exact fun j hj=>hlab j hj) (hKS h8 13 0 (by omega)) (by omega) (by rw [hx];exact fun j hj=>⟨hKS h8 1 (j + 1) (by simp only at hj;omega),hpz 1 (j + 1)⟩)
    rw [hx] at hm2
    subst hk
    exact ⟨implNode9 t hT i hi K hKe p 9 n s L _ hx (by simp) hm,specNode9 t hT i hi K hKe p 9 n s L _ hx (by simp) hm2⟩
theorem node_all {t : List Nod} (hT : treeB t = true) : ∀ i,i < t.length→(t.getD i default).kind ≠ 1→∃ s,PI t i s∧PS t i s∧s.size + 252≤552 * (i + 1 - startT t i):=by
  intro i
  induction i using Nat.strongRecOn with
  | _ i ih =>
  intro hi h1
  have hlT:=tree_len hT
  have hall : ∀ k,∃ s : ByteArray,(k < i→(t.getD k default).kind ≠ 1→(PI t k s∧PS t k s)∧s.size + 252≤552 * (k + 1 - startT t k))∧s.size≤110400:=fun k=>by
    by_cases hk : k < i∧(t.getD k default).kind ≠ 1
    · obtain ⟨s,g1,g2,g3⟩:=ih k hk.1 (by omega) hk.2
      exact ⟨s,fun _ _=>⟨⟨g1,g2⟩,g3⟩,by omega⟩
    · exact ⟨⟨#[]⟩,fun a b=>absurd ⟨a,b⟩ hk,by decide⟩
  obtain ⟨f,hf⟩:=Classical.axiomOfChoice hall
  obtain ⟨g1,g2⟩:=node_both hT hi h1 (f:=f) (fun k hk hk1=>((hf k).1 hk hk1).1) fun k=>(hf k).2
  refine ⟨_,g1,g2,?_⟩
  have hB:=tree_nB hT hi
  have hsp:=span_kids hT hi
  have hfull:=fun j=>kid_full hT (j:=j) hi
  have hlt:=fun j=>kid_lt hT (j:=j) hi
  obtain ⟨ck,hck,hck2,-⟩:=lenT_step hT hi
  have hKl:=kidsT_len hck
  rw [hck,Int.toNat_natCast] at hfull hlt
  have hw1 : ∀ j,j < (kidsT t i).length→1≤spanT t ((kidsT t i).getD j default):=fun j hj=>by
    unfold spanT
    have:=startT_le t ((kidsT t i).getD j default).toNat
    omega
  have hs:=nodeB_size (t:=t) (K:=kidsT t i) (p:=fun lev j=>par t f lev ((kidsT t i).getD j default)) (w:=spanT t) (k:=(t.getD i default).kind) (n:=(t.getD i default).num) (s:=(t.getD i default).text) (L:=(t.getD i default).labels) (c:=(t.getD i default).kids) hB (by rw [hKl];exact hck.symm) hw1 fun lev j hj hk=>by
    have hk1 : (t.getD ((kidsT t i).getD j default).toNat default).kind ≠ 1:=by
      rcases hk with hk | hk | hk
      · exact hfull j (by omega) (.inl hk)
      · exact hfull j (by omega) (.inr (by omega))
      · exact hk
    have:=hlt j (by omega)
    have g3:=((hf ((kidsT t i).getD j default).toNat).1 (by omega) hk1).2
    have:=par_size t f lev ((kidsT t i).getD j default)
    unfold spanT
    omega
  omega
theorem lvl_0 (x : Nod) : ¬ lvl x < 0:=by
  unfold lvl blv ulv
  repeat' split
  all_goals decide
theorem tree_root {t : List Nod} (hT : treeB t = true) : (t.getD (t.length - 1) default).kind ≠ 1:=by
  unfold treeB at hT
  simp only [Bool.and_eq_true] at hT
  have h2:=hT.2
  split at h2
  · cases h2
  · simp only [Bool.and_eq_true,Bool.not_eq_true',decide_eq_false_iff_not] at h2
    exact h2.2
set_option maxHeartbeats 2000000 in
theorem fmtTree_m (t : List Nod) (hw : wtNods t≤1048576) : ∃ s : ByteArray,Meets Try.prog 19 [(false,[encNods t])] [(false,[.sc (.string s)],true)]∧Meets Try.prog 18 [(false,[encNods t])] [(false,[.sc (.string s)],true)]∧s.size≤120000:=by
  have hB:=wtNods_ok hw
  have h1:=implTree_m t hB.1 hB.2
  have h2:=specTree_m t hB.1 hB.2
  cases hT : treeB t
  · rw [hT] at h1 h2
    refine ⟨⟨#[]⟩,?_,?_,by decide⟩
    · refine meets_upf Try.func19 u_impl_FormatTree_g rfl ?_;simp only [u_impl_FormatTree_u]
      simp only [encNods] at h1 ⊢
      repeat' (first | (with_reducible first | refine jn_in ?_ | refine cl_ok (by assumption) rfl ?_ | refine cl_okP (by assumption) rfl ?_ | refine br_if (fun hbr=>?_) fun hbr=>?_ | refine br_ifn (fun hbr=>?_) fun hbr=>?_ | refine br_nb (fun hbr=>?_) fun hbr=>?_ | refine br_b (fun hbr=>?_) fun hbr=>?_) | simp (disch:=first | omega | (simp only [length_take,length_drop,length_append,map_cons,map_nil,length_map,length_cons,length_nil,length_set,length_replicate];omega) | (simp only [length_cons,length_nil,Nat.zero_add,Nat.reduceAdd])) only [go_sem,↓reduceIte,Nat.reduceAdd,Int.reduceNeg,Int.reduceAdd,Int.reduceSub,Int.reduceMul,Int.reduceLT,Int.reduceLE,Int.reduceEq,Int.reduceToNat,Nat.reduceBEq,nat1,true_and])
      rfl
    · refine meets_upf Try.func18 u_spec_FormatTree_g rfl ?_;simp only [u_spec_FormatTree_u]
      simp only [encNods] at h2 ⊢
      repeat' (first | (with_reducible first | refine jn_in ?_ | refine cl_ok (by assumption) rfl ?_ | refine cl_okP (by assumption) rfl ?_ | refine br_if (fun hbr=>?_) fun hbr=>?_ | refine br_ifn (fun hbr=>?_) fun hbr=>?_ | refine br_nb (fun hbr=>?_) fun hbr=>?_ | refine br_b (fun hbr=>?_) fun hbr=>?_) | simp (disch:=first | omega | (simp only [length_take,length_drop,length_append,map_cons,map_nil,length_map,length_cons,length_nil,length_set,length_replicate];omega) | (simp only [length_cons,length_nil,Nat.zero_add,Nat.reduceAdd])) only [go_sem,↓reduceIte,Nat.reduceAdd,Int.reduceNeg,Int.reduceAdd,Int.reduceSub,Int.reduceMul,Int.reduceLT,Int.reduceLE,Int.reduceEq,Int.reduceToNat,Nat.reduceBEq,nat1,true_and])
      rfl
  · rw [hT] at h1 h2
    have hl:=tree_len hT
    obtain ⟨s,g1,g2,g3⟩:=node_all hT (t.length - 1) (by omega) (tree_root hT)
    have e : ((t.length - 1 : Nat) : Int) = (t.length : Int) - 1:=by omega
    unfold PI at g1
    unfold PS at g2
    have hk:=specKid_m hT (f:=fun _=>s) (z:=(t.length : Int) - 1) (lev:=0) (by omega) (by omega) (by omega) (by rw [e] at g2;exact g2)
    have ep : par t (fun _=>s) 0 ((t.length : Int) - 1) = s:=by unfold par;rw [if_neg (lvl_0 _)]
    rw [ep] at hk
    rw [e] at g1
    refine ⟨s,?_,?_,by omega⟩
    · refine meets_upf Try.func19 u_impl_FormatTree_g rfl ?_;simp only [u_impl_FormatTree_u]
      simp only [encNods] at h1 g1 ⊢
      repeat' (first | (with_reducible first | refine jn_in ?_ | refine cl_ok (by assumption) rfl ?_ | refine cl_okP (by assumption) rfl ?_ | refine br_if (fun hbr=>?_) fun hbr=>?_ | refine br_ifn (fun hbr=>?_) fun hbr=>?_ | refine br_nb (fun hbr=>?_) fun hbr=>?_ | refine br_b (fun hbr=>?_) fun hbr=>?_) | simp (disch:=first | omega | (simp only [length_take,length_drop,length_append,map_cons,map_nil,length_map,length_cons,length_nil,length_set,length_replicate];omega) | (simp only [length_cons,length_nil,Nat.zero_add,Nat.reduceAdd])) only [go_sem,↓reduceIte,Nat.reduceAdd,Int.reduceNeg,Int.reduceAdd,Int.reduceSub,Int.reduceMul,Int.reduceLT,Int.reduceLE,Int.reduceEq,Int.reduceToNat,Nat.reduceBEq,nat1,true_and])
      rfl
    · refine meets_upf Try.func18 u_spec_FormatTree_g rfl ?_;simp only [u_spec_FormatTree_u]
      simp only [encNods] at h2 hk ⊢
      repeat' (first | (with_reducible first | refine jn_in ?_ | refine cl_ok (by assumption) rfl ?_ | refine cl_okP (by assumption) rfl ?_ | refine br_if (fun hbr=>?_) fun hbr=>?_ | refine br_ifn (fun hbr=>?_) fun hbr=>?_ | refine br_nb (fun hbr=>?_) fun hbr=>?_ | refine br_b (fun hbr=>?_) fun hbr=>?_) | simp (disch:=first | omega | (simp only [length_take,length_drop,length_append,map_cons,map_nil,length_map,length_cons,length_nil,length_set,length_replicate];omega) | (simp only [length_cons,length_nil,Nat.zero_add,Nat.reduceAdd])) only [go_sem,↓reduceIte,Nat.reduceAdd,Int.reduceNeg,Int.reduceAdd,Int.reduceSub,Int.reduceMul,Int.reduceLT,Int.reduceLE,Int.reduceEq,Int.reduceToNat,Nat.reduceBEq,nat1,true_and])
      rfl
end Go.Proofs.Ytfdpkdfmkedkmaa

namespace Go.Proofs.Ytfdpkdfmkedkmaa
open Go.RowKit
set_option maxRecDepth 100000
set_option maxHeartbeats 8000000 in
theorem lawFormatTree_m (a0 : List Nod) (ok0 : OkNods a0) :
    Meets Try.prog 5 [(false,[encNodsL a0])] [(false,[.sc (.bool true)],true)]:=by
  have hz0:=szNods_m a0 ((1048576 : Int)) ok0 (by omega) (by omega)
  by_cases hc0 : ((wtNods a0 : Nat) : Int)≤(1048576 : Int)
  rotate_left
  · rw [szF_gt (by omega)] at hz0
    refine meets_upf Try.func5 u_laws_FnExactFormatTree_g rfl ?_;simp only [u_laws_FnExactFormatTree_u]
    simp only [encNods,encNodsL,encSs,encZs] at hz0 ⊢
    repeat' (first | (with_reducible first | refine jn_in ?_ | refine cl_ok (by assumption) rfl ?_ | refine cl_okP (by assumption) rfl ?_ | refine br_if (fun hbr=>?_) fun hbr=>?_ | refine br_ifn (fun hbr=>?_) fun hbr=>?_ | refine br_nb (fun hbr=>?_) fun hbr=>?_ | refine br_b (fun hbr=>?_) fun hbr=>?_) | simp (disch:=first | omega | (simp only [List.length_take,List.length_drop,List.length_append,List.map_cons,List.map_nil,List.length_map,List.length_cons,List.length_nil,List.length_set,List.length_replicate];omega) | (simp only [List.length_cons,List.length_nil,Nat.zero_add,Nat.reduceAdd])) only [go_sem,↓reduceIte,Nat.reduceAdd,Int.reduceNeg,Int.reduceAdd,Int.reduceSub,Int.reduceMul,Int.reduceLT,Int.reduceLE,Int.reduceEq,Int.reduceToNat,Nat.reduceBEq,eq_self])
    all_goals first | rfl | omega
  rw [szF_le hc0] at hz0
  have hd0 : decide ((1048576 : Int) - ((wtNods a0 : Nat) : Int) < 0) = false:=decide_eq_false (by omega)
  have wa0 : wtNods a0≤1048576:=by omega
  have ht0:=toNods_m a0 (wa0)
  have hq0:=eqNods_m a0 (by omega)
  have hl0 : a0.length≤1048576:=(wtNods_ok wa0).1
  obtain ⟨s,h2,h1,hs⟩:=fmtTree_m a0 wa0
  refine meets_upf Try.func5 u_laws_FnExactFormatTree_g rfl ?_;simp only [u_laws_FnExactFormatTree_u]
  simp only [encNods,encNodsL,encSs,encZs] at hz0 ht0 hq0 h1 h2 ⊢
  repeat' (first | (with_reducible refine cl_ok (by assumption) rfl ?_) | (with_reducible refine cl_okP (by assumption) rfl ?_) | (refine mk_ok (by assumption) ?_ ?_;(· first | exact ⟨⟨_,rfl,rfl⟩,⟨_,rfl,rfl⟩,trivial⟩ | exact ⟨⟨_,rfl,rfl⟩,⟨_,rfl,rfl⟩,⟨_,rfl,rfl⟩,trivial⟩ | exact trivial | exact ⟨⟨_,rfl,rfl⟩,trivial⟩)) | simp (disch:=first | omega | (simp only [List.length_take,List.length_drop,List.length_append,List.map_cons,List.map_nil,List.length_map,List.length_cons,List.length_nil,List.length_set,List.length_replicate];omega) | (simp only [List.length_cons,List.length_nil,Nat.zero_add,Nat.reduceAdd])) only [go_sem,↓reduceIte,Nat.reduceAdd,Int.reduceNeg,Int.reduceAdd,Int.reduceSub,Int.reduceMul,Int.reduceLT,Int.reduceLE,Int.reduceEq,Int.reduceToNat,Nat.reduceBEq,hd0])
  all_goals first | rfl | omega
end Go.Proofs.Ytfdpkdfmkedkmaa

namespace Go.Proofs.Ytfdpkdfmkedkmaa.fnExactFormatTree
open Go.ChangeShapes Go.WideShapes Go.ChangeAt Go.RowKit
open Go.ChangeMaps (open_string shut_string)
theorem own : ownKnob Try.prog.godebug = none:=by kernel_rfl
theorem laidOut : laidOutB Try.prog = true:=by kernel_rfl
set_option maxRecDepth 100000 in
set_option maxHeartbeats 2000000 in
theorem walk {H : Type} (enc : TypeId × Value→H) (v0 : Value) (d0 : DataW H) (p0 : List MemPlace) (base : Nat) (w : World)
    (ok0 : Value.okWide Try.prog w .any base 22 v0) (h0 : DataW.Trod enc Try.prog w 0 (fun _=>true) true 22 v0 d0 p0)
    (sz : (DataW.weightsEach Try.prog [22] [d0]).all (·≤reachBytes) = true) :
    Calls Try.prog 5 #[v0] w fun e w'=>e = .returned (.bool true)∧Below w.heap.size w w':=by
  obtain ⟨a0,r0,i0⟩:=argD_sl (base:=base) opD_Nods Try.underlying22 h0 ok0
  exact run_law (lawFormatTree_m a0 i0) (ArgsR.cons r0 ArgsR.nil)
set_option maxRecDepth 100000 in
theorem lifted (os : Os) (started : os.Started) (H : Type) (enc : TypeId × Value→H) :
    ReturnsInHanded {} Try.checked os 5 .any (Rows.fnExactFormatTreeSpec.pre6 enc Try.prog Try.f5 Rows.fnExactFormatTreeRow.domain false) (Rows.fnExactFormatTreeSpec.post enc Try.prog Try.f5 false true false false):=by
  refine returnsInHanded_of_change_sized (C:=Try.checked) own started (by kernel_rfl) Try.func5
    (ChangeSpec.witness6 (enc:=enc) (C:=Try.checked) false ⟨#[],#[.slice none 0 0],[]⟩ 8 (by kernel_rfl) (by kernel_rfl) (by kernel_rfl) (by kernel_rfl)) ?_
  intro W base args ds gs before hval0 hW hcnd0 hsz0 hholds
  have hval : ∀ (j : Nat) t v,Try.f5.params[j]? = some t→args[j]? = some v→Value.okWide Try.prog W .any base t v:=hval0
  have hsz : (DataW.weightsEach Try.prog (Try.f5.params.toList ++ Rows.fnExactFormatTreeSpec.plain.varTypes Try.prog) (ds ++ gs)).all (·≤reachBytes) = true:=hsz0
  have hW':=hW
  obtain ⟨p,q,hA0,hV,rfl,hfz,hnd⟩:=hW
  have hA : DataW.TrodAll enc Try.prog W 0 (fun _=>true) true Try.f5.params.toList args.toList ds p:=hA0
  rw [Try.params5] at hA hval hsz
  obtain ⟨v0,vs0,d0,ds0,p0,q0,hargs,rfl,rfl,h0,r0⟩:=trodAll_cons hA
  obtain ⟨rfl,rfl,rfl⟩:=trodAll_nil r0
  obtain rfl : args = #[v0]:=by cases args;simp_all
  obtain ⟨rfl,rfl⟩:=trodVars_none hV
  have lt0 : ∀ x ∈ p0,x.block < W.heap.size:=by obtain ⟨m,hm⟩:=h0;exact DataW.trod_lt m _ _ _ hm
  refine (walk enc v0 d0 p0 base W (hval 0 22 v0 rfl rfl) h0 hsz).mono fun e W' ⟨he,bel⟩=>?_
  subst he
  exact ⟨_,rfl,_,_,_,[],_,[],hW',trodAll_mk1 (shut_bool Try.underlying4 _),(trodAll_cons_mk (Below.trod laidOut (by kernel_rfl) (of_decide_eq_true (by kernel_rfl)) h0 bel lt0) trodAll_mk0),rfl,bel.frame _,fun h=>by cases h⟩
theorem over : Rows.fnExactFormatTreeRow.holds Try.pinned (OpenSpec.ofChange Rows.fnExactFormatTreeSpec) :=
  OpenClaim.holds_of_wide 5 Try.f5 rfl rfl rfl rfl rfl rfl rfl ⟨rfl,rfl,rfl,rfl,rfl⟩ rfl rfl rfl rfl rfl (by kernel_rfl) Try.func5 (by kernel_rfl)
    (of_decide_eq_true (by kernel_rfl)) (by unfold Func.isWrapper;first | (rw [if_pos (by decide +kernel)];kernel_rfl) | (rw [if_neg (by decide +kernel)];exact ⟨rfl,rfl⟩))
    (fun os started H enc _=>lifted os started H enc)
theorem proved : Rows.FnExactFormatTreeSaid:=over
end Go.Proofs.Ytfdpkdfmkedkmaa.fnExactFormatTree

