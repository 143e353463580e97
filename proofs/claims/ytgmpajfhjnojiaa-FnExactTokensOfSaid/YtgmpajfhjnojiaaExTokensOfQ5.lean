/- Proved: for every input the law 'FnExactTokensOf' returns true and its arguments read behind the call as before: part 5 of its proof. No condition. -/
import Derived.WalkKit
import Derived.Lib.Hide
import Derived.WalkSpells
import Derived.Laws.OwnMore
import Derived.Deep.AppendLies
import Derived.Deep.Draws
import Derived.Maps.AppendAt
import Derived.RegionTactic
import Derived.OwnWalk
import Derived.Below
import Derived.Laws.AppendOwnNone
import Derived.Deep.QuietTactic
import Derived.BigQuiet
import Derived.StillTailTactics
import Derived.Laws.Cells
import Derived.Laws.IdiomCopy
import Derived.ChangeKeysEq
import Derived.Laws.BytesArg
import Derived.Laws.StructEq
import Derived.Laws.Tables
import Derived.Great.BuildSlice
import Derived.StillTail
import Derived.OrdersHeld
import Derived.Test.YtgmpajfhjnojiaaProg
import Derived.Deep.Slices
import Derived.Deep.Fields
import Derived.ChangeSame
import Derived.OpenShut
import Derived.Laws.IdiomStrings
import Derived.Test.YtgmpajfhjnojiaaRows
import Derived.ProofKit
import Derived.ShutString
import Derived.ChangeOld
import Derived.SizedLaws
import Derived.Test.YtgmpajfhjnojiaaExTokensOfQ4
set_option linter.unusedVariables false
set_option linter.unusedSimpArgs false
namespace Go.Proofs.Ytgmpajfhjnojiaa
open List (length_take length_drop length_append map_cons map_nil length_map length_cons length_nil length_set length_replicate)
open Go.RowKit
set_option maxRecDepth 100000
theorem fl1Tok {t : Nat} {a : Int} {b : ByteArray} : eFlat (some (.sl t 2 [[.sc (.int .i64 a),.sc (.string b)]])) = some []:=rfl
set_option maxHeartbeats 16000000 in
theorem implTks_m (s : ByteArray) (hs : s.size≤600) (R : List Tok × Int) (hR : Runs s 0 [] [] R) : Meets Try.prog 14 [(false,[.sc (.string s)])] [(false,[encToks R.1],true),(false,[.sc (.int .i64 R.2)],true)]:=by
  refine meets_upf Try.func14 u_impl_TokensOf_g rfl ?_;simp only [u_impl_TokensOf_u]
  simp only [encToks]
  simp (disch:=first | omega | (simp only [length_take,length_drop,length_append,map_cons,map_nil,length_map,length_cons,length_nil,length_set,length_replicate];omega) | (simp only [length_cons,length_nil,Nat.zero_add,Nat.reduceAdd])) only [go_sem,↓reduceIte,Nat.reduceAdd,Int.reduceNeg,Int.reduceAdd,Int.reduceSub,Int.reduceMul,Int.reduceLT,Int.reduceLE,Int.reduceEq,Int.reduceToNat,Nat.reduceBEq,nat1,true_and]
  refine br_if (fun hbr=>?_) (fun hbr=>?_)
  · omega
  simp (disch:=first | omega | (simp only [length_take,length_drop,length_append,map_cons,map_nil,length_map,length_cons,length_nil,length_set,length_replicate];omega) | (simp only [length_cons,length_nil,Nat.zero_add,Nat.reduceAdd])) only [go_sem,↓reduceIte,Nat.reduceAdd,Int.reduceNeg,Int.reduceAdd,Int.reduceSub,Int.reduceMul,Int.reduceLT,Int.reduceLE,Int.reduceEq,Int.reduceToNat,Nat.reduceBEq,nat1,true_and]
  refine lp (fun a : Nat × List Tok × List Nat=>[.sc (.int .i64 (a.1 : Nat)),.sl 5 1 (a.2.2.map encU),.sl 5 1 (([] : List Nat).map encU),.sl 61 2 (a.2.1.map encTok)]) (fun a=>a.1≤s.size∧Runs s a.1 a.2.1 a.2.2 R∧a.2.1.length≤a.1∧a.2.2.length≤a.1) (fun a=>s.size - a.1) (0,[],[]) rfl ⟨Nat.zero_le _,hR,Nat.le_refl _,Nat.le_refl _⟩ ?_
  rintro ⟨i,out,op⟩ ⟨hi,hr,ho,hp⟩
  simp only at hi hr ho hp ⊢
  simp only [u_impl_TokensOf_l6]
  have hb:=byteAt_lt s i
  cases hr with
  | done h =>
    obtain rfl : i = s.size:=by omega
    repeat' (first | (with_reducible first | refine jn_in ?_ | refine cl_ok (by assumption) rfl ?_ | refine cl_okP (by assumption) rfl ?_ | refine br_if (fun hbr=>?_) fun hbr=>?_ | refine br_ifn (fun hbr=>?_) fun hbr=>?_ | refine br_nb (fun hbr=>?_) fun hbr=>?_ | refine br_b (fun hbr=>?_) fun hbr=>?_) | simp (disch:=first | omega | (simp only [length_take,length_drop,length_append,map_cons,map_nil,length_map,length_cons,length_nil,length_set,length_replicate];omega) | (simp only [length_cons,length_nil,Nat.zero_add,Nat.reduceAdd])) only [go_sem,↓reduceIte,Nat.reduceAdd,Int.reduceNeg,Int.reduceAdd,Int.reduceSub,Int.reduceMul,Int.reduceLT,Int.reduceLE,Int.reduceEq,Int.reduceToNat,Nat.reduceBEq,nat1,true_and])
    all_goals first | omega | rfl | skip
  | sp h1 h2 h3 =>
    rcases h2 with h2 | h2
    · have h2' : (byteAt s i : Int) = 32:=by omega
      repeat' (first | (with_reducible first | refine jn_in ?_ | refine cl_ok (by assumption) rfl ?_ | refine cl_okP (by assumption) rfl ?_ | refine br_if (fun hbr=>?_) fun hbr=>?_ | refine br_ifn (fun hbr=>?_) fun hbr=>?_ | refine br_nb (fun hbr=>?_) fun hbr=>?_ | refine br_b (fun hbr=>?_) fun hbr=>?_) | simp (disch:=first | omega | (simp only [length_take,length_drop,length_append,map_cons,map_nil,length_map,length_cons,length_nil,length_set,length_replicate];omega) | (simp only [length_cons,length_nil,Nat.zero_add,Nat.reduceAdd])) only [go_sem,↓reduceIte,Nat.reduceAdd,Int.reduceNeg,Int.reduceAdd,Int.reduceSub,Int.reduceMul,Int.reduceLT,Int.reduceLE,Int.reduceEq,Int.reduceToNat,Nat.reduceBEq,nat1,h2',Int.toNat_natCast,u_impl_TokensOf_j5])
      all_goals first | omega | exact ⟨(i + 1,out,op),rfl,⟨by omega,h3,by simp only;omega,by simp only;omega⟩,by simp only;omega⟩ | skip
    · have h2' : (byteAt s i : Int) = 9:=by omega
      repeat' (first | (with_reducible first | refine jn_in ?_ | refine cl_ok (by assumption) rfl ?_ | refine cl_okP (by assumption) rfl ?_ | refine br_if (fun hbr=>?_) fun hbr=>?_ | refine br_ifn (fun hbr=>?_) fun hbr=>?_ | refine br_nb (fun hbr=>?_) fun hbr=>?_ | refine br_b (fun hbr=>?_) fun hbr=>?_) | simp (disch:=first | omega | (simp only [length_take,length_drop,length_append,map_cons,map_nil,length_map,length_cons,length_nil,length_set,length_replicate];omega) | (simp only [length_cons,length_nil,Nat.zero_add,Nat.reduceAdd])) only [go_sem,↓reduceIte,Nat.reduceAdd,Int.reduceNeg,Int.reduceAdd,Int.reduceSub,Int.reduceMul,Int.reduceLT,Int.reduceLE,Int.reduceEq,Int.reduceToNat,Nat.reduceBEq,nat1,h2',Int.toNat_natCast,u_impl_TokensOf_j5])
      all_goals first | omega | exact ⟨(i + 1,out,op),rfl,⟨by omega,h3,by simp only;omega,by simp only;omega⟩,by simp only;omega⟩ | skip
  | com h1 h2 h3 =>
    have h2' : (byteAt s i : Int) = 35:=by omega
    have q1:=endP_t (p:=pC s) (n:=s.size) h1 (by unfold pC;rw [h2];rfl)
    have q2:=endP_le (p:=pC s) (n:=s.size) (i:=i + 1) (by omega)
    generalize hE : endP (pC s) s.size i = e at *
    repeat' (first | (with_reducible first | refine jn_in ?_ | refine cl_ok (by assumption) rfl ?_ | refine cl_okP (by assumption) rfl ?_ | refine br_if (fun hbr=>?_) fun hbr=>?_ | refine br_ifn (fun hbr=>?_) fun hbr=>?_ | refine br_nb (fun hbr=>?_) fun hbr=>?_ | refine br_b (fun hbr=>?_) fun hbr=>?_) | simp (disch:=first | omega | (simp only [length_take,length_drop,length_append,map_cons,map_nil,length_map,length_cons,length_nil,length_set,length_replicate];omega) | (simp only [length_cons,length_nil,Nat.zero_add,Nat.reduceAdd])) only [go_sem,↓reduceIte,Nat.reduceAdd,Int.reduceNeg,Int.reduceAdd,Int.reduceSub,Int.reduceMul,Int.reduceLT,Int.reduceLE,Int.reduceEq,Int.reduceToNat,Nat.reduceBEq,nat1,h2',Int.toNat_natCast,u_impl_TokensOf_j5])
    rotate_left
    · omega
    refine lp (fun k : Nat=>[.sc (.int .i64 k)]) (fun k=>k≤s.size∧endP (pC s) s.size k = e) (fun k=>s.size - k) i rfl ⟨by omega,hE⟩ ?_
    rintro k ⟨hk,he⟩
    simp only [u_impl_TokensOf_l0]
    by_cases hlt : k < s.size
    · by_cases hk10 : byteAt s k = 10
      · have hk10' : (byteAt s k : Int) = 10:=by omega
        have:=endP_f (p:=pC s) (n:=s.size) (i:=k) (by unfold pC;rw [decide_eq_true hk10];rfl)
        obtain rfl : k = e:=by omega
        repeat' (first | (with_reducible first | refine jn_in ?_ | refine cl_ok (by assumption) rfl ?_ | refine cl_okP (by assumption) rfl ?_ | refine br_if (fun hbr=>?_) fun hbr=>?_ | refine br_ifn (fun hbr=>?_) fun hbr=>?_ | refine br_nb (fun hbr=>?_) fun hbr=>?_ | refine br_b (fun hbr=>?_) fun hbr=>?_) | simp (disch:=first | omega | (simp only [length_take,length_drop,length_append,map_cons,map_nil,length_map,length_cons,length_nil,length_set,length_replicate];omega) | (simp only [length_cons,length_nil,Nat.zero_add,Nat.reduceAdd])) only [go_sem,↓reduceIte,Nat.reduceAdd,Int.reduceNeg,Int.reduceAdd,Int.reduceSub,Int.reduceMul,Int.reduceLT,Int.reduceLE,Int.reduceEq,Int.reduceToNat,Nat.reduceBEq,nat1,hk10',Int.toNat_natCast,u_impl_TokensOf_j5])
        all_goals first | omega | exact ⟨(k,out,op),rfl,⟨by omega,h3,by simp only;omega,by simp only;omega⟩,by simp only;omega⟩ | skip
      · have:=endP_t (p:=pC s) (n:=s.size) hlt (by unfold pC;rw [decide_eq_false hk10];rfl)
        have d10 : ¬ (byteAt s k : Int) = 10:=by omega
        repeat' (first | (with_reducible first | refine jn_in ?_ | refine cl_ok (by assumption) rfl ?_ | refine cl_okP (by assumption) rfl ?_ | refine br_if (fun hbr=>?_) fun hbr=>?_ | refine br_ifn (fun hbr=>?_) fun hbr=>?_ | refine br_nb (fun hbr=>?_) fun hbr=>?_ | refine br_b (fun hbr=>?_) fun hbr=>?_) | simp (disch:=first | omega | (simp only [length_take,length_drop,length_append,map_cons,map_nil,length_map,length_cons,length_nil,length_set,length_replicate];omega) | (simp only [length_cons,length_nil,Nat.zero_add,Nat.reduceAdd])) only [go_sem,↓reduceIte,Nat.reduceAdd,Int.reduceNeg,Int.reduceAdd,Int.reduceSub,Int.reduceMul,Int.reduceLT,Int.reduceLE,Int.reduceEq,Int.reduceToNat,Nat.reduceBEq,nat1,d10,Int.toNat_natCast,u_impl_TokensOf_j5])
        all_goals first | omega | contradiction | exact ⟨k + 1,rfl,⟨by omega,by omega⟩,by omega⟩ | skip
    · have:=endP_o (p:=pC s) (n:=s.size) (i:=k) (by omega)
      obtain rfl : k = e:=by omega
      repeat' (first | (with_reducible first | refine jn_in ?_ | refine cl_ok (by assumption) rfl ?_ | refine cl_okP (by assumption) rfl ?_ | refine br_if (fun hbr=>?_) fun hbr=>?_ | refine br_ifn (fun hbr=>?_) fun hbr=>?_ | refine br_nb (fun hbr=>?_) fun hbr=>?_ | refine br_b (fun hbr=>?_) fun hbr=>?_) | simp (disch:=first | omega | (simp only [length_take,length_drop,length_append,map_cons,map_nil,length_map,length_cons,length_nil,length_set,length_replicate];omega) | (simp only [length_cons,length_nil,Nat.zero_add,Nat.reduceAdd])) only [go_sem,↓reduceIte,Nat.reduceAdd,Int.reduceNeg,Int.reduceAdd,Int.reduceSub,Int.reduceMul,Int.reduceLT,Int.reduceLE,Int.reduceEq,Int.reduceToNat,Nat.reduceBEq,nat1,Int.toNat_natCast,u_impl_TokensOf_j5])
      all_goals first | omega | exact ⟨(k,out,op),rfl,⟨by omega,h3,by simp only;omega,by simp only;omega⟩,by simp only;omega⟩ | skip
  | nl h1 h2 h3 =>
    have h2' : (byteAt s i : Int) = 10:=by omega
    have hnl:=nlO_len out op
    have hfin : ∀ o2 : List Tok,o2 = nlO out op→∃ a' : Nat × List Tok × List Nat,[DV.sc (.int .i64 ((i + 1 : Nat) : Int)),.sl 5 1 (op.map encU),.sl 5 1 (([] : List Nat).map encU),.sl 61 2 (o2.map encTok)] = [.sc (.int .i64 (a'.1 : Nat)),.sl 5 1 (a'.2.2.map encU),.sl 5 1 (([] : List Nat).map encU),.sl 61 2 (a'.2.1.map encTok)]∧(a'.1≤s.size∧Runs s a'.1 a'.2.1 a'.2.2 R∧a'.2.1.length≤a'.1∧a'.2.2.length≤a'.1)∧s.size - a'.1 < s.size - i :=
      fun o2 e=>⟨(i + 1,o2,op),rfl,⟨by simp only;omega,by rw [e];exact h3,by simp only;rw [e];omega,by simp only;omega⟩,by simp only;omega⟩
    have htok:=map_tok out 6 ⟨#[59]⟩
    have happ : eApp 61 2 24 (some (.sl 61 2 (out.map encTok))) (some (.sl 61 2 [[.sc (.int .i64 6),.sc (.string ⟨#[59]⟩)]])) = some [.sl 61 2 ((out ++ [semiT]).map encTok)]:=by
      rw [e_app (by simp;omega) (by decide),htok];rfl
    have hex:=endsX_m (lastT out)
    by_cases hop : op = []
    · have hok : okN op = true:=by rw [hop];rfl
      have hol : op.length = 0:=by rw [hop];rfl
      by_cases hou : out = []
      · have hol2 : out.length = 0:=by rw [hou];rfl
        have hn : out = nlO out op:=by unfold nlO;rw [if_neg (fun h=>by rw [hou] at h;exact absurd h.2 (by decide))]
        repeat' (first | (with_reducible first | refine jn_in ?_ | refine cl_ok (by assumption) rfl ?_ | refine cl_okP (by assumption) rfl ?_ | refine br_if (fun hbr=>?_) fun hbr=>?_ | refine br_ifn (fun hbr=>?_) fun hbr=>?_ | refine br_nb (fun hbr=>?_) fun hbr=>?_ | refine br_b (fun hbr=>?_) fun hbr=>?_) | simp (disch:=first | omega | (simp only [length_take,length_drop,length_append,map_cons,map_nil,length_map,length_cons,length_nil,length_set,length_replicate];omega) | (simp only [length_cons,length_nil,Nat.zero_add,Nat.reduceAdd])) only [go_sem,↓reduceIte,Nat.reduceAdd,Int.reduceNeg,Int.reduceAdd,Int.reduceSub,Int.reduceMul,Int.reduceLT,Int.reduceLE,Int.reduceEq,Int.reduceToNat,Nat.reduceBEq,nat1,h2',hol,hol2,Int.toNat_natCast,u_impl_TokensOf_j1,u_impl_TokensOf_j5])
        all_goals first | omega | exact hfin _ hn | skip
      · have hlp : 0 < out.length:=List.length_pos_iff.2 hou
        have hix : eIdx 2 (some (.sl 61 2 (out.map encTok))) (some (.sc (.int .i64 ((out.length : Int) - 1)))) = some (encTok (lastT out)):=by
          rw [ix_Tok (by omega) (by omega),show ((out.length : Int) - 1).toNat = out.length - 1 by omega,last_get hou]
        cases hx : endsX (lastT out)
        · rw [hx] at hex
          have hn : out = nlO out op:=by unfold nlO;rw [if_neg (fun h=>by rw [hx] at h;cases h.2)]
          generalize lastT out = x at *
          obtain ⟨xk,xt⟩:=x
          simp only [encTok] at hex hix
          repeat' (first | (with_reducible first | refine jn_in ?_ | refine cl_ok (by assumption) rfl ?_ | refine cl_okP (by assumption) rfl ?_ | refine br_if (fun hbr=>?_) fun hbr=>?_ | refine br_ifn (fun hbr=>?_) fun hbr=>?_ | refine br_nb (fun hbr=>?_) fun hbr=>?_ | refine br_b (fun hbr=>?_) fun hbr=>?_) | simp (disch:=first | omega | (simp only [length_take,length_drop,length_append,map_cons,map_nil,length_map,length_cons,length_nil,length_set,length_replicate];omega) | (simp only [length_cons,length_nil,Nat.zero_add,Nat.reduceAdd])) only [go_sem,↓reduceIte,Nat.reduceAdd,Int.reduceNeg,Int.reduceAdd,Int.reduceSub,Int.reduceMul,Int.reduceLT,Int.reduceLE,Int.reduceEq,Int.reduceToNat,Nat.reduceBEq,nat1,h2',hol,hix,Int.toNat_natCast,u_impl_TokensOf_j1,u_impl_TokensOf_j5])
          all_goals first | omega | exact hfin _ hn | skip
        · rw [hx] at hex
          have hn : out ++ [semiT] = nlO out op:=by unfold nlO;rw [if_pos ⟨hok,hx⟩]
          generalize lastT out = x at *
          obtain ⟨xk,xt⟩:=x
          simp only [encTok] at hex hix
          repeat' (first | (with_reducible first | refine jn_in ?_ | refine cl_ok (by assumption) rfl ?_ | refine cl_okP (by assumption) rfl ?_ | refine br_if (fun hbr=>?_) fun hbr=>?_ | refine br_ifn (fun hbr=>?_) fun hbr=>?_ | refine br_nb (fun hbr=>?_) fun hbr=>?_ | refine br_b (fun hbr=>?_) fun hbr=>?_) | simp (disch:=first | omega | (simp only [length_take,length_drop,length_append,map_cons,map_nil,length_map,length_cons,length_nil,length_set,length_replicate];omega) | (simp only [length_cons,length_nil,Nat.zero_add,Nat.reduceAdd])) only [go_sem,↓reduceIte,Nat.reduceAdd,Int.reduceNeg,Int.reduceAdd,Int.reduceSub,Int.reduceMul,Int.reduceLT,Int.reduceLE,Int.reduceEq,Int.reduceToNat,Nat.reduceBEq,nat1,h2',hol,hix,happ,fl1Tok,Int.toNat_natCast,u_impl_TokensOf_j1,u_impl_TokensOf_j5])
          all_goals first | omega | exact hfin _ hn | skip
    have hlpo : 0 < op.length:=List.length_pos_iff.2 hop
    have hixo : eIdx 1 (some (.sl 5 1 (op.map encU))) (some (.sc (.int .i64 ((op.length : Int) - 1)))) = some [.sc (.int .u8 (op.getLastD 123 : Nat))]:=by
      rw [ix_u (by omega) (by omega),show ((op.length : Int) - 1).toNat = op.length - 1 by omega,last_getN hop]
    by_cases hb3 : op.getLastD 123 = 123
    · have hok : okN op = true:=decide_eq_true hb3
      have hb3' : ((op.getLastD 123 : Nat) : Int) = 123:=by omega
      rw [hb3'] at hixo
      by_cases hou : out = []
      · have hol2 : out.length = 0:=by rw [hou];rfl
        have hn : out = nlO out op:=by unfold nlO;rw [if_neg (fun h=>by rw [hou] at h;exact absurd h.2 (by decide))]
        repeat' (first | (with_reducible first | refine jn_in ?_ | refine cl_ok (by assumption) rfl ?_ | refine cl_okP (by assumption) rfl ?_ | refine br_if (fun hbr=>?_) fun hbr=>?_ | refine br_ifn (fun hbr=>?_) fun hbr=>?_ | refine br_nb (fun hbr=>?_) fun hbr=>?_ | refine br_b (fun hbr=>?_) fun hbr=>?_) | simp (disch:=first | omega | (simp only [length_take,length_drop,length_append,map_cons,map_nil,length_map,length_cons,length_nil,length_set,length_replicate];omega) | (simp only [length_cons,length_nil,Nat.zero_add,Nat.reduceAdd])) only [go_sem,↓reduceIte,Nat.reduceAdd,Int.reduceNeg,Int.reduceAdd,Int.reduceSub,Int.reduceMul,Int.reduceLT,Int.reduceLE,Int.reduceEq,Int.reduceToNat,Nat.reduceBEq,nat1,h2',hixo,hol2,Int.toNat_natCast,u_impl_TokensOf_j1,u_impl_TokensOf_j5])
        all_goals first | omega | exact hfin _ hn | skip
      · have hlp : 0 < out.length:=List.length_pos_iff.2 hou
        have hix : eIdx 2 (some (.sl 61 2 (out.map encTok))) (some (.sc (.int .i64 ((out.length : Int) - 1)))) = some (encTok (lastT out)):=by
          rw [ix_Tok (by omega) (by omega),show ((out.length : Int) - 1).toNat = out.length - 1 by omega,last_get hou]
        cases hx : endsX (lastT out)
        · rw [hx] at hex
          have hn : out = nlO out op:=by unfold nlO;rw [if_neg (fun h=>by rw [hx] at h;cases h.2)]
          generalize lastT out = x at *
          obtain ⟨xk,xt⟩:=x
          simp only [encTok] at hex hix
          repeat' (first | (with_reducible first | refine jn_in ?_ | refine cl_ok (by assumption) rfl ?_ | refine cl_okP (by assumption) rfl ?_ | refine br_if (fun hbr=>?_) fun hbr=>?_ | refine br_ifn (fun hbr=>?_) fun hbr=>?_ | refine br_nb (fun hbr=>?_) fun hbr=>?_ | refine br_b (fun hbr=>?_) fun hbr=>?_) | simp (disch:=first | omega | (simp only [length_take,length_drop,length_append,map_cons,map_nil,length_map,length_cons,length_nil,length_set,length_replicate];omega) | (simp only [length_cons,length_nil,Nat.zero_add,Nat.reduceAdd])) only [go_sem,↓reduceIte,Nat.reduceAdd,Int.reduceNeg,Int.reduceAdd,Int.reduceSub,Int.reduceMul,Int.reduceLT,Int.reduceLE,Int.reduceEq,Int.reduceToNat,Nat.reduceBEq,nat1,h2',hixo,hix,Int.toNat_natCast,u_impl_TokensOf_j1,u_impl_TokensOf_j5])
          all_goals first | omega | exact hfin _ hn | skip
        · rw [hx] at hex
          have hn : out ++ [semiT] = nlO out op:=by unfold nlO;rw [if_pos ⟨hok,hx⟩]
          generalize lastT out = x at *
          obtain ⟨xk,xt⟩:=x
          simp only [encTok] at hex hix
          repeat' (first | (with_reducible first | refine jn_in ?_ | refine cl_ok (by assumption) rfl ?_ | refine cl_okP (by assumption) rfl ?_ | refine br_if (fun hbr=>?_) fun hbr=>?_ | refine br_ifn (fun hbr=>?_) fun hbr=>?_ | refine br_nb (fun hbr=>?_) fun hbr=>?_ | refine br_b (fun hbr=>?_) fun hbr=>?_) | simp (disch:=first | omega | (simp only [length_take,length_drop,length_append,map_cons,map_nil,length_map,length_cons,length_nil,length_set,length_replicate];omega) | (simp only [length_cons,length_nil,Nat.zero_add,Nat.reduceAdd])) only [go_sem,↓reduceIte,Nat.reduceAdd,Int.reduceNeg,Int.reduceAdd,Int.reduceSub,Int.reduceMul,Int.reduceLT,Int.reduceLE,Int.reduceEq,Int.reduceToNat,Nat.reduceBEq,nat1,h2',hixo,hix,happ,fl1Tok,Int.toNat_natCast,u_impl_TokensOf_j1,u_impl_TokensOf_j5])
          all_goals first | omega | exact hfin _ hn | skip
    have hok : okN op = false:=decide_eq_false hb3
    have hb3' : ¬ ((op.getLastD 123 : Nat) : Int) = 123:=by omega
    have hn : out = nlO out op:=by unfold nlO;rw [if_neg (fun h=>by rw [hok] at h;cases h.1)]
    repeat' (first | (with_reducible first | refine jn_in ?_ | refine cl_ok (by assumption) rfl ?_ | refine cl_okP (by assumption) rfl ?_ | refine br_if (fun hbr=>?_) fun hbr=>?_ | refine br_ifn (fun hbr=>?_) fun hbr=>?_ | refine br_nb (fun hbr=>?_) fun hbr=>?_ | refine br_b (fun hbr=>?_) fun hbr=>?_) | simp (disch:=first | omega | (simp only [length_take,length_drop,length_append,map_cons,map_nil,length_map,length_cons,length_nil,length_set,length_replicate];omega) | (simp only [length_cons,length_nil,Nat.zero_add,Nat.reduceAdd])) only [go_sem,↓reduceIte,Nat.reduceAdd,Int.reduceNeg,Int.reduceAdd,Int.reduceSub,Int.reduceMul,Int.reduceLT,Int.reduceLE,Int.reduceEq,Int.reduceToNat,Nat.reduceBEq,nat1,h2',hixo,hb3',Int.toNat_natCast,u_impl_TokensOf_j1,u_impl_TokensOf_j5])
    all_goals first | omega | contradiction | exact hfin _ hn | skip
  | bad h1 h2 h3 =>
    obtain ⟨n1,n2,n3,n4⟩:=h2
    have d1 : ¬ (byteAt s i : Int) = 32:=by omega
    have d2 : ¬ (byteAt s i : Int) = 9:=by omega
    have d3 : ¬ (byteAt s i : Int) = 35:=by omega
    have d4 : ¬ (byteAt s i : Int) = 10:=by omega
    have hn:=nextI_m s i h1 (by omega)
    rw [h3] at hn
    simp only [nxI,encTok] at hn
    repeat' (first | (with_reducible first | refine jn_in ?_ | refine cl_ok (by assumption) rfl ?_ | refine cl_okP (by assumption) rfl ?_ | refine br_if (fun hbr=>?_) fun hbr=>?_ | refine br_ifn (fun hbr=>?_) fun hbr=>?_ | refine br_nb (fun hbr=>?_) fun hbr=>?_ | refine br_b (fun hbr=>?_) fun hbr=>?_) | simp (disch:=first | omega | (simp only [length_take,length_drop,length_append,map_cons,map_nil,length_map,length_cons,length_nil,length_set,length_replicate];omega) | (simp only [length_cons,length_nil,Nat.zero_add,Nat.reduceAdd])) only [go_sem,↓reduceIte,Nat.reduceAdd,Int.reduceNeg,Int.reduceAdd,Int.reduceSub,Int.reduceMul,Int.reduceLT,Int.reduceLE,Int.reduceEq,Int.reduceToNat,Nat.reduceBEq,nat1,d1,d2,d3,d4,Int.toNat_natCast,u_impl_TokensOf_j5])
    all_goals first | omega | contradiction | rfl | skip
  | @tok _ _ _ k e _ h1 h2 h3 h4 =>
    obtain ⟨n1,n2,n3,n4⟩:=h2
    have d1 : ¬ (byteAt s i : Int) = 32:=by omega
    have d2 : ¬ (byteAt s i : Int) = 9:=by omega
    have d3 : ¬ (byteAt s i : Int) = 35:=by omega
    have d4 : ¬ (byteAt s i : Int) = 10:=by omega
    have hn:=nextI_m s i h1 (by omega)
    obtain ⟨g1,g2,g3⟩:=nxt_gt h1 (by omega) h3
    rw [h3] at hn
    have hol:=opN_len k op
    have hfin : ∀ (o2 : List Tok) (p2 : List Nat),o2 = out ++ [k]→p2 = opN k op→∃ a' : Nat × List Tok × List Nat,[DV.sc (.int .i64 ((e : Nat) : Int)),.sl 5 1 (p2.map encU),.sl 5 1 (([] : List Nat).map encU),.sl 61 2 (o2.map encTok)] = [.sc (.int .i64 (a'.1 : Nat)),.sl 5 1 (a'.2.2.map encU),.sl 5 1 (([] : List Nat).map encU),.sl 61 2 (a'.2.1.map encTok)]∧(a'.1≤s.size∧Runs s a'.1 a'.2.1 a'.2.2 R∧a'.2.1.length≤a'.1∧a'.2.2.length≤a'.1)∧s.size - a'.1 < s.size - i :=
      fun o2 p2 e1 e2=>⟨(e,o2,p2),rfl,⟨by simp only;omega,by rw [e1,e2];exact h4,by simp only;rw [e1,List.length_append,List.length_singleton];omega,by simp only;rw [e2];omega⟩,by simp only;omega⟩
    obtain ⟨kd,tx⟩:=k
    have htok:=map_tok out kd tx
    have happ : eApp 61 2 24 (some (.sl 61 2 (out.map encTok))) (some (.sl 61 2 [[.sc (.int .i64 kd),.sc (.string tx)]])) = some [.sl 61 2 ((out ++ [(⟨kd,tx⟩ : Tok)]).map encTok)]:=by
      rw [e_app (by simp;omega) (by decide),htok]
    have apo : ∀ a : Nat,eApp 5 1 1 (some (.sl 5 1 (op.map encU))) (some (.sl 5 1 [[.sc (.int .u8 (a : Int))]])) = some [.sl 5 1 ((op ++ [a]).map encU)]:=fun a=>e_appm (m:=[a]) (by omega) (by show 1≤100000000000;omega) (by decide)
    simp only [nxI,encTok] at hn
    by_cases hk : kd = 5
    rotate_left
    · have hop : op = opN ⟨kd,tx⟩ op:=by unfold opN;rw [if_neg hk]
      repeat' (first | (with_reducible first | refine jn_in ?_ | refine cl_ok (by assumption) rfl ?_ | refine cl_okP (by assumption) rfl ?_ | refine br_if (fun hbr=>?_) fun hbr=>?_ | refine br_ifn (fun hbr=>?_) fun hbr=>?_ | refine br_nb (fun hbr=>?_) fun hbr=>?_ | refine br_b (fun hbr=>?_) fun hbr=>?_) | simp (disch:=first | omega | (simp only [length_take,length_drop,length_append,map_cons,map_nil,length_map,length_cons,length_nil,length_set,length_replicate];omega) | (simp only [length_cons,length_nil,Nat.zero_add,Nat.reduceAdd])) only [go_sem,↓reduceIte,Nat.reduceAdd,Int.reduceNeg,Int.reduceAdd,Int.reduceSub,Int.reduceMul,Int.reduceLT,Int.reduceLE,Int.reduceEq,Int.reduceToNat,Nat.reduceBEq,nat1,d1,d2,d3,d4,happ,fl1Tok,Int.toNat_natCast,u_impl_TokensOf_j4,u_impl_TokensOf_j5])
      all_goals first | omega | contradiction | exact hfin _ _ rfl hop | skip
    subst hk
    by_cases t40 : tx = ⟨#[40]⟩
    · have hop : op ++ [40] = opN ⟨5,tx⟩ op:=by unfold opN;rw [if_pos rfl,if_pos (by simp [t40]),t40];rfl
      have m91 : ¬ tx = ⟨#[91]⟩:=by rw [t40];decide
      have m123 : ¬ tx = ⟨#[123]⟩:=by rw [t40];decide
      have hch : eChr (some (.sc (.string tx))) (some (.sc (.int .i64 0))) = some [.sc (.int .u8 40)]:=by rw [t40];rfl
      have ap1 : eApp 5 1 1 (some (.sl 5 1 (op.map encU))) (some (.sl 5 1 [[.sc (.int .u8 40)]])) = some [.sl 5 1 ((op ++ [40]).map encU)]:=apo 40
      repeat' (first | (with_reducible first | refine jn_in ?_ | refine cl_ok (by assumption) rfl ?_ | refine cl_okP (by assumption) rfl ?_ | refine br_if (fun hbr=>?_) fun hbr=>?_ | refine br_ifn (fun hbr=>?_) fun hbr=>?_ | refine br_nb (fun hbr=>?_) fun hbr=>?_ | refine br_b (fun hbr=>?_) fun hbr=>?_) | simp (disch:=first | omega | (simp only [length_take,length_drop,length_append,map_cons,map_nil,length_map,length_cons,length_nil,length_set,length_replicate];omega) | (simp only [length_cons,length_nil,Nat.zero_add,Nat.reduceAdd])) only [go_sem,↓reduceIte,Nat.reduceAdd,Int.reduceNeg,Int.reduceAdd,Int.reduceSub,Int.reduceMul,Int.reduceLT,Int.reduceLE,Int.reduceEq,Int.reduceToNat,Nat.reduceBEq,nat1,d1,d2,d3,d4,happ,fl1Tok,hch,ap1,fl1_z,Int.toNat_natCast,u_impl_TokensOf_j3,u_impl_TokensOf_j4,u_impl_TokensOf_j5])
      all_goals first | omega | contradiction | exact hfin _ _ rfl hop | skip
    by_cases t91 : tx = ⟨#[91]⟩
    · have hop : op ++ [91] = opN ⟨5,tx⟩ op:=by unfold opN;rw [if_pos rfl,if_pos (by simp [t91]),t91];rfl
      have m40 : ¬ tx = ⟨#[40]⟩:=by rw [t91];decide
      have m123 : ¬ tx = ⟨#[123]⟩:=by rw [t91];decide
      have hch : eChr (some (.sc (.string tx))) (some (.sc (.int .i64 0))) = some [.sc (.int .u8 91)]:=by rw [t91];rfl
      have ap1 : eApp 5 1 1 (some (.sl 5 1 (op.map encU))) (some (.sl 5 1 [[.sc (.int .u8 91)]])) = some [.sl 5 1 ((op ++ [91]).map encU)]:=apo 91
      repeat' (first | (with_reducible first | refine jn_in ?_ | refine cl_ok (by assumption) rfl ?_ | refine cl_okP (by assumption) rfl ?_ | refine br_if (fun hbr=>?_) fun hbr=>?_ | refine br_ifn (fun hbr=>?_) fun hbr=>?_ | refine br_nb (fun hbr=>?_) fun hbr=>?_ | refine br_b (fun hbr=>?_) fun hbr=>?_) | simp (disch:=first | omega | (simp only [length_take,length_drop,length_append,map_cons,map_nil,length_map,length_cons,length_nil,length_set,length_replicate];omega) | (simp only [length_cons,length_nil,Nat.zero_add,Nat.reduceAdd])) only [go_sem,↓reduceIte,Nat.reduceAdd,Int.reduceNeg,Int.reduceAdd,Int.reduceSub,Int.reduceMul,Int.reduceLT,Int.reduceLE,Int.reduceEq,Int.reduceToNat,Nat.reduceBEq,nat1,d1,d2,d3,d4,happ,fl1Tok,hch,ap1,fl1_z,Int.toNat_natCast,u_impl_TokensOf_j3,u_impl_TokensOf_j4,u_impl_TokensOf_j5])
      all_goals first | omega | contradiction | exact hfin _ _ rfl hop | skip
    by_cases t123 : tx = ⟨#[123]⟩
    · have hop : op ++ [123] = opN ⟨5,tx⟩ op:=by unfold opN;rw [if_pos rfl,if_pos (by simp [t123]),t123];rfl
      have m40 : ¬ tx = ⟨#[40]⟩:=by rw [t123];decide
      have m91 : ¬ tx = ⟨#[91]⟩:=by rw [t123];decide
      have hch : eChr (some (.sc (.string tx))) (some (.sc (.int .i64 0))) = some [.sc (.int .u8 123)]:=by rw [t123];rfl
      have ap1 : eApp 5 1 1 (some (.sl 5 1 (op.map encU))) (some (.sl 5 1 [[.sc (.int .u8 123)]])) = some [.sl 5 1 ((op ++ [123]).map encU)]:=apo 123
      repeat' (first | (with_reducible first | refine jn_in ?_ | refine cl_ok (by assumption) rfl ?_ | refine cl_okP (by assumption) rfl ?_ | refine br_if (fun hbr=>?_) fun hbr=>?_ | refine br_ifn (fun hbr=>?_) fun hbr=>?_ | refine br_nb (fun hbr=>?_) fun hbr=>?_ | refine br_b (fun hbr=>?_) fun hbr=>?_) | simp (disch:=first | omega | (simp only [length_take,length_drop,length_append,map_cons,map_nil,length_map,length_cons,length_nil,length_set,length_replicate];omega) | (simp only [length_cons,length_nil,Nat.zero_add,Nat.reduceAdd])) only [go_sem,↓reduceIte,Nat.reduceAdd,Int.reduceNeg,Int.reduceAdd,Int.reduceSub,Int.reduceMul,Int.reduceLT,Int.reduceLE,Int.reduceEq,Int.reduceToNat,Nat.reduceBEq,nat1,d1,d2,d3,d4,happ,fl1Tok,hch,ap1,fl1_z,Int.toNat_natCast,u_impl_TokensOf_j3,u_impl_TokensOf_j4,u_impl_TokensOf_j5])
      all_goals first | omega | contradiction | exact hfin _ _ rfl hop | skip
    have nopen : ¬ (tx = ⟨#[40]⟩ ∨ tx = ⟨#[91]⟩ ∨ tx = ⟨#[123]⟩):=by simp [t40,t91,t123]
    by_cases tc : tx = ⟨#[41]⟩ ∨ tx = ⟨#[93]⟩ ∨ tx = ⟨#[125]⟩
    · have hop : op.take (op.length - 1) = opN ⟨5,tx⟩ op:=by unfold opN;rw [if_pos rfl,if_neg nopen,if_pos tc]
      have hcon : ¬ tx = ⟨#[41]⟩→¬ tx = ⟨#[93]⟩→¬ tx = ⟨#[125]⟩→False:=fun a b c=>by rcases tc with h | h | h <;> contradiction
      have ttn : ((op.length : Int) - 1).toNat = op.length - 1:=by omega
      by_cases hpz : op = []
      · have hpl : op.length = 0:=by rw [hpz];rfl
        have hop2 : op = opN ⟨5,tx⟩ op:=by rw [← hop,hpl,hpz];rfl
        repeat' (first | (with_reducible first | refine jn_in ?_ | refine cl_ok (by assumption) rfl ?_ | refine cl_okP (by assumption) rfl ?_ | refine br_if (fun hbr=>?_) fun hbr=>?_ | refine br_ifn (fun hbr=>?_) fun hbr=>?_ | refine br_nb (fun hbr=>?_) fun hbr=>?_ | refine br_b (fun hbr=>?_) fun hbr=>?_) | simp (disch:=first | omega | (simp only [length_take,length_drop,length_append,map_cons,map_nil,length_map,length_cons,length_nil,length_set,length_replicate];omega) | (simp only [length_cons,length_nil,Nat.zero_add,Nat.reduceAdd])) only [go_sem,↓reduceIte,Nat.reduceAdd,Int.reduceNeg,Int.reduceAdd,Int.reduceSub,Int.reduceMul,Int.reduceLT,Int.reduceLE,Int.reduceEq,Int.reduceToNat,Nat.reduceBEq,nat1,d1,d2,d3,d4,happ,fl1Tok,hpl,Int.toNat_natCast,u_impl_TokensOf_j2,u_impl_TokensOf_j3,u_impl_TokensOf_j4,u_impl_TokensOf_j5])
        all_goals first | omega | contradiction | exact hfin _ _ rfl hop2 | (exfalso;exact hcon ‹_› ‹_› ‹_›) | skip
      · have hpl : 0 < op.length:=List.length_pos_iff.2 hpz
        repeat' (first | (with_reducible first | refine jn_in ?_ | refine cl_ok (by assumption) rfl ?_ | refine cl_okP (by assumption) rfl ?_ | refine br_if (fun hbr=>?_) fun hbr=>?_ | refine br_ifn (fun hbr=>?_) fun hbr=>?_ | refine br_nb (fun hbr=>?_) fun hbr=>?_ | refine br_b (fun hbr=>?_) fun hbr=>?_) | simp (disch:=first | omega | (simp only [length_take,length_drop,length_append,map_cons,map_nil,length_map,length_cons,length_nil,length_set,length_replicate];omega) | (simp only [length_cons,length_nil,Nat.zero_add,Nat.reduceAdd])) only [go_sem,↓reduceIte,Nat.reduceAdd,Int.reduceNeg,Int.reduceAdd,Int.reduceSub,Int.reduceMul,Int.reduceLT,Int.reduceLE,Int.reduceEq,Int.reduceToNat,Nat.reduceBEq,nat1,d1,d2,d3,d4,happ,fl1Tok,ttn,Int.toNat_natCast,u_impl_TokensOf_j2,u_impl_TokensOf_j3,u_impl_TokensOf_j4,u_impl_TokensOf_j5])
        all_goals first | omega | contradiction | exact hfin _ _ rfl hop | (exfalso;exact hcon ‹_› ‹_› ‹_›) | skip
    · have hop : op = opN ⟨5,tx⟩ op:=by unfold opN;rw [if_pos rfl,if_neg nopen,if_neg tc]
      have c1 : ¬ tx = ⟨#[41]⟩:=fun h=>tc (.inl h)
      have c2 : ¬ tx = ⟨#[93]⟩:=fun h=>tc (.inr (.inl h))
      have c3 : ¬ tx = ⟨#[125]⟩:=fun h=>tc (.inr (.inr h))
      repeat' (first | (with_reducible first | refine jn_in ?_ | refine cl_ok (by assumption) rfl ?_ | refine cl_okP (by assumption) rfl ?_ | refine br_if (fun hbr=>?_) fun hbr=>?_ | refine br_ifn (fun hbr=>?_) fun hbr=>?_ | refine br_nb (fun hbr=>?_) fun hbr=>?_ | refine br_b (fun hbr=>?_) fun hbr=>?_) | simp (disch:=first | omega | (simp only [length_take,length_drop,length_append,map_cons,map_nil,length_map,length_cons,length_nil,length_set,length_replicate];omega) | (simp only [length_cons,length_nil,Nat.zero_add,Nat.reduceAdd])) only [go_sem,↓reduceIte,Nat.reduceAdd,Int.reduceNeg,Int.reduceAdd,Int.reduceSub,Int.reduceMul,Int.reduceLT,Int.reduceLE,Int.reduceEq,Int.reduceToNat,Nat.reduceBEq,nat1,d1,d2,d3,d4,happ,fl1Tok,Int.toNat_natCast,u_impl_TokensOf_j2,u_impl_TokensOf_j3,u_impl_TokensOf_j4,u_impl_TokensOf_j5])
      all_goals first | omega | contradiction | exact hfin _ _ rfl hop | skip
theorem implTksB_m (s : ByteArray) (hs : ¬ s.size≤600) : Meets Try.prog 14 [(false,[.sc (.string s)])] [(false,[encToks []],true),(false,[.sc (.int .i64 600)],true)]:=by
  refine meets_upf Try.func14 u_impl_TokensOf_g rfl ?_;simp only [u_impl_TokensOf_u]
  simp only [encToks]
  simp (disch:=first | omega | (simp only [length_take,length_drop,length_append,map_cons,map_nil,length_map,length_cons,length_nil,length_set,length_replicate];omega) | (simp only [length_cons,length_nil,Nat.zero_add,Nat.reduceAdd])) only [go_sem,↓reduceIte,Nat.reduceAdd,Int.reduceNeg,Int.reduceAdd,Int.reduceSub,Int.reduceMul,Int.reduceLT,Int.reduceLE,Int.reduceEq,Int.reduceToNat,Nat.reduceBEq,nat1,true_and]
  refine br_if (fun hbr=>?_) (fun hbr=>?_)
  rotate_left
  · omega
  repeat' (first | (with_reducible first | refine jn_in ?_ | refine cl_ok (by assumption) rfl ?_ | refine cl_okP (by assumption) rfl ?_ | refine br_if (fun hbr=>?_) fun hbr=>?_ | refine br_ifn (fun hbr=>?_) fun hbr=>?_ | refine br_nb (fun hbr=>?_) fun hbr=>?_ | refine br_b (fun hbr=>?_) fun hbr=>?_) | simp (disch:=first | omega | (simp only [length_take,length_drop,length_append,map_cons,map_nil,length_map,length_cons,length_nil,length_set,length_replicate];omega) | (simp only [length_cons,length_nil,Nat.zero_add,Nat.reduceAdd])) only [go_sem,↓reduceIte,Nat.reduceAdd,Int.reduceNeg,Int.reduceAdd,Int.reduceSub,Int.reduceMul,Int.reduceLT,Int.reduceLE,Int.reduceEq,Int.reduceToNat,Nat.reduceBEq,nat1,true_and])
  all_goals first | omega | rfl
end Go.Proofs.Ytgmpajfhjnojiaa

namespace Go.Proofs.Ytgmpajfhjnojiaa
open List (length_take length_drop length_append map_cons map_nil length_map length_cons length_nil length_set length_replicate)
open Go.RowKit
set_option maxRecDepth 100000
theorem ofN_emp {op : List Nat} : ofN op = ⟨#[]⟩ ↔ op = []:=by
  refine ⟨fun h=>?_,fun h=>by rw [h];rfl⟩
  have:=congrArg ByteArray.size h
  rw [ofN_size] at this
  exact List.length_eq_zero_iff.1 this
theorem opN_lt {k : Tok} {op : List Nat} (h : ∀ x ∈ op,x < 256) : ∀ x ∈ opN k op,x < 256:=by
  intro x hx
  unfold opN at hx
  split at hx
  · split at hx
    · rcases List.mem_append.1 hx with hx | hx
      · exact h x hx
      · rw [List.mem_singleton.1 hx];exact byteAt_lt _ _
    · split at hx
      · exact h x (List.mem_of_mem_take hx)
      · exact h x hx
  · exact h x hx
theorem ofN_last {op : List Nat} (h : op ≠ []) (hb : ∀ x ∈ op,x < 256) : byteAt (ofN op) (op.length - 1) = op.getLastD 123:=by
  have e:=last_getN h
  have e2 : op.getD (op.length - 1) 0 = op.getLastD 123:=by
    rw [← e,List.getD_eq_getElem?_getD,List.getD_eq_getElem?_getD,List.getElem?_eq_getElem (by have:=List.length_pos_iff.2 h;omega)];rfl
  rw [byteAt_ofN (by rw [e2,← e];exact hb _ (getD_mem (by have:=List.length_pos_iff.2 h;omega))),e2]
theorem ofN_take (op : List Nat) (n : Nat) : (ofN op).extract 0 n = ofN (op.take n):=by
  apply ByteArray.ext
  apply Array.ext'
  rw [ofN_data,List.map_take,← ofN_data]
  simp
set_option maxHeartbeats 16000000 in
theorem specTks_m (s : ByteArray) (hs : s.size≤600) (R : List Tok × Int) (hR : Runs s 0 [] [] R) : Meets Try.prog 13 [(false,[.sc (.string s)])] [(false,[encToks R.1],true),(false,[.sc (.int .i64 R.2)],true)]:=by
  refine meets_upf Try.func13 u_spec_TokensOf_g rfl ?_;simp only [u_spec_TokensOf_u]
  simp only [encToks]
  simp (disch:=first | omega | (simp only [length_take,length_drop,length_append,map_cons,map_nil,length_map,length_cons,length_nil,length_set,length_replicate];omega) | (simp only [length_cons,length_nil,Nat.zero_add,Nat.reduceAdd])) only [go_sem,↓reduceIte,Nat.reduceAdd,Int.reduceNeg,Int.reduceAdd,Int.reduceSub,Int.reduceMul,Int.reduceLT,Int.reduceLE,Int.reduceEq,Int.reduceToNat,Nat.reduceBEq,nat1,true_and]
  refine br_if (fun hbr=>?_) (fun hbr=>?_)
  · omega
  simp (disch:=first | omega | (simp only [length_take,length_drop,length_append,map_cons,map_nil,length_map,length_cons,length_nil,length_set,length_replicate];omega) | (simp only [length_cons,length_nil,Nat.zero_add,Nat.reduceAdd])) only [go_sem,↓reduceIte,Nat.reduceAdd,Int.reduceNeg,Int.reduceAdd,Int.reduceSub,Int.reduceMul,Int.reduceLT,Int.reduceLE,Int.reduceEq,Int.reduceToNat,Nat.reduceBEq,nat1,true_and]
  refine lp (fun a : Nat × List Tok × List Nat=>[DV.sc (.int .i64 ((a.1 : Nat) : Int)),.sc (.string (ofN (a.2.2))),.sl 61 2 ((a.2.1).map encTok),.sc (.int .i64 (lastT (a.2.1)).kind),.sc (.string (lastT (a.2.1)).text)]) (fun a=>a.1≤s.size∧Runs s a.1 a.2.1 a.2.2 R∧a.2.1.length≤a.1∧a.2.2.length≤a.1∧∀ x ∈ a.2.2,x < 256) (fun a=>s.size - a.1) (0,[],[]) rfl ⟨Nat.zero_le _,hR,Nat.le_refl _,Nat.le_refl _,by simp⟩ ?_
  rintro ⟨i,out,op⟩ ⟨hi,hr,ho,hp,h256⟩
  simp only at hi hr ho hp h256 ⊢
  simp only [u_spec_TokensOf_l4]
  have hb:=byteAt_lt s i
  have hol0:=ofN_size op
  cases hr with
  | done h =>
    obtain rfl : i = s.size:=by omega
    repeat' (first | (with_reducible first | refine jn_in ?_ | refine cl_ok (by assumption) rfl ?_ | refine cl_okP (by assumption) rfl ?_ | refine br_if (fun hbr=>?_) fun hbr=>?_ | refine br_ifn (fun hbr=>?_) fun hbr=>?_ | refine br_nb (fun hbr=>?_) fun hbr=>?_ | refine br_b (fun hbr=>?_) fun hbr=>?_) | simp (disch:=first | omega | (simp only [length_take,length_drop,length_append,map_cons,map_nil,length_map,length_cons,length_nil,length_set,length_replicate];omega) | (simp only [length_cons,length_nil,Nat.zero_add,Nat.reduceAdd])) only [go_sem,↓reduceIte,Nat.reduceAdd,Int.reduceNeg,Int.reduceAdd,Int.reduceSub,Int.reduceMul,Int.reduceLT,Int.reduceLE,Int.reduceEq,Int.reduceToNat,Nat.reduceBEq,nat1,true_and])
    all_goals first | omega | rfl | skip
  | sp h1 h2 h3 =>
    have hfin : ∃ a' : Nat × List Tok × List Nat,[DV.sc (.int .i64 ((i + 1 : Nat) : Int)),.sc (.string (ofN (op))),.sl 61 2 ((out).map encTok),.sc (.int .i64 (lastT (out)).kind),.sc (.string (lastT (out)).text)] = [DV.sc (.int .i64 ((a'.1 : Nat) : Int)),.sc (.string (ofN (a'.2.2))),.sl 61 2 ((a'.2.1).map encTok),.sc (.int .i64 (lastT (a'.2.1)).kind),.sc (.string (lastT (a'.2.1)).text)]∧(a'.1≤s.size∧Runs s a'.1 a'.2.1 a'.2.2 R∧a'.2.1.length≤a'.1∧a'.2.2.length≤a'.1∧∀ x ∈ a'.2.2,x < 256)∧s.size - a'.1 < s.size - i:=⟨(i + 1,out,op),rfl,⟨by simp only;omega,h3,by simp only;omega,by simp only;omega,h256⟩,by simp only;omega⟩
    rcases h2 with h2 | h2
    · have h2' : (byteAt s i : Int) = 32:=by omega
      repeat' (first | (with_reducible first | refine jn_in ?_ | refine cl_ok (by assumption) rfl ?_ | refine cl_okP (by assumption) rfl ?_ | refine br_if (fun hbr=>?_) fun hbr=>?_ | refine br_ifn (fun hbr=>?_) fun hbr=>?_ | refine br_nb (fun hbr=>?_) fun hbr=>?_ | refine br_b (fun hbr=>?_) fun hbr=>?_) | simp (disch:=first | omega | (simp only [length_take,length_drop,length_append,map_cons,map_nil,length_map,length_cons,length_nil,length_set,length_replicate];omega) | (simp only [length_cons,length_nil,Nat.zero_add,Nat.reduceAdd])) only [go_sem,↓reduceIte,Nat.reduceAdd,Int.reduceNeg,Int.reduceAdd,Int.reduceSub,Int.reduceMul,Int.reduceLT,Int.reduceLE,Int.reduceEq,Int.reduceToNat,Nat.reduceBEq,nat1,h2',Int.toNat_natCast,u_spec_TokensOf_j3])
      all_goals first | omega | exact hfin | skip
    · have h2' : (byteAt s i : Int) = 9:=by omega
      repeat' (first | (with_reducible first | refine jn_in ?_ | refine cl_ok (by assumption) rfl ?_ | refine cl_okP (by assumption) rfl ?_ | refine br_if (fun hbr=>?_) fun hbr=>?_ | refine br_ifn (fun hbr=>?_) fun hbr=>?_ | refine br_nb (fun hbr=>?_) fun hbr=>?_ | refine br_b (fun hbr=>?_) fun hbr=>?_) | simp (disch:=first | omega | (simp only [length_take,length_drop,length_append,map_cons,map_nil,length_map,length_cons,length_nil,length_set,length_replicate];omega) | (simp only [length_cons,length_nil,Nat.zero_add,Nat.reduceAdd])) only [go_sem,↓reduceIte,Nat.reduceAdd,Int.reduceNeg,Int.reduceAdd,Int.reduceSub,Int.reduceMul,Int.reduceLT,Int.reduceLE,Int.reduceEq,Int.reduceToNat,Nat.reduceBEq,nat1,h2',Int.toNat_natCast,u_spec_TokensOf_j3])
      all_goals first | omega | exact hfin | skip
  | com h1 h2 h3 =>
    have h2' : (byteAt s i : Int) = 35:=by omega
    have q1:=endP_t (p:=pC s) (n:=s.size) h1 (by unfold pC;rw [h2];rfl)
    have q2:=endP_le (p:=pC s) (n:=s.size) (i:=i + 1) (by omega)
    generalize hE : endP (pC s) s.size i = e at *
    have hfin : ∃ a' : Nat × List Tok × List Nat,[DV.sc (.int .i64 ((e : Nat) : Int)),.sc (.string (ofN (op))),.sl 61 2 ((out).map encTok),.sc (.int .i64 (lastT (out)).kind),.sc (.string (lastT (out)).text)] = [DV.sc (.int .i64 ((a'.1 : Nat) : Int)),.sc (.string (ofN (a'.2.2))),.sl 61 2 ((a'.2.1).map encTok),.sc (.int .i64 (lastT (a'.2.1)).kind),.sc (.string (lastT (a'.2.1)).text)]∧(a'.1≤s.size∧Runs s a'.1 a'.2.1 a'.2.2 R∧a'.2.1.length≤a'.1∧a'.2.2.length≤a'.1∧∀ x ∈ a'.2.2,x < 256)∧s.size - a'.1 < s.size - i:=⟨(e,out,op),rfl,⟨by simp only;omega,h3,by simp only;omega,by simp only;omega,h256⟩,by simp only;omega⟩
    repeat' (first | (with_reducible first | refine jn_in ?_ | refine cl_ok (by assumption) rfl ?_ | refine cl_okP (by assumption) rfl ?_ | refine br_if (fun hbr=>?_) fun hbr=>?_ | refine br_ifn (fun hbr=>?_) fun hbr=>?_ | refine br_nb (fun hbr=>?_) fun hbr=>?_ | refine br_b (fun hbr=>?_) fun hbr=>?_) | simp (disch:=first | omega | (simp only [length_take,length_drop,length_append,map_cons,map_nil,length_map,length_cons,length_nil,length_set,length_replicate];omega) | (simp only [length_cons,length_nil,Nat.zero_add,Nat.reduceAdd])) only [go_sem,↓reduceIte,Nat.reduceAdd,Int.reduceNeg,Int.reduceAdd,Int.reduceSub,Int.reduceMul,Int.reduceLT,Int.reduceLE,Int.reduceEq,Int.reduceToNat,Nat.reduceBEq,nat1,h2',Int.toNat_natCast,u_spec_TokensOf_j3])
    rotate_left
    · omega
    refine lp (fun k : Nat=>[.sc (.int .i64 k)]) (fun k=>k≤s.size∧endP (pC s) s.size k = e) (fun k=>s.size - k) i rfl ⟨by omega,hE⟩ ?_
    rintro k ⟨hk,he⟩
    simp only [u_spec_TokensOf_l0]
    by_cases hlt : k < s.size
    · by_cases hk10 : byteAt s k = 10
      · have hk10' : (byteAt s k : Int) = 10:=by omega
        have:=endP_f (p:=pC s) (n:=s.size) (i:=k) (by unfold pC;rw [decide_eq_true hk10];rfl)
        obtain rfl : k = e:=by omega
        repeat' (first | (with_reducible first | refine jn_in ?_ | refine cl_ok (by assumption) rfl ?_ | refine cl_okP (by assumption) rfl ?_ | refine br_if (fun hbr=>?_) fun hbr=>?_ | refine br_ifn (fun hbr=>?_) fun hbr=>?_ | refine br_nb (fun hbr=>?_) fun hbr=>?_ | refine br_b (fun hbr=>?_) fun hbr=>?_) | simp (disch:=first | omega | (simp only [length_take,length_drop,length_append,map_cons,map_nil,length_map,length_cons,length_nil,length_set,length_replicate];omega) | (simp only [length_cons,length_nil,Nat.zero_add,Nat.reduceAdd])) only [go_sem,↓reduceIte,Nat.reduceAdd,Int.reduceNeg,Int.reduceAdd,Int.reduceSub,Int.reduceMul,Int.reduceLT,Int.reduceLE,Int.reduceEq,Int.reduceToNat,Nat.reduceBEq,nat1,hk10',Int.toNat_natCast,u_spec_TokensOf_j3])
        all_goals first | omega | exact hfin | skip
      · have:=endP_t (p:=pC s) (n:=s.size) hlt (by unfold pC;rw [decide_eq_false hk10];rfl)
        have d10 : ¬ (byteAt s k : Int) = 10:=by omega
        repeat' (first | (with_reducible first | refine jn_in ?_ | refine cl_ok (by assumption) rfl ?_ | refine cl_okP (by assumption) rfl ?_ | refine br_if (fun hbr=>?_) fun hbr=>?_ | refine br_ifn (fun hbr=>?_) fun hbr=>?_ | refine br_nb (fun hbr=>?_) fun hbr=>?_ | refine br_b (fun hbr=>?_) fun hbr=>?_) | simp (disch:=first | omega | (simp only [length_take,length_drop,length_append,map_cons,map_nil,length_map,length_cons,length_nil,length_set,length_replicate];omega) | (simp only [length_cons,length_nil,Nat.zero_add,Nat.reduceAdd])) only [go_sem,↓reduceIte,Nat.reduceAdd,Int.reduceNeg,Int.reduceAdd,Int.reduceSub,Int.reduceMul,Int.reduceLT,Int.reduceLE,Int.reduceEq,Int.reduceToNat,Nat.reduceBEq,nat1,d10,Int.toNat_natCast,u_spec_TokensOf_j3])
        all_goals first | omega | contradiction | exact ⟨k + 1,rfl,⟨by omega,by omega⟩,by omega⟩ | skip
    · have:=endP_o (p:=pC s) (n:=s.size) (i:=k) (by omega)
      obtain rfl : k = e:=by omega
      repeat' (first | (with_reducible first | refine jn_in ?_ | refine cl_ok (by assumption) rfl ?_ | refine cl_okP (by assumption) rfl ?_ | refine br_if (fun hbr=>?_) fun hbr=>?_ | refine br_ifn (fun hbr=>?_) fun hbr=>?_ | refine br_nb (fun hbr=>?_) fun hbr=>?_ | refine br_b (fun hbr=>?_) fun hbr=>?_) | simp (disch:=first | omega | (simp only [length_take,length_drop,length_append,map_cons,map_nil,length_map,length_cons,length_nil,length_set,length_replicate];omega) | (simp only [length_cons,length_nil,Nat.zero_add,Nat.reduceAdd])) only [go_sem,↓reduceIte,Nat.reduceAdd,Int.reduceNeg,Int.reduceAdd,Int.reduceSub,Int.reduceMul,Int.reduceLT,Int.reduceLE,Int.reduceEq,Int.reduceToNat,Nat.reduceBEq,nat1,Int.toNat_natCast,u_spec_TokensOf_j3])
      all_goals first | omega | exact hfin | skip
  | nl h1 h2 h3 =>
    have h2' : (byteAt s i : Int) = 10:=by omega
    have hnl:=nlO_len out op
    have hfin : ∀ o2 : List Tok,o2 = nlO out op→∃ a' : Nat × List Tok × List Nat,[DV.sc (.int .i64 ((i + 1 : Nat) : Int)),.sc (.string (ofN (op))),.sl 61 2 ((o2).map encTok),.sc (.int .i64 (lastT (o2)).kind),.sc (.string (lastT (o2)).text)] = [DV.sc (.int .i64 ((a'.1 : Nat) : Int)),.sc (.string (ofN (a'.2.2))),.sl 61 2 ((a'.2.1).map encTok),.sc (.int .i64 (lastT (a'.2.1)).kind),.sc (.string (lastT (a'.2.1)).text)]∧(a'.1≤s.size∧Runs s a'.1 a'.2.1 a'.2.2 R∧a'.2.1.length≤a'.1∧a'.2.2.length≤a'.1∧∀ x ∈ a'.2.2,x < 256)∧s.size - a'.1 < s.size - i:=fun o2 e=>⟨(i + 1,o2,op),rfl,⟨by simp only;omega,by rw [e];exact h3,by simp only;rw [e];omega,by simp only;omega,h256⟩,by simp only;omega⟩
    have hfin2:=hfin (out ++ [semiT])
    rw [lastT_app] at hfin2
    have htok:=map_tok out 6 ⟨#[59]⟩
    have happ : eApp 61 2 24 (some (.sl 61 2 (out.map encTok))) (some (.sl 61 2 [[.sc (.int .i64 6),.sc (.string ⟨#[59]⟩)]])) = some [.sl 61 2 ((out ++ [semiT]).map encTok)]:=by
      rw [e_app (by simp;omega) (by decide),htok];rfl
    have hex:=l15Open_m (lastT out)
    simp only [encTok] at hex
    cases hx : endsX (lastT out)
    · rw [hx] at hex
      have hn : out = nlO out op:=by unfold nlO;rw [if_neg (fun h=>by rw [hx] at h;cases h.2)]
      have hf:=hfin out hn
      simp only [Bool.not_false] at hex
      repeat' (first | (with_reducible first | refine jn_in ?_ | refine cl_ok (by assumption) rfl ?_ | refine cl_okP (by assumption) rfl ?_ | refine br_if (fun hbr=>?_) fun hbr=>?_ | refine br_ifn (fun hbr=>?_) fun hbr=>?_ | refine br_nb (fun hbr=>?_) fun hbr=>?_ | refine br_b (fun hbr=>?_) fun hbr=>?_) | simp (disch:=first | omega | (simp only [length_take,length_drop,length_append,map_cons,map_nil,length_map,length_cons,length_nil,length_set,length_replicate];omega) | (simp only [length_cons,length_nil,Nat.zero_add,Nat.reduceAdd])) only [go_sem,↓reduceIte,Nat.reduceAdd,Int.reduceNeg,Int.reduceAdd,Int.reduceSub,Int.reduceMul,Int.reduceLT,Int.reduceLE,Int.reduceEq,Int.reduceToNat,Nat.reduceBEq,nat1,h2',Int.toNat_natCast,u_spec_TokensOf_j3])
      all_goals first | omega | exact hf | skip
    rw [hx] at hex
    simp only [Bool.not_true] at hex
    by_cases hop : op = []
    · have hok : okN op = true:=by rw [hop];rfl
      have hof : ofN op = ⟨#[]⟩:=ofN_emp.2 hop
      have hn : out ++ [semiT] = nlO out op:=by unfold nlO;rw [if_pos ⟨hok,hx⟩]
      have hf:=hfin2 hn
      repeat' (first | (with_reducible first | refine jn_in ?_ | refine cl_ok (by assumption) rfl ?_ | refine cl_okP (by assumption) rfl ?_ | refine br_if (fun hbr=>?_) fun hbr=>?_ | refine br_ifn (fun hbr=>?_) fun hbr=>?_ | refine br_nb (fun hbr=>?_) fun hbr=>?_ | refine br_b (fun hbr=>?_) fun hbr=>?_) | simp (disch:=first | omega | (simp only [length_take,length_drop,length_append,map_cons,map_nil,length_map,length_cons,length_nil,length_set,length_replicate];omega) | (simp only [length_cons,length_nil,Nat.zero_add,Nat.reduceAdd])) only [go_sem,↓reduceIte,Nat.reduceAdd,Int.reduceNeg,Int.reduceAdd,Int.reduceSub,Int.reduceMul,Int.reduceLT,Int.reduceLE,Int.reduceEq,Int.reduceToNat,Nat.reduceBEq,nat1,h2',happ,fl1Tok,Int.toNat_natCast,u_spec_TokensOf_j3])
      all_goals first | omega | exact hf | exact absurd hof ‹_› | skip
    have hof : ¬ ofN op = ⟨#[]⟩:=fun h=>hop (ofN_emp.1 h)
    have hlpo : 0 < op.length:=List.length_pos_iff.2 hop
    have hixo : eChr (some (.sc (.string (ofN op)))) (some (.sc (.int .i64 (((ofN op).size : Int) - 1)))) = some [.sc (.int .u8 (op.getLastD 123 : Nat))]:=by
      rw [hol0,e_chr' (by omega) (by rw [hol0];omega),show ((op.length : Int) - 1).toNat = op.length - 1 by omega,ofN_last hop h256]
    by_cases hb3 : op.getLastD 123 = 123
    · have hok : okN op = true:=decide_eq_true hb3
      have hb3' : ((op.getLastD 123 : Nat) : Int) = 123:=by omega
      rw [hb3'] at hixo
      have hn : out ++ [semiT] = nlO out op:=by unfold nlO;rw [if_pos ⟨hok,hx⟩]
      have hf:=hfin2 hn
      repeat' (first | (with_reducible first | refine jn_in ?_ | refine cl_ok (by assumption) rfl ?_ | refine cl_okP (by assumption) rfl ?_ | refine br_if (fun hbr=>?_) fun hbr=>?_ | refine br_ifn (fun hbr=>?_) fun hbr=>?_ | refine br_nb (fun hbr=>?_) fun hbr=>?_ | refine br_b (fun hbr=>?_) fun hbr=>?_) | simp (disch:=first | omega | (simp only [length_take,length_drop,length_append,map_cons,map_nil,length_map,length_cons,length_nil,length_set,length_replicate];omega) | (simp only [length_cons,length_nil,Nat.zero_add,Nat.reduceAdd])) only [go_sem,↓reduceIte,Nat.reduceAdd,Int.reduceNeg,Int.reduceAdd,Int.reduceSub,Int.reduceMul,Int.reduceLT,Int.reduceLE,Int.reduceEq,Int.reduceToNat,Nat.reduceBEq,nat1,h2',hixo,happ,fl1Tok,Int.toNat_natCast,u_spec_TokensOf_j3])
      all_goals first | omega | contradiction | exact hf | skip
    · have hok : okN op = false:=decide_eq_false hb3
      have hb3' : ¬ ((op.getLastD 123 : Nat) : Int) = 123:=by omega
      have hn : out = nlO out op:=by unfold nlO;rw [if_neg (fun h=>by rw [hok] at h;cases h.1)]
      have hf:=hfin out hn
      repeat' (first | (with_reducible first | refine jn_in ?_ | refine cl_ok (by assumption) rfl ?_ | refine cl_okP (by assumption) rfl ?_ | refine br_if (fun hbr=>?_) fun hbr=>?_ | refine br_ifn (fun hbr=>?_) fun hbr=>?_ | refine br_nb (fun hbr=>?_) fun hbr=>?_ | refine br_b (fun hbr=>?_) fun hbr=>?_) | simp (disch:=first | omega | (simp only [length_take,length_drop,length_append,map_cons,map_nil,length_map,length_cons,length_nil,length_set,length_replicate];omega) | (simp only [length_cons,length_nil,Nat.zero_add,Nat.reduceAdd])) only [go_sem,↓reduceIte,Nat.reduceAdd,Int.reduceNeg,Int.reduceAdd,Int.reduceSub,Int.reduceMul,Int.reduceLT,Int.reduceLE,Int.reduceEq,Int.reduceToNat,Nat.reduceBEq,nat1,h2',hixo,hb3',Int.toNat_natCast,u_spec_TokensOf_j3])
      all_goals first | omega | contradiction | exact hf | skip
  | bad h1 h2 h3 =>
    obtain ⟨n1,n2,n3,n4⟩:=h2
    have d1 : ¬ (byteAt s i : Int) = 32:=by omega
    have d2 : ¬ (byteAt s i : Int) = 9:=by omega
    have d3 : ¬ (byteAt s i : Int) = 35:=by omega
    have d4 : ¬ (byteAt s i : Int) = 10:=by omega
    have hn:=nextS_m s i h1 (by omega)
    rw [h3] at hn
    simp only [nxS,encTok] at hn
    repeat' (first | (with_reducible first | refine jn_in ?_ | refine cl_ok (by assumption) rfl ?_ | refine cl_okP (by assumption) rfl ?_ | refine br_if (fun hbr=>?_) fun hbr=>?_ | refine br_ifn (fun hbr=>?_) fun hbr=>?_ | refine br_nb (fun hbr=>?_) fun hbr=>?_ | refine br_b (fun hbr=>?_) fun hbr=>?_) | simp (disch:=first | omega | (simp only [length_take,length_drop,length_append,map_cons,map_nil,length_map,length_cons,length_nil,length_set,length_replicate];omega) | (simp only [length_cons,length_nil,Nat.zero_add,Nat.reduceAdd])) only [go_sem,↓reduceIte,Nat.reduceAdd,Int.reduceNeg,Int.reduceAdd,Int.reduceSub,Int.reduceMul,Int.reduceLT,Int.reduceLE,Int.reduceEq,Int.reduceToNat,Nat.reduceBEq,nat1,d1,d2,d3,d4,Int.toNat_natCast,u_spec_TokensOf_j3])
    all_goals first | omega | contradiction | rfl | skip
  | @tok _ _ _ k e _ h1 h2 h3 h4 =>
    obtain ⟨n1,n2,n3,n4⟩:=h2
    have d1 : ¬ (byteAt s i : Int) = 32:=by omega
    have d2 : ¬ (byteAt s i : Int) = 9:=by omega
    have d3 : ¬ (byteAt s i : Int) = 35:=by omega
    have d4 : ¬ (byteAt s i : Int) = 10:=by omega
    have hn:=nextS_m s i h1 (by omega)
    obtain ⟨g1,g2,g3⟩:=nxt_gt h1 (by omega) h3
    rw [h3] at hn
    have hol:=opN_len k op
    have h256':=opN_lt (k:=k) h256
    obtain ⟨kd,tx⟩:=k
    simp only at g3
    have hfin : ∀ p2 : List Nat,p2 = opN ⟨kd,tx⟩ op→∃ a' : Nat × List Tok × List Nat,[DV.sc (.int .i64 ((e : Nat) : Int)),.sc (.string (ofN (p2))),.sl 61 2 ((out ++ [(⟨kd,tx⟩ : Tok)]).map encTok),.sc (.int .i64 kd),.sc (.string tx)] = [DV.sc (.int .i64 ((a'.1 : Nat) : Int)),.sc (.string (ofN (a'.2.2))),.sl 61 2 ((a'.2.1).map encTok),.sc (.int .i64 (lastT (a'.2.1)).kind),.sc (.string (lastT (a'.2.1)).text)]∧(a'.1≤s.size∧Runs s a'.1 a'.2.1 a'.2.2 R∧a'.2.1.length≤a'.1∧a'.2.2.length≤a'.1∧∀ x ∈ a'.2.2,x < 256)∧s.size - a'.1 < s.size - i:=fun p2 e2=>⟨(e,out ++ [⟨kd,tx⟩],p2),by rw [lastT_app],⟨by simp only;omega,by rw [e2];exact h4,by simp only;rw [List.length_append,List.length_singleton];omega,by simp only;rw [e2];omega,by rw [e2];exact h256'⟩,by simp only;omega⟩
    have htok:=map_tok out kd tx
    have happ : eApp 61 2 24 (some (.sl 61 2 (out.map encTok))) (some (.sl 61 2 [[.sc (.int .i64 kd),.sc (.string tx)]])) = some [.sl 61 2 ((out ++ [(⟨kd,tx⟩ : Tok)]).map encTok)]:=by
      rw [e_app (by simp;omega) (by decide),htok]
    have hH1:=l1Has_m 9 [⟨#[40]⟩,⟨#[91]⟩,⟨#[123]⟩] tx (by decide)
    have hb1 : hasB [⟨#[40]⟩,⟨#[91]⟩,⟨#[123]⟩] tx = decide (tx = ⟨#[40]⟩ ∨ tx = ⟨#[91]⟩ ∨ tx = ⟨#[123]⟩):=by
      rw [Bool.eq_iff_iff,hasB_iff,decide_eq_true_eq];simp
    rw [hb1] at hH1
    have hH2:=l1Has_m 9 [⟨#[41]⟩,⟨#[93]⟩,⟨#[125]⟩] tx (by decide)
    have hb2 : hasB [⟨#[41]⟩,⟨#[93]⟩,⟨#[125]⟩] tx = decide (tx = ⟨#[41]⟩ ∨ tx = ⟨#[93]⟩ ∨ tx = ⟨#[125]⟩):=by
      rw [Bool.eq_iff_iff,hasB_iff,decide_eq_true_eq];simp
    rw [hb2] at hH2
    simp only [List.map_cons,List.map_nil,encS] at hH1 hH2
    have hnz : ¬ ((e : Int) - (i : Int) = 0):=by omega
    have hie : (i : Int) + ((e : Int) - (i : Int)) = (e : Int):=by omega
    simp only [nxS,encTok] at hn
    by_cases hk : kd = 5
    rotate_left
    · have hop : op = opN ⟨kd,tx⟩ op:=by unfold opN;rw [if_neg hk]
      have hf:=hfin op hop
      repeat' (first | (with_reducible first | refine jn_in ?_ | refine cl_ok (by assumption) rfl ?_ | refine cl_okP (by assumption) rfl ?_ | refine br_if (fun hbr=>?_) fun hbr=>?_ | refine br_ifn (fun hbr=>?_) fun hbr=>?_ | refine br_nb (fun hbr=>?_) fun hbr=>?_ | refine br_b (fun hbr=>?_) fun hbr=>?_) | simp (disch:=first | omega | (simp only [length_take,length_drop,length_append,map_cons,map_nil,length_map,length_cons,length_nil,length_set,length_replicate];omega) | (simp only [length_cons,length_nil,Nat.zero_add,Nat.reduceAdd])) only [go_sem,↓reduceIte,Nat.reduceAdd,Int.reduceNeg,Int.reduceAdd,Int.reduceSub,Int.reduceMul,Int.reduceLT,Int.reduceLE,Int.reduceEq,Int.reduceToNat,Nat.reduceBEq,nat1,d1,d2,d3,d4,hnz,hie,happ,fl1Tok,Int.toNat_natCast,u_spec_TokensOf_j1,u_spec_TokensOf_j2,u_spec_TokensOf_j3])
      all_goals first | omega | contradiction | exact hf | skip
    subst hk
    by_cases topen : tx = ⟨#[40]⟩ ∨ tx = ⟨#[91]⟩ ∨ tx = ⟨#[123]⟩
    · have hop : op ++ [byteAt tx 0] = opN ⟨5,tx⟩ op:=by unfold opN;rw [if_pos rfl,if_pos topen]
      have hf:=hfin _ hop
      have htx : tx = ofN [byteAt tx 0]:=by rcases topen with h | h | h <;> rw [h] <;> rfl
      have hcat : eBin .add false (some (.sc (.string (ofN op)))) (some (.sc (.string tx))) = some [.sc (.string (ofN (op ++ [byteAt tx 0])))]:=by
        have:=@e_catN false op tx (by omega)
        rw [this]
        congr 3
        conv=>lhs;rw [htx]
        exact congrArg Value.string (app_ofN op _)
      rw [decide_eq_true topen] at hH1
      repeat' (first | (with_reducible first | refine jn_in ?_ | refine cl_ok (by assumption) rfl ?_ | refine cl_okP (by assumption) rfl ?_ | refine br_if (fun hbr=>?_) fun hbr=>?_ | refine br_ifn (fun hbr=>?_) fun hbr=>?_ | refine br_nb (fun hbr=>?_) fun hbr=>?_ | refine br_b (fun hbr=>?_) fun hbr=>?_) | simp (disch:=first | omega | (simp only [length_take,length_drop,length_append,map_cons,map_nil,length_map,length_cons,length_nil,length_set,length_replicate];omega) | (simp only [length_cons,length_nil,Nat.zero_add,Nat.reduceAdd])) only [go_sem,↓reduceIte,Nat.reduceAdd,Int.reduceNeg,Int.reduceAdd,Int.reduceSub,Int.reduceMul,Int.reduceLT,Int.reduceLE,Int.reduceEq,Int.reduceToNat,Nat.reduceBEq,nat1,d1,d2,d3,d4,hnz,hie,happ,fl1Tok,hcat,Int.toNat_natCast,u_spec_TokensOf_j1,u_spec_TokensOf_j2,u_spec_TokensOf_j3])
      all_goals first | omega | contradiction | exact hf | skip
    rw [decide_eq_false topen] at hH1
    by_cases tc : tx = ⟨#[41]⟩ ∨ tx = ⟨#[93]⟩ ∨ tx = ⟨#[125]⟩
    · have hop : op.take (op.length - 1) = opN ⟨5,tx⟩ op:=by unfold opN;rw [if_pos rfl,if_neg topen,if_pos tc]
      rw [decide_eq_true tc] at hH2
      by_cases hpz : op = []
      · have hof : ofN op = ⟨#[]⟩:=ofN_emp.2 hpz
        have hop2 : op = opN ⟨5,tx⟩ op:=by rw [← hop,hpz];rfl
        have hf:=hfin _ hop2
        repeat' (first | (with_reducible first | refine jn_in ?_ | refine cl_ok (by assumption) rfl ?_ | refine cl_okP (by assumption) rfl ?_ | refine br_if (fun hbr=>?_) fun hbr=>?_ | refine br_ifn (fun hbr=>?_) fun hbr=>?_ | refine br_nb (fun hbr=>?_) fun hbr=>?_ | refine br_b (fun hbr=>?_) fun hbr=>?_) | simp (disch:=first | omega | (simp only [length_take,length_drop,length_append,map_cons,map_nil,length_map,length_cons,length_nil,length_set,length_replicate];omega) | (simp only [length_cons,length_nil,Nat.zero_add,Nat.reduceAdd])) only [go_sem,↓reduceIte,Nat.reduceAdd,Int.reduceNeg,Int.reduceAdd,Int.reduceSub,Int.reduceMul,Int.reduceLT,Int.reduceLE,Int.reduceEq,Int.reduceToNat,Nat.reduceBEq,nat1,d1,d2,d3,d4,hnz,hie,happ,fl1Tok,Int.toNat_natCast,u_spec_TokensOf_j1,u_spec_TokensOf_j2,u_spec_TokensOf_j3])
        all_goals first | omega | contradiction | exact hf | skip
      · have hof : ¬ ofN op = ⟨#[]⟩:=fun h=>hpz (ofN_emp.1 h)
        have hpl : 0 < op.length:=List.length_pos_iff.2 hpz
        have hf:=hfin _ hop
        have hcut : eCutS (some (.sc (.string (ofN op)))) (some none) (some (some (((ofN op).size : Int) - 1))) = some [.sc (.string (ofN (op.take (op.length - 1))))]:=by
          rw [hol0,e_cS2 (by omega) (by rw [hol0];omega),show ((op.length : Int) - 1).toNat = op.length - 1 by omega,ofN_take]
        repeat' (first | (with_reducible first | refine jn_in ?_ | refine cl_ok (by assumption) rfl ?_ | refine cl_okP (by assumption) rfl ?_ | refine br_if (fun hbr=>?_) fun hbr=>?_ | refine br_ifn (fun hbr=>?_) fun hbr=>?_ | refine br_nb (fun hbr=>?_) fun hbr=>?_ | refine br_b (fun hbr=>?_) fun hbr=>?_) | simp (disch:=first | omega | (simp only [length_take,length_drop,length_append,map_cons,map_nil,length_map,length_cons,length_nil,length_set,length_replicate];omega) | (simp only [length_cons,length_nil,Nat.zero_add,Nat.reduceAdd])) only [go_sem,↓reduceIte,Nat.reduceAdd,Int.reduceNeg,Int.reduceAdd,Int.reduceSub,Int.reduceMul,Int.reduceLT,Int.reduceLE,Int.reduceEq,Int.reduceToNat,Nat.reduceBEq,nat1,d1,d2,d3,d4,hnz,hie,happ,fl1Tok,hcut,Int.toNat_natCast,u_spec_TokensOf_j1,u_spec_TokensOf_j2,u_spec_TokensOf_j3])
        all_goals first | omega | contradiction | exact hf | skip
    · have hop : op = opN ⟨5,tx⟩ op:=by unfold opN;rw [if_pos rfl,if_neg topen,if_neg tc]
      rw [decide_eq_false tc] at hH2
      have hf:=hfin _ hop
      repeat' (first | (with_reducible first | refine jn_in ?_ | refine cl_ok (by assumption) rfl ?_ | refine cl_okP (by assumption) rfl ?_ | refine br_if (fun hbr=>?_) fun hbr=>?_ | refine br_ifn (fun hbr=>?_) fun hbr=>?_ | refine br_nb (fun hbr=>?_) fun hbr=>?_ | refine br_b (fun hbr=>?_) fun hbr=>?_) | simp (disch:=first | omega | (simp only [length_take,length_drop,length_append,map_cons,map_nil,length_map,length_cons,length_nil,length_set,length_replicate];omega) | (simp only [length_cons,length_nil,Nat.zero_add,Nat.reduceAdd])) only [go_sem,↓reduceIte,Nat.reduceAdd,Int.reduceNeg,Int.reduceAdd,Int.reduceSub,Int.reduceMul,Int.reduceLT,Int.reduceLE,Int.reduceEq,Int.reduceToNat,Nat.reduceBEq,nat1,d1,d2,d3,d4,hnz,hie,happ,fl1Tok,Int.toNat_natCast,u_spec_TokensOf_j1,u_spec_TokensOf_j2,u_spec_TokensOf_j3])
      all_goals first | omega | contradiction | exact hf | skip
theorem specTksB_m (s : ByteArray) (hs : ¬ s.size≤600) : Meets Try.prog 13 [(false,[.sc (.string s)])] [(false,[encToks []],true),(false,[.sc (.int .i64 600)],true)]:=by
  refine meets_upf Try.func13 u_spec_TokensOf_g rfl ?_;simp only [u_spec_TokensOf_u]
  simp only [encToks]
  simp (disch:=first | omega | (simp only [length_take,length_drop,length_append,map_cons,map_nil,length_map,length_cons,length_nil,length_set,length_replicate];omega) | (simp only [length_cons,length_nil,Nat.zero_add,Nat.reduceAdd])) only [go_sem,↓reduceIte,Nat.reduceAdd,Int.reduceNeg,Int.reduceAdd,Int.reduceSub,Int.reduceMul,Int.reduceLT,Int.reduceLE,Int.reduceEq,Int.reduceToNat,Nat.reduceBEq,nat1,true_and]
  refine br_if (fun hbr=>?_) (fun hbr=>?_)
  rotate_left
  · omega
  repeat' (first | (with_reducible first | refine jn_in ?_ | refine cl_ok (by assumption) rfl ?_ | refine cl_okP (by assumption) rfl ?_ | refine br_if (fun hbr=>?_) fun hbr=>?_ | refine br_ifn (fun hbr=>?_) fun hbr=>?_ | refine br_nb (fun hbr=>?_) fun hbr=>?_ | refine br_b (fun hbr=>?_) fun hbr=>?_) | simp (disch:=first | omega | (simp only [length_take,length_drop,length_append,map_cons,map_nil,length_map,length_cons,length_nil,length_set,length_replicate];omega) | (simp only [length_cons,length_nil,Nat.zero_add,Nat.reduceAdd])) only [go_sem,↓reduceIte,Nat.reduceAdd,Int.reduceNeg,Int.reduceAdd,Int.reduceSub,Int.reduceMul,Int.reduceLT,Int.reduceLE,Int.reduceEq,Int.reduceToNat,Nat.reduceBEq,nat1,true_and])
  all_goals first | omega | rfl
end Go.Proofs.Ytgmpajfhjnojiaa

namespace Go.Proofs.Ytgmpajfhjnojiaa
open Go.RowKit
set_option maxRecDepth 100000
def u_laws_heldTokenS_h : List Hint:=[⟨3000002,2,⟨[(5,.p false [.d 4]),(4,.p false [.d 2]),(0,.p false [.d 0]),(1,.p false [.d 5])],[],0,0,6,[]⟩,[]⟩]
def u_laws_heldTokenS_d : List (Nat × Nat × Bool × List Nat):=[(7,8,false,[])]
def u_laws_heldTokenS_l0 : UP:=.po (.lenL 5) <| .po (.bin .lss false 2 0) <| .ite 0 (.po (.isI 3) <| .po (.idx 2 7 3) <| .po (.bin .neq false 1 4) <| .ite 0 (.po (.k (.int .i64 (-1))) <| .po (.sc 0) <| .ret [(false,[0])]) <| .po (.k (.int .i64 1)) <| .po (.bin .add false 6 0) <| .po (.isI 8) <| .po (.idx 2 12 8) <| .po (.sc 0) <| .sel [0,2,10] <| .cl 46 [(false,[1])] [(false,[none],true)] <| .po (.bin .neq false 1 0) <| .po (.sc 0) <| .ite 0 (.po (.k (.int .i64 (-1))) <| .po (.sc 0) <| .ret [(false,[0])]) <| .po (.k (.int .i64 1)) <| .po (.bin .add false 4 0) <| .po (.k (.int .i64 1)) <| .po (.bin .add false 7 0) <| .jump 0 [0,2]) <| .po (.sc 2) <| .ret [(false,[2])]
def u_laws_heldTokenS_u : UP:=.po (.k (.int .i64 0)) <| .po (.k (.int .i64 0)) <| .loop [0,2] u_laws_heldTokenS_l0
theorem u_laws_heldTokenS_g : toUPf Try.prog 17 Try.f17 owA u_laws_heldTokenS_h u_laws_heldTokenS_d = some ([(false,1),(false,1)],u_laws_heldTokenS_u):=by kernel_rfl
end Go.Proofs.Ytgmpajfhjnojiaa

namespace Go.Proofs.Ytgmpajfhjnojiaa
open Go.RowKit
set_option maxRecDepth 100000
def u_laws_markText_h : List Hint:=[⟨3000004,2,⟨[(3,.p false [.d 5]),(5,.p false [.d 3]),(2,.p false [.d 1]),(0,.p false [.d 6])],[],0,0,7,[(3,false)]⟩,[]⟩]
def u_laws_markText_d : List (Nat × Nat × Bool × List Nat):=[]
def u_laws_markText_l0 : UP:=.po (.k (.int .i64 0)) <| .po (.bin .gtr false 1 0) <| .ite 0 (.po (.k (.int .i64 10)) <| .po (.bin .rem false 3 0) <| .po (.k (.int .i64 48)) <| .po (.bin .add false 0 1) <| .po (.cvI .u8 0) <| .po (.sc 0) <| .po (.mk 5 1 [[0]]) <| .po (.cvB 0) <| .po (.bin .add false 0 10) <| .po (.k (.int .i64 10)) <| .po (.bin .quo false 11 0) <| .jump 0 [2,0]) <| .po (.k (.string ⟨#[109]⟩)) <| .po (.bin .add false 0 4) <| .po (.sc 0) <| .ret [(false,[0])]
def u_laws_markText_u : UP:=.po (.k (.string ⟨#[]⟩)) <| .po (.k (.int .i64 0)) <| .po (.bin .leq false 2 0) <| .ite 0 (.po (.k (.string ⟨#[109,48]⟩)) <| .po (.sc 0) <| .ret [(false,[0])]) <| .po (.k (.string ⟨#[]⟩)) <| .loop [0,4] u_laws_markText_l0
theorem u_laws_markText_g : toUPf Try.prog 46 Try.f46 owA u_laws_markText_h u_laws_markText_d = some ([(false,1)],u_laws_markText_u):=by kernel_rfl
end Go.Proofs.Ytgmpajfhjnojiaa

namespace Go.Proofs.Ytgmpajfhjnojiaa
open List (length_take length_drop length_append map_cons map_nil length_map length_cons length_nil length_set length_replicate)
open Go.RowKit
set_option maxRecDepth 100000
def markT (k : Nat) : ByteArray:=ofN (109 :: dgs k)
theorem markText_m (k : Nat) (h0 : 0 < k) (h1 : k≤4611686018427387904) : Meets Try.prog 46 [(false,[.sc (.int .i64 k)])] [(false,[.sc (.string (markT k))],true)]:=by
  have hlen:=dgs_len19 (m:=k) (by omega)
  refine meets_upf Try.func46 u_laws_markText_g rfl ?_;simp only [u_laws_markText_u]
  simp (disch:=first | omega | (simp only [length_take,length_drop,length_append,map_cons,map_nil,length_map,length_cons,length_nil,length_set,length_replicate];omega) | (simp only [length_cons,length_nil,Nat.zero_add,Nat.reduceAdd])) only [go_sem,↓reduceIte,Nat.reduceAdd,Int.reduceNeg,Int.reduceAdd,Int.reduceSub,Int.reduceMul,Int.reduceLT,Int.reduceLE,Int.reduceEq,Int.reduceToNat,Nat.reduceBEq,nat1,true_and]
  refine br_if (fun h=>absurd h (by omega)) (fun h=>?_)
  simp (disch:=first | omega | (simp only [length_take,length_drop,length_append,map_cons,map_nil,length_map,length_cons,length_nil,length_set,length_replicate];omega) | (simp only [length_cons,length_nil,Nat.zero_add,Nat.reduceAdd])) only [go_sem,↓reduceIte,Nat.reduceAdd,Int.reduceNeg,Int.reduceAdd,Int.reduceSub,Int.reduceMul,Int.reduceLT,Int.reduceLE,Int.reduceEq,Int.reduceToNat,Nat.reduceBEq,nat1,true_and]
  refine lp (fun s : Nat × List Nat=>[.sc (.string (ofN s.2)),.sc (.int .i64 (s.1 : Nat))]) (fun s=>s.1≤k∧dgs s.1 ++ s.2 = dgs k) (fun s=>s.1) (k,[]) rfl ⟨Nat.le_refl _,by simp⟩ ?_
  rintro ⟨x,acc⟩ ⟨g1,g2⟩
  simp only at g1 g2 ⊢
  simp only [u_laws_markText_l0]
  have hal : acc.length≤19:=by have:=congrArg List.length g2;rw [List.length_append] at this;omega
  by_cases hx : x = 0
  · subst hx
    rw [dgs_zero,List.nil_append] at g2
    have e1 : (⟨#[109]⟩ : ByteArray).size + (ofN acc).size≤maxLen:=by
      have e : (⟨#[109]⟩ : ByteArray).size = 1:=rfl
      rw [ofN_size];unfold maxLen;omega
    repeat' (first | (with_reducible first | refine jn_in ?_ | refine cl_ok (by assumption) rfl ?_ | refine cl_okP (by assumption) rfl ?_ | refine br_if (fun hbr=>?_) fun hbr=>?_ | refine br_ifn (fun hbr=>?_) fun hbr=>?_ | refine br_nb (fun hbr=>?_) fun hbr=>?_ | refine br_b (fun hbr=>?_) fun hbr=>?_) | simp (disch:=first | omega | (simp only [length_take,length_drop,length_append,map_cons,map_nil,length_map,length_cons,length_nil,length_set,length_replicate];omega) | (simp only [length_cons,length_nil,Nat.zero_add,Nat.reduceAdd])) only [go_sem,↓reduceIte,Nat.reduceAdd,Int.reduceNeg,Int.reduceAdd,Int.reduceSub,Int.reduceMul,Int.reduceLT,Int.reduceLE,Int.reduceEq,Int.reduceToNat,Nat.reduceBEq,nat1,e_cat e1])
    refine ret_s ?_
    unfold markT;rw [g2];exact ofN_app [109] _
  · have hd:=dgs_pos hx
    have d1 : (x : Int).tmod 10 = ((x % 10 : Nat) : Int):=rfl
    have d2 : (x : Int).tdiv 10 = ((x / 10 : Nat) : Int):=rfl
    have d3 : (48 : Int) + ((x % 10 : Nat) : Int) = ((48 + x % 10 : Nat) : Int):=rfl
    have d4 : IntKind.u8.wrap ((48 + x % 10 : Nat) : Int) = ((48 + x % 10 : Nat) : Int):=wrap8 (by omega) (by omega)
    have d5 : eCvB (some (.sl 5 1 [[.sc (.int .u8 ((48 + x % 10 : Nat) : Int))]])) = some [.sc (.string (ofN [48 + x % 10]))]:=cvB_u (l:=[48 + x % 10])
    have e1 : (ofN [48 + x % 10]).size + (ofN acc).size≤maxLen:=by rw [ofN_size,ofN_size];unfold maxLen;simp;omega
    have happ : ofN [48 + x % 10] ++ ofN acc = ofN ((48 + x % 10) :: acc):=(ofN_app [48 + x % 10] acc).symm
    repeat' (first | (with_reducible first | refine jn_in ?_ | refine cl_ok (by assumption) rfl ?_ | refine cl_okP (by assumption) rfl ?_ | refine br_if (fun hbr=>?_) fun hbr=>?_ | refine br_ifn (fun hbr=>?_) fun hbr=>?_ | refine br_nb (fun hbr=>?_) fun hbr=>?_ | refine br_b (fun hbr=>?_) fun hbr=>?_) | simp (disch:=first | omega | (simp only [length_take,length_drop,length_append,map_cons,map_nil,length_map,length_cons,length_nil,length_set,length_replicate];omega) | (simp only [length_cons,length_nil,Nat.zero_add,Nat.reduceAdd])) only [go_sem,↓reduceIte,Nat.reduceAdd,Int.reduceNeg,Int.reduceAdd,Int.reduceSub,Int.reduceMul,Int.reduceLT,Int.reduceLE,Int.reduceEq,Int.reduceToNat,Nat.reduceBEq,nat1,d1,d2,d3,d4,d5,e_cat e1,happ])
    all_goals first | omega | exact ⟨(x / 10,(48 + x % 10) :: acc),rfl,⟨by simp only;omega,by rw [← g2,hd];simp⟩,by simp only;omega⟩
theorem argR_i {w : World} {B : Nat→Prop} {k : Int} : ArgR w B (.int .i64 k) (false,[.sc (.int .i64 k)]):=.sc trivial .nil
theorem markText_x (x : Int) (K : Nat) (w : World) (hx : x = K) (h0 : 0 < K) (h1 : K≤4611686018427387904) :
    Calls Try.prog 46 #[.int .i64 x] w fun e w'=>e = .returned (.string (markT K))∧Below w.heap.size w w':=by
  subst hx
  exact run_law (markText_m K h0 h1) (ArgsR.cons argR_i ArgsR.nil)
theorem own_flat_nil {w : World} {base : Nat} {vals : List Value} {ds : List DV} {g : List Nat} (h : OwnL w base vals ds g) (hf : Flat ds) : g = []:=by
  induction h with
  | nil=>rfl
  | sc _ _ ih=>exact ih (fun d hd=>hf d (List.mem_cons_of_mem _ hd))
  | sl=>obtain ⟨v,hv⟩:=hf _ (List.mem_cons_self ..);cases hv
theorem wrote_grown {w w' : World} {v : Value} (h : w.grownBy w' v.ownBlock) : Wrote w w' ([v.ownBlock.toList] : List (List Nat)).flatten :=
  ⟨h.os,h.tape,h.output,h.size,fun b hb hn=>h.block b hb (fun e=>hn (by simp [← e]))⟩
end Go.Proofs.Ytgmpajfhjnojiaa

namespace Go.Proofs.Ytgmpajfhjnojiaa
open Go.RowKit
set_option maxRecDepth 100000
theorem marks_step {α β : Type} (f : α→β) (g : Nat→α) (l : List α) (k : Nat) (h : k < l.length) : (((List.range k).map g ++ l.drop k).map f).set k (f (g k)) = ((List.range (k + 1)).map g ++ l.drop (k + 1)).map f:=by
  rw [List.map_append,List.set_append_right _ _ (by simp),List.length_map,List.length_map,List.length_range,Nat.sub_self,List.drop_eq_getElem_cons h,List.map_cons,List.set_cons_zero,List.range_succ]
  simp
theorem own_row {w : World} {base t k : Nat} {es : List (List DV)} {cells : List Value} {v : Value} {f : List Nat} (hf : es.flatten = cells.map .sc) (h : OwnL w base [v] [.sl t k es] f) : w.ownsRow base t k v es.length cells∧f = v.ownBlock.toList:=by
  cases h with
  | @sl _ _ _ _ cs g vs ds f' h1 h2 h3 h4 h5 h6 =>
    cases h5
    have hfl : Flat es.flatten:=by rw [hf];intro d hd;obtain ⟨x,_,rfl⟩:=List.mem_map.1 hd;exact ⟨x,rfl⟩
    have hg:=own_flat_nil h4 hfl
    subst hg
    have hc:=h4.rep
    rw [hf] at hc
    have : cs = cells:=by
      have key : ∀ {A : Nat→Prop} {a b : List Value},RepL w A a (b.map .sc)→a = b:=by
        intro A a b
        induction b generalizing a with
        | nil=>intro h;cases h;rfl
        | cons x b ih=>intro h;cases h with | sc _ h2=>rw [ih h2]
      exact key hc
    subst this
    exact ⟨h1,by simp⟩
theorem row_own {w : World} {base t k : Nat} {es : List (List DV)} {cells : List Value} {v : Value} (hf : es.flatten = cells.map .sc) (hs : ∀ u ∈ cells,Sc u) (hk : 0 < k) (he : ∀ e ∈ es,e.length = k) (h : w.ownsRow base t k v es.length cells) : OwnL w base [v] [.sl t k es] v.ownBlock.toList:=by
  have hf2 : OwnL w base cells es.flatten []:=by
    rw [hf]
    clear h hf
    induction cells with
    | nil=>exact .nil
    | cons x b ih=>exact .sc (hs x (List.mem_cons_self ..)) (ih fun v hv=>hs v (List.mem_cons_of_mem _ hv))
  have:=OwnL.sl (t:=t) (k:=k) (es:=es) (vs:=[]) (ds:=[]) (f:=[]) h hk he hf2 .nil (by cases v.ownBlock <;> simp)
  simpa using this
end Go.Proofs.Ytgmpajfhjnojiaa

namespace Go.Proofs.Ytgmpajfhjnojiaa
open Go.RowKit Go.ChangeShapes Go.WideShapes Go.Deep
set_option maxRecDepth 100000
structure Nod where
  kind : Int
  num : Int
  text : ByteArray
  labels : List ByteArray
  kids : Int
  deriving DecidableEq
instance : Inhabited Nod:=⟨⟨default,default,default,default,default⟩⟩
end Go.Proofs.Ytgmpajfhjnojiaa

namespace Go.Proofs.Ytgmpajfhjnojiaa
open Go.RowKit
set_option maxRecDepth 100000
def cellT (x : Tok) : List Value:=[.int .i64 x.kind,.string x.text]
def cellsT (l : List Tok) : List Value:=(l.map cellT).flatten
def mkTk (k0 j : Nat) : Tok:=⟨((k0 + 2 * j : Nat) : Int),markT (k0 + 2 * j + 1)⟩
def marksTk (k0 n : Nat) : List Tok:=(List.range n).map (mkTk k0)
def mixTk (k0 : Nat) (l : List Tok) (k : Nat) : List Tok:=(List.range k).map (mkTk k0) ++ l.drop k
theorem marksTk_len (k0 n : Nat) : (marksTk k0 n).length = n:=by simp [marksTk]
theorem mixTk_len {k0 k : Nat} {l : List Tok} (h : k≤l.length) : (mixTk k0 l k).length = l.length:=by simp [mixTk];omega
theorem cellsT_len (l : List Tok) : (cellsT l).length = l.length * 2:=by
  unfold cellsT
  rw [flat_length (k:=2) (by intro e he;obtain ⟨x,_,rfl⟩:=List.mem_map.1 he;rfl),List.length_map]
theorem set2 {α : Type} {a b : α} : ∀ {es : List (List α)} {k : Nat},(∀ e ∈ es,e.length = 2)→k < es.length→(es.flatten.set (k * 2) a).set (k * 2 + 1) b = (es.set k [a,b]).flatten
  | e :: es,0,he,h=>by
    have:=he e (List.mem_cons_self ..)
    match e,this with
    | [x,y],_=>simp
  | e :: es,k + 1,he,h=>by
    have h2:=he e (List.mem_cons_self ..)
    have ih:=set2 (a:=a) (b:=b) (es:=es) (k:=k) (fun e' h'=>he e' (List.mem_cons_of_mem _ h')) (by simpa using h)
    match e,h2 with
    | [x,y],_ =>
      rw [List.flatten_cons,List.set_cons_succ,List.flatten_cons,← ih,Nat.succ_mul]
      simp only [List.cons_append,List.nil_append,List.set_cons_succ]
theorem mixTk_step {k0 k : Nat} {l : List Tok} (h : k < l.length) : ((cellsT (mixTk k0 l k)).set (k * 2) (.int .i64 ((k0 + 2 * k : Nat) : Int))).set (k * 2 + 1) (.string (markT (k0 + 2 * k + 1))) = cellsT (mixTk k0 l (k + 1)):=by
  unfold cellsT
  rw [set2 (by intro e he;obtain ⟨x,_,rfl⟩:=List.mem_map.1 he;rfl) (by rw [List.length_map,mixTk_len (by omega)];exact h)]
  congr 1
  exact marks_step cellT (mkTk k0) l k h
def TRel (k0 n : Nat) (w : World) (base : Nat) (A : Option Addr) (c : Nat) (l : List Tok) (v1 v5 : Value) (wr : World) : Prop :=
  ∃ k : Nat,k≤n∧v5 = .int .i64 k∧v1 = .int .i64 ((k0 + 2 * k : Nat) : Int)∧wr.ownsRow base 61 2 (.slice A n c) n (cellsT (mixTk k0 l k))∧w.grownBy wr (Value.slice A n c).ownBlock
theorem markTokenS_any (A : Option Addr) (n c base k0 : Nat) (l : List Tok) (w : World) (ha : w.ownsRow base 61 2 (.slice A n c) n (cellsT l)) (hl : l.length = n) (h0 : 0 < k0) (h1 : k0 + 2 * n≤4611686018427387904) :
    Calls Try.prog 16 #[.slice A n c,.int .i64 k0] w fun e w'=>e = .returned (.int .i64 ((k0 + 2 * n : Nat) : Int))∧w'.ownsRow base 61 2 (.slice A n c) n (cellsT (marksTk k0 n))∧w.grownBy w' (Value.slice A n c).ownBlock:=by
  have HL:=Lib.hid hl;clear hl
  go_enter Try.func16,Try.ntmps16
  go_wp2
  go_loopw [1,5] (TRel k0 n w base A c l) (fun _ i _=>n - (intOf i).toNat)
  case atStart=>exact ⟨0,Nat.zero_le _,rfl,rfl,by simpa [mixTk] using ha,World.grownBy.refl w _⟩
  case round =>
    obtain ⟨k,hk,rfl,rfl,hown,hg⟩:=hrel
    by_cases hlt : k < n
    · obtain ⟨g,cap,hv,-,-⟩:=hown.form (by omega)
      injection hv with e1 e2 e3
      subst e1 e3
      have hown : wr.ownsRow base 61 2 (.slice (some ⟨g,0,none⟩) n c) n (cellsT (mixTk k0 l k)):=hown
      have hgl:=(own_blk hown rfl).2
      have hfl : (cellsT (mixTk k0 l k)).length = n * 2:=by rw [cellsT_len,mixTk_len (by rw [HL.out];omega),HL.out]
      obtain ⟨z0,c0⟩ : ∃ z,wr.cell? ⟨g,k * 2,none⟩ = some z:=⟨_,(hown.cellAt (k * 2) (by omega)).trans (List.getElem?_eq_getElem (by omega))⟩
      have f0:=hown.frozenAt (k * 2)
      have hst1:=hown.stored (k * 2) (.int .i64 ((k0 + 2 * k : Nat) : Int))
      have HS1:=Lib.hid hst1
      have HG:=Lib.hid hg
      have HM:=Lib.hid (mixTk_step (k0:=k0) (k:=k) (l:=l) (by rw [HL.out];exact hlt))
      have HF:=Lib.hid hfl
      clear hown hg ha hst1 hfl
      generalize hK : k0 + 2 * k = K at HS1 HM ⊢
      have hKb : K + 2≤4611686018427387904:=by omega
      have HKK:=Lib.hid hK;clear hK
      go_wp2_with fail
      refine (markText_x _ (K + 1) _ (by omega) (by omega) (by omega)).mono ?_
      rintro e w2 ⟨rfl,hb⟩
      have hown2:=own_below HS1.out.1 hb (Nat.le_refl _)
      have hst:=hown2.stored (k * 2 + 1) (.string (markT (K + 1)))
      obtain ⟨z1,c1⟩ : ∃ z,w2.cell? ⟨g,k * 2 + 1,none⟩ = some z:=⟨_,(hown2.cellAt (k * 2 + 1) (by omega)).trans (List.getElem?_eq_getElem (by rw [List.length_set,HF.out];omega))⟩
      have f1:=hown2.frozenAt (k * 2 + 1)
      have hz : g < w2.heap.size:=by have:=hb.size;simp at this;omega
      have hgb : (wr.setCell ⟨g,k * 2,none⟩ (.int .i64 (K : Int))).grownBy w2 (some g):=⟨hb.os,hb.tape,hb.output,hb.size,fun i hi _=>hb.block i hi⟩
      have HS:=Lib.hid hst
      have HB:=Lib.hid hgb
      clear hown2 hst hb hgb
      go_wp2
      refine ⟨⟨k + 1,hlt,rfl,by congr 1;have:=HKK.out;omega,?_,((HG.out.trans HS1.out.2).trans HB.out).trans HS.out.2⟩,by simp [intOf];omega⟩
      have:=HS.out.1
      rw [HM.out] at this
      exact this
    · go_wp2
      go_ret
      obtain rfl : k = n:=by omega
      have hown : wr.ownsRow base 61 2 (.slice A k c) k (cellsT (mixTk k0 l k)):=hown
      unfold mixTk at hown
      rw [List.drop_of_length_le (by rw [HL.out];omega),List.append_nil] at hown
      exact ⟨ret_i rfl,hown,hg⟩
theorem flatTk (l : List Tok) : (l.map encTok).flatten = (cellsT l).map .sc:=by
  induction l with
  | nil=>rfl
  | cons x l ih=>unfold cellsT at *;rw [List.map_cons,List.flatten_cons,ih,List.map_cons,List.flatten_cons,List.map_append];rfl
theorem markTokenS_k (l : List Tok) (k0 : Nat) (h0 : 0 < k0) (h1 : k0 + 2 * l.length≤4611686018427387904) : Marks Try.prog 16 false [encToks l] k0 [encToks (marksTk k0 l.length)] ((k0 + 2 * l.length : Nat) : Int):=by
  refine ⟨by kernel_rfl,fun w base v vals fs hv ho hnd=>?_⟩
  have hv : vals = [v]:=hv
  subst hv
  obtain ⟨_,_,f,_,e,rfl,o0,ho⟩:=ownP_cons ho
  injection e with e1 e2
  subst e1 e2
  obtain ⟨-,rfl⟩:=ownP_nil ho
  obtain ⟨h2,rfl⟩:=own_row (flatTk l) o0
  rw [List.length_map] at h2
  obtain ⟨A,c,rfl,-,-⟩:=own_shape h2
  refine (markTokenS_any A l.length c base k0 l w h2 rfl h0 h1).mono ?_
  rintro e w' ⟨rfl,h3,h4⟩
  refine ⟨rfl,⟨row_own (flatTk _) ?_ (by decide) ?_ (by rw [List.length_map,marksTk_len];exact h3),trivial⟩,wrote_grown h4⟩
  · intro u hu
    unfold cellsT at hu
    obtain ⟨e,he,hu⟩:=List.mem_flatten.1 hu
    obtain ⟨x,_,rfl⟩:=List.mem_map.1 he
    simp [cellT] at hu
    rcases hu with rfl | rfl <;> trivial
  · intro e he
    obtain ⟨x,_,rfl⟩:=List.mem_map.1 he
    rfl
theorem heldTokenS_m (k0 n : Nat) (h0 : 0 < k0) (h1 : k0 + 2 * n≤4611686018427387904) : Meets Try.prog 17 [(false,[encToks (marksTk k0 n)]),(false,[.sc (.int .i64 k0)])] [(false,[.sc (.int .i64 ((k0 + 2 * n : Nat) : Int))],true)]:=by
  have hl:=marksTk_len k0 n
  refine meets_upf Try.func17 u_laws_heldTokenS_g rfl ?_;simp only [u_laws_heldTokenS_u]
  simp only [encToks]
  simp (disch:=first | omega | (simp only [List.length_take,List.length_drop,List.length_append,List.map_cons,List.map_nil,List.length_map,List.length_cons,List.length_nil,List.length_set,List.length_replicate];omega) | (simp only [List.length_cons,List.length_nil,Nat.zero_add,Nat.reduceAdd])) only [go_sem,↓reduceIte,Nat.reduceAdd,Int.reduceNeg,Int.reduceAdd,Int.reduceSub,Int.reduceMul,Int.reduceLT,Int.reduceLE,Int.reduceEq,Int.reduceToNat,Nat.reduceBEq,nat1,true_and]
  refine lp_n n (fun i=>[.sc (.int .i64 i),.sc (.int .i64 ((k0 + 2 * i : Nat) : Int))]) rfl fun i hi=>?_
  simp only [u_laws_heldTokenS_l0]
  by_cases hlt : i < n
  · have hg : (marksTk k0 n).getD i default = mkTk k0 i:=by
      unfold marksTk
      rw [List.getD_eq_getElem?_getD,List.getElem?_map,List.getElem?_range hlt];rfl
    have hix : eIdx 2 (some (.sl 61 2 ((marksTk k0 n).map encTok))) (some (.sc (.int .i64 (i : Int)))) = some (encTok (mkTk k0 i)):=by rw [ix_Tok (by omega) (by omega),Int.toNat_natCast,hg]
    have hm:=markText_m (k0 + 2 * i + 1) (by omega) (by omega)
    have hk : ((k0 + 2 * i : Nat) : Int) + 1 = ((k0 + 2 * i + 1 : Nat) : Int):=by omega
    have hk2 : ((k0 + 2 * i + 1 : Nat) : Int) + 1 = ((k0 + 2 * (i + 1) : Nat) : Int):=by omega
    simp only [encTok,mkTk] at hix
    repeat' (first | (with_reducible first | refine jn_in ?_ | refine cl_ok (by assumption) rfl ?_ | refine cl_okP (by assumption) rfl ?_ | refine br_if (fun hbr=>?_) fun hbr=>?_ | refine br_ifn (fun hbr=>?_) fun hbr=>?_ | refine br_nb (fun hbr=>?_) fun hbr=>?_ | refine br_b (fun hbr=>?_) fun hbr=>?_) | simp (disch:=first | omega | (simp only [List.length_take,List.length_drop,List.length_append,List.map_cons,List.map_nil,List.length_map,List.length_cons,List.length_nil,List.length_set,List.length_replicate];omega) | (simp only [List.length_cons,List.length_nil,Nat.zero_add,Nat.reduceAdd])) only [go_sem,↓reduceIte,Nat.reduceAdd,Int.reduceNeg,Int.reduceAdd,Int.reduceSub,Int.reduceMul,Int.reduceLT,Int.reduceLE,Int.reduceEq,Int.reduceToNat,Nat.reduceBEq,nat1,hl,hix,eq_self,hk,hk2])
    all_goals first | omega | exact ⟨rfl,hlt⟩ | skip
  · obtain rfl : i = n:=by omega
    repeat' (first | (with_reducible first | refine jn_in ?_ | refine cl_ok (by assumption) rfl ?_ | refine cl_okP (by assumption) rfl ?_ | refine br_if (fun hbr=>?_) fun hbr=>?_ | refine br_ifn (fun hbr=>?_) fun hbr=>?_ | refine br_nb (fun hbr=>?_) fun hbr=>?_ | refine br_b (fun hbr=>?_) fun hbr=>?_) | simp (disch:=first | omega | (simp only [List.length_take,List.length_drop,List.length_append,List.map_cons,List.map_nil,List.length_map,List.length_cons,List.length_nil,List.length_set,List.length_replicate];omega) | (simp only [List.length_cons,List.length_nil,Nat.zero_add,Nat.reduceAdd])) only [go_sem,↓reduceIte,Nat.reduceAdd,Int.reduceNeg,Int.reduceAdd,Int.reduceSub,Int.reduceMul,Int.reduceLT,Int.reduceLE,Int.reduceEq,Int.reduceToNat,Nat.reduceBEq,nat1,hl])
    all_goals first | omega | rfl
end Go.Proofs.Ytgmpajfhjnojiaa

namespace Go.Proofs.Ytgmpajfhjnojiaa
open Go.RowKit
set_option maxRecDepth 100000
theorem runs_bd {s : ByteArray} (hs : s.size≤1000000) {i : Nat} {out : List Tok} {op : List Nat} {R : List Tok × Int} (h : Runs s i out op R) : i≤s.size→out.length≤i→(∀ x ∈ out,x.text.size≤s.size)→R.1.length≤s.size∧∀ x ∈ R.1,x.text.size≤s.size:=by
  induction h with
  | done h=>intro h1 h2 h3;exact ⟨by simp only;omega,h3⟩
  | sp h1 h2 h3 ih=>intro a b c;exact ih (by omega) (by omega) c
  | @com i out op R h1 h2 h3 ih =>
    intro a b c
    have q1:=endP_t (p:=pC s) (n:=s.size) h1 (by unfold pC;rw [h2];rfl)
    have q2:=endP_le (p:=pC s) (n:=s.size) (i:=i + 1) (by omega)
    exact ih (by omega) (by omega) c
  | @nl i out op R h1 h2 h3 ih =>
    intro a b c
    have:=nlO_len out op
    refine ih (by omega) (by omega) fun x hx=>?_
    unfold nlO at hx
    split at hx
    · rcases List.mem_append.1 hx with hx | hx
      · exact c x hx
      · rw [List.mem_singleton.1 hx];show 1≤s.size;omega
    · exact c x hx
  | bad h1 h2 h3=>intro a b c;exact ⟨Nat.zero_le _,by simp⟩
  | @tok i out op k e R h1 h2 h3 h4 ih =>
    intro a b c
    obtain ⟨g1,g2,g3⟩:=nxt_gt h1 hs h3
    refine ih (by omega) (by rw [List.length_append,List.length_singleton];omega) fun x hx=>?_
    rcases List.mem_append.1 hx with hx | hx
    · exact c x hx
    · rw [List.mem_singleton.1 hx];exact g3
theorem sumOf_bdT {α : Type} {f : α→Nat} {c : Nat} : ∀ {l : List α},(∀ y ∈ l,f y≤c)→sumOf f l≤l.length * c
  | [],_=>Nat.zero_le _
  | x :: l,h=>by
    have h1:=h x (List.mem_cons_self ..)
    have h2:=sumOf_bdT (l:=l) fun y hy=>h y (List.mem_cons_of_mem _ hy)
    rw [List.length_cons,Nat.succ_mul]
    simp only [sumOf];omega
theorem tks_ex (s : ByteArray) : ∃ R : List Tok × Int,Meets Try.prog 13 [(false,[.sc (.string s)])] [(false,[encToks R.1],true),(false,[.sc (.int .i64 R.2)],true)] ∧
    Meets Try.prog 14 [(false,[.sc (.string s)])] [(false,[encToks R.1],true),(false,[.sc (.int .i64 R.2)],true)]∧R.1.length≤600∧wtToks R.1≤1000000:=by
  by_cases hs : s.size≤600
  · obtain ⟨R,hR⟩:=runs_ex (s:=s) (by omega) s.size 0 [] [] (by omega)
    obtain ⟨b1,b2⟩:=runs_bd (by omega) hR (Nat.zero_le _) (Nat.le_refl _) (by simp)
    have b3:=sumOf_bdT (f:=wtTok) (c:=600) fun y hy=>by have:=b2 y hy;unfold wtTok;omega
    have b4 : R.1.length * 600≤600 * 600:=Nat.mul_le_mul_right _ (by omega)
    exact ⟨R,specTks_m s hs R hR,implTks_m s hs R hR,by omega,by unfold wtToks;omega⟩
  · exact ⟨([],600),specTksB_m s hs,implTksB_m s hs,by simp,by decide⟩
set_option maxHeartbeats 8000000 in
theorem lawTokensOf_m (a0 : ByteArray) (ok0 : a0.size≤9223372036854775807) :
    Meets Try.prog 4 [(false,[.sc (.string a0)])] [(false,[.sc (.bool true)],true)]:=by
  by_cases hs0 : a0.size≤1048576
  rotate_left
  · skip
    refine meets_upf Try.func4 u_laws_FnExactTokensOf_g rfl ?_;simp only [u_laws_FnExactTokensOf_u]
    repeat' (first | (with_reducible first | refine jn_in ?_ | refine cl_ok (by assumption) rfl ?_ | refine cl_okP (by assumption) rfl ?_ | refine br_if (fun hbr=>?_) fun hbr=>?_ | refine br_ifn (fun hbr=>?_) fun hbr=>?_ | refine br_nb (fun hbr=>?_) fun hbr=>?_ | refine br_b (fun hbr=>?_) fun hbr=>?_) | simp (disch:=first | omega | (simp only [List.length_take,List.length_drop,List.length_append,List.map_cons,List.map_nil,List.length_map,List.length_cons,List.length_nil,List.length_set,List.length_replicate];omega) | (simp only [List.length_cons,List.length_nil,Nat.zero_add,Nat.reduceAdd])) only [go_sem,↓reduceIte,Nat.reduceAdd,Int.reduceNeg,Int.reduceAdd,Int.reduceSub,Int.reduceMul,Int.reduceLT,Int.reduceLE,Int.reduceEq,Int.reduceToNat,Nat.reduceBEq,eq_self])
    all_goals first | rfl | omega
  obtain ⟨⟨T,z⟩,h1,h2,hb1,hb2⟩:=tks_ex a0
  simp only at h1 h2 hb1 hb2
  have hr0:=eqToks_m T (by omega)
  have hmg0 : Marks Try.prog 16 false [encToks T] 1 [encToks (marksTk 1 T.length)] ((1 + 2 * T.length : Nat) : Int):=markTokenS_k T 1 (by omega) (by omega)
  have hhg0 : Meets Try.prog 17 [(false,[encToks (marksTk 1 T.length)]),(false,[.sc (.int .i64 1)])] [(false,[.sc (.int .i64 ((1 + 2 * T.length : Nat) : Int))],true)]:=heldTokenS_m 1 T.length (by omega) (by omega)
  have hkg0 : decide (((1 + 2 * T.length : Nat) : Int) < 0) = false:=decide_eq_false (by omega)
  refine meets_upf Try.func4 u_laws_FnExactTokensOf_g rfl ?_;simp only [u_laws_FnExactTokensOf_u]
  simp only [encToks] at h1 h2 hr0 hmg0 hhg0 ⊢
  have hdg : decide ((1048576 : Int) < (a0.size : Int)) = false:=decide_eq_false (by omega)
  repeat' (first | (with_reducible refine cl_ok (by assumption) rfl ?_) | (with_reducible refine cl_okP (by assumption) rfl ?_) | (refine mk_ok (by assumption) ?_ ?_;(· first | exact ⟨⟨_,rfl,rfl⟩,⟨_,rfl,rfl⟩,trivial⟩ | exact ⟨⟨_,rfl,rfl⟩,⟨_,rfl,rfl⟩,⟨_,rfl,rfl⟩,trivial⟩ | exact trivial | exact ⟨⟨_,rfl,rfl⟩,trivial⟩)) | simp (disch:=first | omega | (simp only [List.length_take,List.length_drop,List.length_append,List.map_cons,List.map_nil,List.length_map,List.length_cons,List.length_nil,List.length_set,List.length_replicate];omega) | (simp only [List.length_cons,List.length_nil,Nat.zero_add,Nat.reduceAdd])) only [go_sem,↓reduceIte,Nat.reduceAdd,Int.reduceNeg,Int.reduceAdd,Int.reduceSub,Int.reduceMul,Int.reduceLT,Int.reduceLE,Int.reduceEq,Int.reduceToNat,Nat.reduceBEq,hdg,hkg0,eq_self])
  all_goals first | rfl | omega 
end Go.Proofs.Ytgmpajfhjnojiaa

namespace Go.Proofs.Ytgmpajfhjnojiaa.fnExactTokensOf
open Go.ChangeShapes Go.WideShapes Go.ChangeAt Go.RowKit
open Go.ChangeMaps (open_string shut_string)
theorem own : ownKnob Try.prog.godebug = none:=by kernel_rfl
theorem laidOut : laidOutB Try.prog = true:=by kernel_rfl
set_option maxRecDepth 100000 in
set_option maxHeartbeats 2000000 in
theorem walk {H : Type} (enc : TypeId × Value→H) (v0 : Value) (d0 : DataW H) (p0 : List MemPlace) (base : Nat) (w : World)
    (ok0 : Value.okWide Try.prog w .any base 9 v0) (h0 : DataW.Trod enc Try.prog w 0 (fun _=>true) true 9 v0 d0 p0)
    (sz : (DataW.weightsEach Try.prog [9] [d0]).all (·≤reachBytes) = true) :
    Calls Try.prog 4 #[v0] w fun e w'=>e = .returned (.bool true)∧Below w.heap.size w w':=by
  obtain ⟨a0,r0,i0⟩:=argD_str (base:=base) (opD_str Try.underlying9) Try.underlying9 h0 ok0
  exact run_law (lawTokensOf_m a0 i0) (ArgsR.cons r0 ArgsR.nil)
set_option maxRecDepth 100000 in
theorem lifted (os : Os) (started : os.Started) (H : Type) (enc : TypeId × Value→H) :
    ReturnsInHanded {} Try.checked os 4 .any (Rows.fnExactTokensOfSpec.pre6 enc Try.prog Try.f4 Rows.fnExactTokensOfRow.domain false) (Rows.fnExactTokensOfSpec.post enc Try.prog Try.f4 false true false false):=by
  refine returnsInHanded_of_change_sized (C:=Try.checked) own started (by kernel_rfl) Try.func4
    (ChangeSpec.witness6 (enc:=enc) (C:=Try.checked) false ⟨#[],#[.string ByteArray.empty],[]⟩ 8 (by kernel_rfl) (by kernel_rfl) (by kernel_rfl) (by kernel_rfl)) ?_
  intro W base args ds gs before hval0 hW hcnd0 hsz0 hholds
  have hval : ∀ (j : Nat) t v,Try.f4.params[j]? = some t→args[j]? = some v→Value.okWide Try.prog W .any base t v:=hval0
  have hsz : (DataW.weightsEach Try.prog (Try.f4.params.toList ++ Rows.fnExactTokensOfSpec.plain.varTypes Try.prog) (ds ++ gs)).all (·≤reachBytes) = true:=hsz0
  have hW':=hW
  obtain ⟨p,q,hA0,hV,rfl,hfz,hnd⟩:=hW
  have hA : DataW.TrodAll enc Try.prog W 0 (fun _=>true) true Try.f4.params.toList args.toList ds p:=hA0
  rw [Try.params4] at hA hval hsz
  obtain ⟨v0,vs0,d0,ds0,p0,q0,hargs,rfl,rfl,h0,r0⟩:=trodAll_cons hA
  obtain ⟨rfl,rfl,rfl⟩:=trodAll_nil r0
  obtain rfl : args = #[v0]:=by cases args;simp_all
  obtain ⟨rfl,rfl⟩:=trodVars_none hV
  have lt0 : ∀ x ∈ p0,x.block < W.heap.size:=by obtain ⟨m,hm⟩:=h0;exact DataW.trod_lt m _ _ _ hm
  refine (walk enc v0 d0 p0 base W (hval 0 9 v0 rfl rfl) h0 hsz).mono fun e W' ⟨he,bel⟩=>?_
  subst he
  exact ⟨_,rfl,_,_,_,[],_,[],hW',trodAll_mk1 (shut_bool Try.underlying4 _),(trodAll_cons_mk (Below.trod laidOut (by kernel_rfl) (of_decide_eq_true (by kernel_rfl)) h0 bel lt0) trodAll_mk0),rfl,bel.frame _,fun h=>by cases h⟩
theorem over : Rows.fnExactTokensOfRow.holds Try.pinned (OpenSpec.ofChange Rows.fnExactTokensOfSpec) :=
  OpenClaim.holds_of_wide 4 Try.f4 rfl rfl rfl rfl rfl rfl rfl ⟨rfl,rfl,rfl,rfl,rfl⟩ rfl rfl rfl rfl rfl (by kernel_rfl) Try.func4 (by kernel_rfl)
    (of_decide_eq_true (by kernel_rfl)) (by unfold Func.isWrapper;first | (rw [if_pos (by decide +kernel)];kernel_rfl) | (rw [if_neg (by decide +kernel)];exact ⟨rfl,rfl⟩))
    (fun os started H enc _=>lifted os started H enc)
theorem proved : Rows.FnExactTokensOfSaid:=over
end Go.Proofs.Ytgmpajfhjnojiaa.fnExactTokensOf

