/- Proved: for every input the law 'FnExactModelFrame' returns true and its arguments read behind the call as before: part 6 of its proof. No condition. -/
import Derived.WalkKit
import Derived.Lib.Hide
import Derived.WalkSpells
import Derived.Laws.OwnMore
import Derived.Deep.AppendLies
import Derived.Deep.Draws
import Derived.Maps.AppendAt
import Derived.RegionTactic
import Derived.OwnWalk
import Derived.Below
import Derived.Laws.AppendOwnNone
import Derived.Deep.QuietTactic
import Derived.BigQuiet
import Derived.StillTailTactics
import Derived.Laws.Cells
import Derived.Laws.IdiomCopy
import Derived.ChangeKeysEq
import Derived.Laws.BytesArg
import Derived.Laws.StructEq
import Derived.Laws.Tables
import Derived.Great.BuildSlice
import Derived.StillTail
import Derived.ArgAppend
import Derived.OrdersHeld
import Derived.Test.YtliknccmjjncbaaGreatProg
import Derived.Deep.Slices
import Derived.Deep.Fields
import Derived.ChangeSame
import Derived.OpenShut
import Derived.Laws.ResultCell
import Derived.Deep.RegionWith
import Derived.Laws.IdiomStrings
import Derived.Test.YtliknccmjjncbaaGreatRows
import Derived.ProofKit
import Derived.ShutString
import Derived.ChangeOld
import Derived.SizedLaws
import Derived.Test.YtliknccmjjncbaaGreatExModelFrameQ5
set_option linter.unusedVariables false
set_option linter.unusedSimpArgs false
namespace Go.Proofs.YtliknccmjjncbaaGreat
open Go.RowKit
set_option maxRecDepth 100000
theorem DF.at_vc3{its:List It}(h:DF its):d9 3 (.mk 3 its [] [] [] [] 0 0)=true:=BI (by omega) (by simpa using h.1) (.inl rfl) tZ (l5 (by decide)) (l5 (by decide)) (λ_=>rfl) (λ_=>rfl) (λe=>by omega) (λx hx=>Hc (h.2 x hx)) (zX rfl)
def qt(its:List It)(z:Int):It:=its.getD z.toNat default
theorem Ml{its:List It}(h:DF its)(l:List Int)(hl:l.length<=40)(hr:∀z∈l,0<=z/\z<its.length):aB Tryz.prog 114 [(true,cN 3 its),(false,[aZ l])] [(true,cN 3 (l.map (qt its)),true)]:=by
 have g1:=Gy 3 [] [] [] [] [] 0 0 3 its [] [] [] [] 0 0 (by decide) (by decide);have g3:=JE 3 (l.map (qt its)) [] [] [] [] 0 0 (by decide);have ht0:K7 []=[]:=rfl;have hil:=h.1;simp only[ht0,if_true,ap,al,aq,aZ,cN,List.map_nil]at g1 g3 ⊢;refine ah Tryz.func114 Cy rfl ?_;simp only[rC]
 repeat' (first|(with_reducible first|refine ae ?_|refine ac ‹_› rfl ?_|refine ab ‹_› rfl ?_|refine ak (λhbr=>?_) λhbr=>?_)|simp(disch:=first|omega|(simp only[ax];omega)|simp only[av,Nat.reduceAdd]) only[go_sem,true_and])
 refine nv (f:=76) (bits:=1) (by decide) g1 rfl ?_
 repeat' (first|(with_reducible first|refine ae ?_|refine ac ‹_› rfl ?_|refine ab ‹_› rfl ?_|refine ak (λhbr=>?_) λhbr=>?_)|simp(disch:=first|omega|(simp only[ax];omega)|simp only[av,Nat.reduceAdd]) only[go_sem,true_and])
 refine lp (λi:Nat=>[.sc (.int .i64 i),.sl 9 1 [],.sl 35 8 [],.sl 78 3 (((l.take i).map (qt its)).map ao)]) (λi=>i<=l.length) (λi=>l.length-i) 0 (by simp[gL]) (Nat.zero_le _) ?_;intro i hi;simp only[pU];by_cases hlt:i<l.length
 ·have hz:=Cm (t:=3) (l:=l) (kd:=.i64) (z:=(i:Int)) (by omega) (by omega);rw[Int.toNat_natCast]at hz;have ht:l.take (i+1)=l.take i++[l.getD i default]:=bh hlt;have hrp:=hr _ (aK hlt);generalize l.getD i default=p at hz ht hrp;have hix:cc 3 (some (.sl 78 3 (its.map ao))) (some (.sc (.int .i64 p)))=some (ao (qt its p)):=cD hrp.1 hrp.2;have hM:(l.take i).map (qt its)++[qt its p]=(l.take (i+1)).map (qt its):=by rw[ht,List.map_append,List.map_singleton]
  generalize qt its p=x at hix hM;have hM:=congrArg (List.map ao) hM;simp only[ao,List.map_append,List.map_cons,List.map_nil]at hix hM
  repeat' (first|(with_reducible first|refine ae ?_|refine ac ‹_› rfl ?_|refine ab ‹_› rfl ?_|refine ak (λhbr=>?_) λhbr=>?_)|simp(disch:=first|omega|(simp only[ax];omega)|simp only[av,Nat.reduceAdd]) only[go_sem,hz,hix,qY,hM,pW,pw])
  all_goals first|omega|exact⟨i+1,rfl,by omega,by omega⟩|skip
 ·obtain rfl:i=l.length:=by omega
  rw[List.take_length]
  repeat' (first|(with_reducible first|refine ae ?_|refine ac ‹_› rfl ?_|refine ab ‹_› rfl ?_|refine ak (λhbr=>?_) λhbr=>?_)|simp(disch:=first|omega|(simp only[ax];omega)|simp only[av,Nat.reduceAdd]) only[go_sem,true_and])
  all_goals first|omega|skip
  refine nv (f:=78) (bits:=1) (by decide) g3 rfl ?_
  repeat' (first|(with_reducible first|refine ae ?_|refine ac ‹_› rfl ?_|refine ab ‹_› rfl ?_|refine ak (λhbr=>?_) λhbr=>?_)|simp(disch:=first|omega|(simp only[ax];omega)|simp only[av,Nat.reduceAdd]) only[go_sem,true_and])
  all_goals first|omega|rfl
theorem Vu{its:List It}(h:DF its)(l:List Int)(hl:l.length<=40)(hr:∀z∈l,0<=z/\z<its.length):aB Tryz.prog 60 [(true,cN 3 its),(false,[aZ (l.map λz=>z+1)])] [(true,cN 3 (l.map (qt its)),true)]:=by
 have hil:=h.1
 have g:=Sq (k:=3) (its:=its) (ps:=[]) (ns:=[]) (cl:=[]) (lv:=[]) (c:=0) (e:=0) h.at_vc3 h.at.wt (by omega) (l.map λz=>z+1) (by simp;omega) (by
  intro p hp;obtain⟨z,hz,rfl⟩:=List.mem_map.1 hp;have:=hr z hz
  omega)
 have e:de (.mk 3 its [] [] [] [] 0 0) (l.map λz=>z+1)=fV 3 (l.map (qt its)):=by
  have hm:(l.map λz=>z+1).map (cz its bC)=l.map (qt its):=by
   rw[List.map_map];apply List.map_congr_left;intro z hz;have:=hr z hz;show cz its bC (z+1)=_;rw[sG (by omega) (by omega)];unfold qt;rw[show z+1-1=z by omega]
  have:de (.mk 3 its [] [] [] [] 0 0) (l.map λz=>z+1)=.mk 3 ((l.map λz=>z+1).map (cz its bC)) [] (K7 []) [] [] 0 0:=rfl;rw[this,hm];rfl
 rw[e,<-WH 3 its]at g;simp only[Hl]at g;exact g
def Fd(its:List It)(l:List Int):List Int:=l.filter λz=>!decide (qt its z=bC)
def sa(its:List It):List It:=(Fd its (oL its its.length)).map (qt its)
theorem Ju(its:List It)(l m:List Int):Fd its (l++m)=Fd its l++Fd its m:=List.filter_append ..
theorem uz(its:List It)(l:List Int):(Fd its l).length<=l.length:=List.length_filter_le ..
theorem zH{its:List It}{l:List Int}{z:Int}(h:z∈Fd its l):z∈l/\¬qt its z=bC:=by
 have:=List.mem_filter.1 h;exact⟨this.1,by simpa using this.2⟩
theorem zS{its:List It}(h:DF its):DF (sa its)/\∀x∈sa its,¬x=bC:=by
 refine⟨⟨?_,?_⟩,?_⟩
 ·have:=uz its (oL its its.length);have:=h.1;rw[xd]at *;unfold sa;rw[List.length_map];omega
 ·intro x hx;obtain⟨z,hz,rfl⟩:=List.mem_map.1 hx;have:=xX its _ z (zH hz).1;exact h.2 _ (aK (by omega))
 ·intro x hx;obtain⟨z,hz,rfl⟩:=List.mem_map.1 hx;exact(zH hz).2
theorem Rl{its:List It}(h:DF its):aB Tryz.prog 82 [(true,cN 3 its),(false,[.sc (.bool false)])] [(true,cN 3 (sa its),true),(false,[.sc (.string eh)],true)]:=by
 have g1:=Jo h.at;have g2:=Ty its (by have:=h.1;omega);have hll:=xd its its.length;have hrg:=xX its its.length;have g3:=Ml h (Fd its (oL its its.length)) (by have:=uz its (oL its its.length);have:=h.1;omega) (λz hz=>by have:=hrg z (zH hz).1;omega);unfold sa;have hil:=h.1;generalize oL its its.length=l at *;simp only[ap,al,aq,aZ,cN,List.map_nil]at g1 g2 g3 ⊢;unfold eh at *;refine ah Tryz.func82 zn rfl ?_;simp only[nO]
 repeat' (first|(with_reducible first|refine ae ?_|refine ac ‹_› rfl ?_|refine ab ‹_› rfl ?_|refine ak (λhbr=>?_) λhbr=>?_)|simp(disch:=first|omega|(simp only[ax];omega)|simp only[av,Nat.reduceAdd]) only[go_sem,true_and])
 all_goals first|omega|skip
 refine lp (λi:Nat=>[.sc (.int .i64 i),.sl 3 1 ((Fd its (l.take i)).map ea)]) (λi=>i<=l.length) (λi=>l.length-i) 0 rfl (by omega) ?_;intro i hi;simp only[lN];by_cases hlt:i<l.length
 ·have hz:=Cm (t:=3) (l:=l) (kd:=.i64) (z:=(i:Int)) (by omega) (by omega);rw[Int.toNat_natCast]at hz;have ht:l.take (i+1)=l.take i++[l.getD i default]:=bh hlt;have hrp:=hrg _ (aK hlt);generalize l.getD i default=p at hz ht hrp;have hix:cc 3 (some (.sl 78 3 (its.map ao))) (some (.sc (.int .i64 p)))=some (ao (qt its p)):=cD hrp.1 hrp.2;have gm:=fX (qt its p)
  have hn:Fd its (l.take (i+1))=Fd its (l.take i)++(if qt its p=bC then[]else[p]):=by
   rw[ht,Ju];congr 1;unfold Fd;by_cases hc:qt its p=bC<;>simp[List.filter_cons,hc]
  have hnl:=uz its (l.take i);rw[List.length_take]at hnl;by_cases hc:qt its p=bC
  ·rw[if_pos hc,List.append_nil]at hn;rw[decide_eq_true hc]at gm;generalize qt its p=x at hix gm;simp only[ao]at hix gm
   repeat' (first|(with_reducible first|refine ae ?_|refine ac ‹_› rfl ?_|refine ab ‹_› rfl ?_|refine ak (λhbr=>?_) λhbr=>?_)|simp(disch:=first|omega|(simp only[ax];omega)|simp only[av,Nat.reduceAdd]) only[go_sem,hz,hix,fR])
   all_goals first|omega|exact⟨i+1,by rw[hn],by omega,by omega⟩|skip
  ·rw[if_neg hc]at hn;rw[decide_eq_false hc]at gm;generalize qt its p=x at hix gm;simp only[ao]at hix gm
   repeat' (first|(with_reducible first|refine ae ?_|refine ac ‹_› rfl ?_|refine ab ‹_› rfl ?_|refine ak (λhbr=>?_) λhbr=>?_)|simp(disch:=first|omega|(simp only[ax];omega)|simp only[av,Nat.reduceAdd]) only[go_sem,hz,hix,fR])
   all_goals first|omega|exact⟨i+1,by rw[hn],by omega,by omega⟩|skip
 ·obtain rfl:i=l.length:=by omega
  rw[List.take_length]
  repeat' (first|(with_reducible first|refine ae ?_|refine ac ‹_› rfl ?_|refine ab ‹_› rfl ?_|refine ak (λhbr=>?_) λhbr=>?_)|simp(disch:=first|omega|(simp only[ax];omega)|simp only[av,Nat.reduceAdd]) only[go_sem,true_and])
  all_goals first|omega|rfl
theorem Rq{its:List It}(h:DF its):aB Tryz.prog 100 [(true,cN 3 its),(false,[.sc (.bool false)])] [(true,cN 3 (sa its),true),(false,[.sc (.string eh)],true)]:=by
 have g1:=Vi h;have hll:=xd its its.length;have hrg:=xX its its.length;have g3:=Vu h (Fd its (oL its its.length)) (by have:=uz its (oL its its.length);have:=h.1;omega) (λz hz=>by have:=hrg z (zH hz).1;omega);unfold sa;unfold QH at g1;have hil:=h.1;have hden:∀x∈its,(x=bC↔x.den=0):=λx hx=>mW (h.2 x hx)
 generalize oL its its.length=l at *;simp only[aZ,cN,List.map_nil]at g1 g3 ⊢;unfold eh at *;refine ah Tryz.func100 yt rfl ?_;simp only[nW]
 repeat' (first|(with_reducible first|refine ae ?_|refine ac ‹_› rfl ?_|refine ab ‹_› rfl ?_|refine ak (λhbr=>?_) λhbr=>?_)|simp(disch:=first|omega|(simp only[ax];omega)|simp only[av,Nat.reduceAdd]) only[go_sem,true_and])
 all_goals first|omega|skip
 refine lp (λi:Nat=>[.sc (.int .i64 i),.sl 3 1 (((Fd its (l.take i)).map λz=>z+1).map ea)]) (λi=>i<=l.length) (λi=>l.length-i) 0 rfl (by omega) ?_;intro i hi;simp only[my];have hml:(l.map λz=>z+1).length=l.length:=List.length_map ..;by_cases hlt:i<l.length
 ·have hz:=Cm (t:=3) (l:=l.map λz=>z+1) (kd:=.i64) (z:=(i:Int)) (by omega) (by omega)
  have ez:(l.map λz=>z+1).getD i default=l.getD i default+1:=by
   rw[List.getD_eq_getElem?_getD,List.getD_eq_getElem?_getD,List.getElem?_map,List.getElem?_eq_getElem hlt];rfl
  rw[Int.toNat_natCast,ez]at hz;have ht:l.take (i+1)=l.take i++[l.getD i default]:=bh hlt;have hrp:=hrg _ (aK hlt);generalize l.getD i default=p at hz ht hrp;have hix:cc 3 (some (.sl 78 3 (its.map ao))) (some (.sc (.int .i64 p)))=some (ao (qt its p)):=cD hrp.1 hrp.2;have gm:=hden (qt its p) (aK (by omega));have e1:p+1-1=p:=by omega
  have hn:Fd its (l.take (i+1))=Fd its (l.take i)++(if qt its p=bC then[]else[p]):=by
   rw[ht,Ju];congr 1;unfold Fd;by_cases hc:qt its p=bC<;>simp[List.filter_cons,hc]
  have hnl:=uz its (l.take i);rw[List.length_take]at hnl;generalize (l.map λz=>z+1)=l2 at *;by_cases hc:qt its p=bC
  ·rw[if_pos hc,List.append_nil]at hn;have gm:=gm.1 hc;generalize qt its p=x at hix gm;simp only[ao]at hix
   repeat' (first|(with_reducible first|refine ae ?_|refine ac ‹_› rfl ?_|refine ab ‹_› rfl ?_|refine ak (λhbr=>?_) λhbr=>?_)|simp(disch:=first|omega|(simp only[ax];omega)|simp only[av,Nat.reduceAdd]) only[go_sem,hz,hix,e1,fU])
   all_goals first|omega|exact⟨i+1,by rw[hn],by omega,by omega⟩|skip
  ·rw[if_neg hc]at hn;have gm:¬(qt its p).den=0:=λe=>hc (gm.2 e)
   have hn:((Fd its (l.take i)).map λz=>z+1)++[p+1]=(Fd its (l.take (i+1))).map λz=>z+1:=by rw[hn,List.map_append];rfl
   generalize qt its p=x at hix gm;simp only[ao]at hix
   repeat' (first|(with_reducible first|refine ae ?_|refine ac ‹_› rfl ?_|refine ab ‹_› rfl ?_|refine ak (λhbr=>?_) λhbr=>?_)|simp(disch:=first|omega|(simp only[ax];omega)|simp only[av,Nat.reduceAdd]) only[go_sem,hz,hix,e1,hn,fU])
   all_goals first|omega|exact⟨i+1,rfl,by omega,by omega⟩|skip
 ·obtain rfl:i=l.length:=by omega
  rw[List.take_length]
  repeat' (first|(with_reducible first|refine ae ?_|refine ac ‹_› rfl ?_|refine ab ‹_› rfl ?_|refine ak (λhbr=>?_) λhbr=>?_)|simp(disch:=first|omega|(simp only[ax];omega)|simp only[av,Nat.reduceAdd]) only[go_sem,true_and])
  all_goals first|omega|rfl
def zl(S:List It):Nat->List It
 |0=>[]
 |n+1=>zl S n++(if S.getD n default∈S.take n then[]else[S.getD n default])
def Ck(S:List It):Nat->List Int
 |0=>[]
 |n+1=>Ck S n++(if S.getD n default∈S.take n then[]else[((n:Nat):Int)])
theorem vH(S:List It):∀n,(Ck S n).length<=n/\∀z∈Ck S n,0<=z/\z<n
 |0=>⟨Nat.le_refl _,λz h=>by cases h⟩
 |n+1=>by
  obtain⟨h1,h2⟩:=vH S n;rw[Ck];split
  ·rw[List.append_nil];exact⟨by omega,λz hz=>by have:=h2 z hz;omega⟩
  ·refine⟨by rw[List.length_append,List.length_singleton];omega,λz hz=>?_⟩;rcases List.mem_append.1 hz with h|h
   ·have:=h2 z h;omega
   ·rw[List.mem_singleton.1 h];omega
theorem Hw(S:List It):∀n,(Ck S n).map (qt S)=zl S n
 |0=>rfl
 |n+1=>by
  rw[Ck,zl,List.map_append,Hw S n];congr 1;split
  ·rfl
  ·show[qt S n]=_;unfold qt;rw[Int.toNat_natCast]
theorem uh{S:List It}{x:It}:∀n,n<=S.length->(x∈zl S n↔x∈S.take n)
 |0,_=>by simp[zl]
 |n+1,h=>by
  have ih:=uh (S:=S) (x:=x) n (by omega);rw[zl,bh (by omega),List.mem_append,List.mem_append,ih,List.mem_singleton];split
  ·rename_i hm;constructor
   ·rintro(h|h)
    ·exact .inl h
    ·cases h
   ·rintro(h|h)
    ·exact .inl h
    ·subst h;exact .inl hm
  ·rw[List.mem_singleton]
theorem Jv{S:List It}(h:DF S):DF (zl S S.length):=by
 have h0:=Hw S S.length;have h1:=vH S S.length;have h2:=h.1;refine⟨by rw[<-h0,List.length_map];omega,λx hx=>?_⟩;have:=(uh _ (Nat.le_refl _)).1 hx;rw[List.take_length]at this;exact h.2 _ this
theorem UE(S:List It)(y:It)(hl:S.length<=1000000000):aB Tryz.prog 116 [(false,[.sl 78 3 (S.map ao)]),(true,ao y)] [(false,[.sc (.int .i64 (Lo S y))],true)]:=by
 simp only[ao];refine ah Tryz.func116 qL rfl ?_;simp only[iq];simp(disch:=first|omega|(simp only[ax];omega)|simp only[av,Nat.reduceAdd]) only[go_sem,true_and];refine lp (λi:Nat=>[.sc (.int .i64 i)]) (λi=>i<=S.length/\∀j,j<i->¬S.getD j default=y) (λi=>S.length-i) 0 rfl ⟨Nat.zero_le _,λj hj=>by omega⟩ ?_;rintro i ⟨hi,hall⟩;simp only[gS];by_cases hlt:i<S.length
 ·have hix:=cD (t:=78) (l:=S) (kd:=.i64) (z:=(i:Int)) (by omega) (by omega);rw[Int.toNat_natCast]at hix;have hh:=IG (y:=y) hlt;generalize hx:S.getD i default=x at hix hh;have hq:=IF y x;simp only[ao]at hix;by_cases hc:x=y
  ·rw[decide_eq_true hc.symm]at hq;have hh:=hh hc hall
   repeat' (first|(with_reducible first|refine ae ?_|refine ac ‹_› rfl ?_|refine ab ‹_› rfl ?_|refine ak (λhbr=>?_) λhbr=>?_)|simp(disch:=first|omega|(simp only[ax];omega)|simp only[av,Nat.reduceAdd]) only[go_sem,hix,hq])
   all_goals first|omega|(rw[hh];rfl)|skip
  ·rw[decide_eq_false (λe=>hc e.symm)]at hq
   repeat' (first|(with_reducible first|refine ae ?_|refine ac ‹_› rfl ?_|refine ab ‹_› rfl ?_|refine ak (λhbr=>?_) λhbr=>?_)|simp(disch:=first|omega|(simp only[ax];omega)|simp only[av,Nat.reduceAdd]) only[go_sem,hix,hq])
   all_goals first|omega|exact⟨i+1,rfl,⟨by omega,D6 hall (by rw[hx];exact hc)⟩,by omega⟩|skip
 ·obtain rfl:i=S.length:=by omega
  have hh:=FI hall
  repeat' (first|(with_reducible first|refine ae ?_|refine ac ‹_› rfl ?_|refine ab ‹_› rfl ?_|refine ak (λhbr=>?_) λhbr=>?_)|simp(disch:=first|omega|(simp only[ax];omega)|simp only[av,Nat.reduceAdd]) only[go_sem,true_and])
  all_goals first|omega|(rw[hh];rfl)
theorem UA{S:List It}(h:DF S):aB Tryz.prog 84 [(true,cN 3 S)] [(true,cN 3 (zl S S.length),true),(false,[.sc (.string eh)],true)]:=by
 have g1:=Jo h.at;have hr:=vH S S.length;have hil:=h.1;have g3:=Ml h (Ck S S.length) (by omega) (λz hz=>hr.2 z hz);rw[Hw]at g3;simp only[ap,al,aq,aZ,cN,List.map_nil]at g1 g3 ⊢;unfold eh at *;refine ah Tryz.func84 vb rfl ?_;simp only[kl]
 repeat' (first|(with_reducible first|refine ae ?_|refine ac ‹_› rfl ?_|refine ab ‹_› rfl ?_|refine ak (λhbr=>?_) λhbr=>?_)|simp(disch:=first|omega|(simp only[ax];omega)|simp only[av,Nat.reduceAdd]) only[go_sem,true_and])
 all_goals first|omega|skip
 refine lp (λi:Nat=>[.sc (.int .i64 i),.sl 3 1 ((Ck S i).map ea)]) (λi=>i<=S.length) (λi=>S.length-i) 0 rfl (by omega) ?_;intro i hi;simp only[j9];by_cases hlt:i<S.length
 ·have hix:=cD (t:=78) (l:=S) (kd:=.i64) (z:=(i:Int)) (by omega) (by omega);rw[Int.toNat_natCast]at hix;have hrl:=(vH S i).1;have gf:=UE (S.take i) (S.getD i default) (by rw[List.length_take];omega);have hng:Lo (S.take i) (S.getD i default)<0↔¬S.getD i default∈S.take i:=by rw[<-Lt];omega
  have hu:Ck S (i+1)=Ck S i++(if S.getD i default∈S.take i then[]else[((i:Nat):Int)]):=rfl;generalize S.getD i default=x at *;generalize Lo (S.take i) x=q at *;simp only[ao]at hix gf;by_cases hc:x∈S.take i
  ·rw[if_pos hc,List.append_nil]at hu;have hq:¬q<0:=λe=>hng.1 e hc
   repeat' (first|(with_reducible first|refine ae ?_|refine ac ‹_› rfl ?_|refine ab ‹_› rfl ?_|refine ak (λhbr=>?_) λhbr=>?_)|simp(disch:=first|omega|(simp only[ax];omega)|simp only[av,Nat.reduceAdd]) only[go_sem,hix,ew])
   all_goals first|omega|exact⟨i+1,by rw[hu],by omega,by omega⟩|skip
  ·rw[if_neg hc]at hu;have hq:q<0:=hng.2 hc
   repeat' (first|(with_reducible first|refine ae ?_|refine ac ‹_› rfl ?_|refine ab ‹_› rfl ?_|refine ak (λhbr=>?_) λhbr=>?_)|simp(disch:=first|omega|(simp only[ax];omega)|simp only[av,Nat.reduceAdd]) only[go_sem,hix,ew])
   all_goals first|omega|exact⟨i+1,by rw[hu],by omega,by omega⟩|skip
 ·obtain rfl:i=S.length:=by omega
  repeat' (first|(with_reducible first|refine ae ?_|refine ac ‹_› rfl ?_|refine ab ‹_› rfl ?_|refine ak (λhbr=>?_) λhbr=>?_)|simp(disch:=first|omega|(simp only[ax];omega)|simp only[av,Nat.reduceAdd]) only[go_sem,true_and])
  all_goals first|omega|rfl
def GG(S:List It):Nat->List ByteArray
 |0=>[]
 |n+1=>GG S n++(if D5 (GG S n) (S.getD n default).text=true then[]else[(S.getD n default).text])
theorem DU(S:List It):∀n,(GG S n).length<=n
 |0=>Nat.le_refl _
 |n+1=>by
  have:=DU S n;rw[GG,List.length_append];split
  ·simp;omega
  ·simp;omega
theorem TT{x y:It}(h1:DZ 3 x=true)(h2:DZ 3 y=true)(h3:¬x=bC)(h4:¬y=bC)(h:x.text=y.text):x=y:=by
 unfold DZ at h1 h2;rw[decide_eq_false h3]at h1;rw[decide_eq_false h4]at h2;simp only[Bool.false_or,show¬((3:Int)=1) by decide,show¬((3:Int)=2) by decide,if_false,Bool.and_eq_true,decide_eq_true_eq]at h1 h2;obtain⟨a,b,c⟩:=x;obtain⟨a',b',c'⟩:=y;simp only at h1 h2 h;simp only[It.mk.injEq];exact⟨by omega,by omega,h⟩
theorem Jj{S:List It}(h:DF S)(h0:∀x∈S,¬x=bC):∀n,n<=S.length->GG S n=(zl S n).map It.text
 |0,_=>rfl
 |n+1,hn=>by
  have ih:=Jj h h0 n (by omega);have hm:=aK (l:=S) (i:=n) (by omega)
  have hiff:D5 (GG S n) (S.getD n default).text=true↔S.getD n default∈S.take n:=by
   rw[FO,ih,<-uh n (by omega)];constructor
   ·intro hh;obtain⟨y,hy,he⟩:=List.mem_map.1 hh;have hy2:=List.mem_of_mem_take ((uh n (by omega)).1 hy);have:=TT (h.2 _ hy2) (h.2 _ hm) (h0 _ hy2) (h0 _ hm) he;rw[<-this];exact hy
   ·exact λhh=>List.mem_map.2 ⟨_,hh,rfl⟩
  rw[GG,zl,List.map_append,ih];congr 1;rw[<-ih];by_cases hc:S.getD n default∈S.take n
  ·rw[if_pos hc,if_pos (hiff.2 hc)];rfl
  ·rw[if_neg hc,if_neg (λe=>hc (hiff.1 e))];rfl
def K8(its:List It):List ByteArray:=GG (sa its) (sa its).length
theorem OI{its:List It}(h:DF its):(∀x∈K8 its,x.size<=60)/\(K8 its).length<=40/\K8 its=(zl (sa its) (sa its).length).map It.text:=by
 obtain⟨h1,h2⟩:=zS h;have e:=Jj h1 h2 _ (Nat.le_refl _);refine⟨λx hx=>?_,by have:=DU (sa its) (sa its).length;have:=h1.1;unfold K8;omega,e⟩;unfold K8 at hx;rw[e]at hx;obtain⟨y,hy,rfl⟩:=List.mem_map.1 hx;exact ui (Hc ((Jv h1).2 y hy))
theorem WP(x:It):cvI 3 3 x=x:=by unfold cvI;rw[if_pos (.inr (.inl rfl))]
theorem Vf(its:List It):iZ 3 [] its=its:=by
 show(GF [] its).map (cvI (Cg 3 []) 3)=its;rw[show GF [] its=its from rfl,show Cg 3 []=3 from rfl];rw[List.map_congr_left (λx _=>WP x)];exact List.map_id' its
def Cu(its:List It):aX×ByteArray:=H4 ((iZ 3 [] its).map (nj (K8 its))) (K8 its)
theorem VA{its:List It}(h:DF its):aB Tryz.prog 37 [(true,ap (.mk 3 its [] [] [] [] 0 0))] [(true,ap (Cu its).1,true),(false,[.sc (.string (Cu its).2)],true)]:=by
 obtain⟨hs,hL,he⟩:=OI h;have g1:=Jo h.at;have g2:=Sd h.at.vf h.at.wt (by omega);have g3:=Rl h;have hst:=(zS h).1;have g4:=UA hst;have hut:=Jv hst;have g5:=OK hut.at.vf hut.at.wt (by omega);have g6:=OC h.at (K8 its) hs (by omega);have hul:=hut.1;rw[Vf]at g5;rw[show GF [] its=its from rfl,show Cg 3 []=3 from rfl]at g2;rw[he]at hs hL g6;unfold Cu;rw[he];generalize sa its=R at *;generalize zl R R.length=U at *;generalize H4 ((iZ 3 [] its).map (nj (U.map It.text))) (U.map It.text)=r at g6 ⊢;obtain⟨⟨x0,x1,x2,x3,x4,x5,x6,x7⟩,q⟩:=r;simp only[ap,al,aq,cN,List.map_nil]at g1 g2 g3 g4 g5 g6 ⊢;unfold eh at *;refine ah Tryz.func37 qT rfl ?_;simp only[iL]
 repeat' (first|(with_reducible first|refine ae ?_|refine ac ‹_› rfl ?_|refine ab ‹_› rfl ?_|refine ak (λhbr=>?_) λhbr=>?_)|simp(disch:=first|omega|(simp only[ax];omega)|simp only[av,Nat.reduceAdd]) only[go_sem,true_and])
 all_goals first|omega|skip
 refine lp (λi:Nat=>[.sc (.int .i64 i),.sl 9 1 (((U.take i).map It.text).map bG)]) (λi=>i<=U.length) (λi=>U.length-i) 0 rfl (by omega) ?_;intro i hi;simp only[gv];by_cases hlt:i<U.length
 ·have hix:=cD (t:=78) (l:=U) (kd:=.i64) (z:=(i:Int)) (by omega) (by omega);rw[Int.toNat_natCast]at hix;have ht:U.take (i+1)=U.take i++[U.getD i default]:=bh hlt;have hM:((U.take i).map It.text).map bG++[[.sc (.string (U.getD i default).text)]]=((U.take (i+1)).map It.text).map bG:=by rw[ht,List.map_append,List.map_append];rfl
  generalize U.getD i default=x at hix hM;simp only[ao]at hix
  repeat' (first|(with_reducible first|refine ae ?_|refine ac ‹_› rfl ?_|refine ab ‹_› rfl ?_|refine ak (λhbr=>?_) λhbr=>?_)|simp(disch:=first|omega|(simp only[ax];omega)|simp only[av,Nat.reduceAdd]) only[go_sem,hix,hM])
  all_goals first|omega|exact⟨i+1,rfl,by omega,by omega⟩|skip
 ·obtain rfl:i=U.length:=by omega
  rw[List.take_length]
  repeat' (first|(with_reducible first|refine ae ?_|refine ac ‹_› rfl ?_|refine ab ‹_› rfl ?_|refine ak (λhbr=>?_) λhbr=>?_)|simp(disch:=first|omega|(simp only[ax];omega)|simp only[av,Nat.reduceAdd]) only[go_sem,true_and])
  all_goals first|omega|rfl
theorem T4{its:List It}(h:DF its):aB Tryz.prog 65 [(true,ap (.mk 3 its [] [] [] [] 0 0))] [(false,[aq (K8 its)],true)]:=by
 have g2:=SD h.at.vf h.at.wt;have g3:=Rq h;have hst:=(zS h).1;have hsl:=hst.1;have hst2:=(zS h).2;rw[show GF [] its=its from rfl,show Cg 3 []=3 from rfl]at g2;unfold K8;generalize sa its=R at *;simp only[ap,al,aq,cN,List.map_nil]at g2 g3 ⊢;unfold eh at *;refine ah Tryz.func65 tC rfl ?_;simp only[jL]
 repeat' (first|(with_reducible first|refine ae ?_|refine ac ‹_› rfl ?_|refine ab ‹_› rfl ?_|refine ak (λhbr=>?_) λhbr=>?_)|simp(disch:=first|omega|(simp only[ax];omega)|simp only[av,Nat.reduceAdd]) only[go_sem,true_and])
 all_goals first|omega|skip
 refine lp (λi:Nat=>[.sc (.int .i64 i),.sl 9 1 ((GG R i).map bG)]) (λi=>i<=R.length) (λi=>R.length-i) 0 rfl (by omega) ?_;intro i hi;simp only[iQ];by_cases hlt:i<R.length
 ·have hix:=cD (t:=78) (l:=R) (kd:=.i64) (z:=(i:Int)) (by omega) (by omega);rw[Int.toNat_natCast]at hix;have hll:=DU R i;have ga:=Lj (R.getD i default) 3 3 (by omega) (by omega) (by omega);rw[WP]at ga;have gh:=PQ 9 (GG R i) (R.getD i default).text (by omega);have hlv:GG R (i+1)=GG R i++(if D5 (GG R i) (R.getD i default).text=true then[]else[(R.getD i default).text]):=rfl;generalize R.getD i default=x at *;simp only[ao]at hix ga;cases hc:D5 (GG R i) x.text
  ·rw[hc]at gh hlv;have hM:(GG R i).map bG++[[.sc (.string x.text)]]=(GG R (i+1)).map bG:=by rw[hlv,List.map_append];rfl
   repeat' (first|(with_reducible first|refine ae ?_|refine ac ‹_› rfl ?_|refine ab ‹_› rfl ?_|refine ak (λhbr=>?_) λhbr=>?_)|simp(disch:=first|omega|(simp only[ax];omega)|simp only[av,Nat.reduceAdd]) only[go_sem,hix,hM,d6])
   all_goals first|omega|exact⟨i+1,rfl,by omega,by omega⟩|skip
  ·rw[hc,if_pos rfl,List.append_nil]at hlv;rw[hc]at gh
   repeat' (first|(with_reducible first|refine ae ?_|refine ac ‹_› rfl ?_|refine ab ‹_› rfl ?_|refine ak (λhbr=>?_) λhbr=>?_)|simp(disch:=first|omega|(simp only[ax];omega)|simp only[av,Nat.reduceAdd]) only[go_sem,hix,d6])
   all_goals first|omega|exact⟨i+1,by rw[hlv],by omega,by omega⟩|skip
 ·obtain rfl:i=R.length:=by omega
  repeat' (first|(with_reducible first|refine ae ?_|refine ac ‹_› rfl ?_|refine ab ‹_› rfl ?_|refine ak (λhbr=>?_) λhbr=>?_)|simp(disch:=first|omega|(simp only[ax];omega)|simp only[av,Nat.reduceAdd]) only[go_sem,true_and])
  all_goals first|omega|rfl
theorem Up{its:List It}(h:DF its):aB Tryz.prog 25 [(true,ap (.mk 3 its [] [] [] [] 0 0))] [(true,ap (Cu its).1,true),(false,[.sc (.string (Cu its).2)],true)]:=by
 obtain⟨hs,hL,he⟩:=OI h;have g1:=RP h.at;have g2:=T4 h;have g6:=Nw h.at (K8 its) hs (by omega);unfold Cu;generalize K8 its=U at *;generalize H4 ((iZ 3 [] its).map (nj U)) U=r at g6 ⊢;obtain⟨⟨x0,x1,x2,x3,x4,x5,x6,x7⟩,q⟩:=r;simp only[ap,al,aq,cN,List.map_nil]at g1 g2 g6 ⊢;unfold eh at *;refine ah Tryz.func25 qr rfl ?_;simp only[io]
 repeat' (first|(with_reducible first|refine ae ?_|refine ac ‹_› rfl ?_|refine ab ‹_› rfl ?_|refine ak (λhbr=>?_) λhbr=>?_)|simp(disch:=first|omega|(simp only[ax];omega)|simp only[av,Nat.reduceAdd]) only[go_sem,true_and])
 all_goals first|omega|rfl
def wH(p:aX)(l:List Int):aX×ByteArray:=if cR (de p l)=true then Ci (z9 (de p l)) (Sp (de p l))else if BN (de p l)=3 then Cu (z9 (de p l))else(de p l,eh)
def lq(l:List Int)(j:Nat)(p:aX):aX×ByteArray:=if j=0 then(de p l,eh)else wH p l
def Fa(ps:List aX)(l:List Int):Nat->List aX
 |0=>[]
 |n+1=>Fa ps l n++[(lq l n (ps.getD n default)).1]
def yf(ps:List aX)(l:List Int):Nat->ByteArray
 |0=>eh
 |n+1=>if yf ps l n=eh then(lq l n (ps.getD n default)).2 else yf ps l n
def K6(ps:List aX)(ns:List ByteArray)(l:List Int):aX×ByteArray:=if yf ps l ps.length=eh then qv (eM (Fa ps l ps.length) ns)else(fV 0 [],yf ps l ps.length)
theorem eq(ps:List aX)(l:List Int):∀n,(Fa ps l n).length=n
 |0=>rfl
 |n+1=>by rw[Fa,List.length_append,eq ps l n];rfl
theorem va{ps:List aX}{l:List Int}{n:Nat}(h:¬yf ps l n=eh):∀m,n<=m->yf ps l m=yf ps l n
 |0,hm=>by obtain rfl:n=0:=by omega
           rfl
 |m+1,hm=>by
  rcases Nat.lt_or_ge n (m+1)with h1|h1
  ·have:=va h m (by omega);rw[yf,this,if_neg h]
  ·obtain rfl:n=m+1:=by omega
   rfl
theorem P3{ps:List aX}{l:List Int}{n m:Nat}(h:yf ps l n=eh)(hm:m<=n):yf ps l m=eh:=by
 apply Classical.byContradiction;intro hc;have:=va hc n hm;rw[h]at this;exact hc this.symm
theorem Nm{its:List It}{L:List ByteArray}(h:(H4 its L).2=eh):(H4 its L).1=qK its L/\d7 (qK its L)=true/\L≠[]:=by
 unfold H4 Uh at h ⊢;split at h
 ·exact absurd h (by decide)
 ·rename_i h0;rw[if_neg h0];split at h
  ·rename_i hv;rw[if_pos hv];exact⟨rfl,hv,λe=>h0 (by rw[e];rfl)⟩
  ·exact absurd h (by decide)
theorem QV{p:aX}{n:Int}(h:l8 p n=true)(hv:d9 2 p=true){l:List Int}(hl:l.length<=40){j:Nat}(hq:(lq l j p).2=eh):l8 (lq l j p).1 l.length=true/\d9 2 (lq l j p).1=true/\ck (lq l j p).1<=4020000:=by
 obtain⟨k,its,cl,lv,-,h2,h3,h4,h5,h6,-⟩:=ql h hv hl
 have hpik:l8 (de p l) l.length=true/\d9 2 (de p l)=true/\ck (de p l)<=4020000:=by
  rw[h2];have:=H6 ⟨h3,h4⟩ h6 (h5.imp id λh=>⟨h.1,h.2.1⟩);rw[List.length_map]at this;exact⟨this,h6,I6 h6⟩
 have hfac:∀(its':List It) (L:List ByteArray),its'.length=l.length->d7 (qK its' L)=true->L≠[]->l8 (qK its' L) l.length=true/\d9 2 (qK its' L)=true/\ck (qK its' L)<=4020000:=by
  intro its' L hi hv hL;have f:=vw hv;have hv2:d9 2 (qK its' L)=true:=BI (by omega) (by have:=f.l40;exact this) (.inl rfl) tZ f.lc f.lb (λe=>absurd rfl e) (λ_=>rfl) (λe=>by omega) f.it (zX rfl);have:=H6 (k:=2) (its:=its') (by omega) hv2 (.inr ⟨hL,rfl⟩);rw[hi]at this;exact⟨this,hv2,zW hv⟩
 unfold lq at hq ⊢;split
 ·exact hpik
 ·rename_i hj;rw[if_neg hj]at hq;unfold wH at hq ⊢;rw[h2]at hq ⊢ hpik;split
  ·rename_i hF;rw[if_pos hF]at hq;unfold Ci at hq ⊢;obtain⟨e1,e2,e3⟩:=Nm hq;rw[e1];exact hfac _ _ (by simp[A3,z9]) e2 e3
  ·rename_i hF;rw[if_neg hF]at hq;split
   ·rename_i hk;rw[if_pos hk]at hq;unfold Cu at hq ⊢;obtain⟨e1,e2,e3⟩:=Nm hq;rw[e1];exact hfac _ _ (by simp[A3,z9]) e2 e3
   ·exact hpik
theorem zU{k:Int}{its:List It}{ps:List aX}{ns cl lv:List ByteArray}{c e:Int}(h:KF k its ps ns cl lv c e){l:List Int}(hl:l.length<=40):∀n,n<=ps.length->yf ps l n=eh->∀p∈Fa ps l n,l8 p l.length=true/\d9 2 p=true/\ck p<=4020000
 |0,_,_,p,hp=>by cases hp
 |n+1,hn,hb,p,hp=>by
  have hb0:=P3 (m:=n) hb (by omega);rw[yf,if_pos hb0]at hb;rw[Fa]at hp;rcases List.mem_append.1 hp with hp|hp
  ·exact zU h hl n (by omega) hb0 p hp
  ·rw[List.mem_singleton.1 hp];have hm:=aK (l:=ps) (i:=n) (by omega);exact QV (h.col _ hm) (h.kd2 _ hm) hl hb
def tB:List aQ:=[⟨2000003,3,⟨[aa 5 23,aa 89 24,aa 7 25,aa 6 20,aa 60 22,aa 59 20,aa 58 18,aa 57 3,aa 28 16,aa 27 15,aa 26 13,aa 25 2,aa 23 12,aa 2 4,aC 1 0 0 0,(0,.p true [.d 0,.d 1,.d 2,.d 3])],[(0,.var 0 38 [.d 0,.d 1,.d 2,.d 3])],1,1,26,[(22,true),(16,false),(12,false),(9,false),(6,false),(4,false)]⟩,[]⟩,⟨3000011,2,⟨[aa 59 20,aa 58 18,aa 57 3,aa 5 21,aa 28 16,aa 27 15,aa 26 13,aa 25 2,aa 23 12,aa 2 4,aC 1 0 0 0,(0,.p true [.d 0,.d 1,.d 2,.d 3])],[(0,.var 0 38 [.d 0,.d 1,.d 2,.d 3])],1,1,22,[(16,false),(12,false),(9,false),(6,false),(4,false)]⟩,[]⟩,⟨2000001,2,⟨[aa 54 17,aa 4 18,aa 3 15,aa 28 16,aa 27 15,aa 26 13,aa 25 2,aa 23 12,aa 2 4,aC 1 0 0 0,(0,.p true [.d 0,.d 1,.d 2,.d 3])],[(0,.var 0 38 [.d 0,.d 1,.d 2,.d 3])],1,1,19,[(16,true),(12,false),(9,false),(6,false),(4,false)]⟩,[]⟩,⟨3000004,1,⟨[aa 27 15,aa 26 13,aa 25 2,aa 23 12,aa 2 4,aC 1 0 0 0,(0,.p true [.d 0,.d 1,.d 2,.d 3])],[(0,.var 0 38 [.d 0,.d 1,.d 2,.d 3])],1,1,16,[(12,false),(9,false),(6,false),(4,false)]⟩,[]⟩]
def sd:List (Nat×Nat×Bool×List Nat):=[]
def iu:UP:=.i 1<|.a 3 0<|.jump 0 [0]
def iv:UP:=.i 1<|.a 5 0<|.jump 1 [0,4]
def iD:UP:=.b .lss 1 3<|.ite 0 (.sel [1,2,6,7]<|.join 3 iv<|.z 1<|.x 1 2 1<|.i 1<|.b .lss 1 0<|.ite 0 (.t<|.t<|.f<|.c 0<|.r 0)<|.l 6<|.po (.cvI .u64 0)<|.i 1<|.b .shl 0 1<|.b .geq 6 0<|.ite 0 (.t<|.f<|.c 0<|.r 0)<|.i 0<|.b .gtr 10 0<|.ite 0 (.i 1<|.b .sub 12 0<|.z 0<|.x 1 14 0<|.sel [0,12,13]<|.cl 68 [(false,[0]),(false,[1])] au<|.n 0<|.ite 0 (.f<|.c 0<|.r 0)<|.b .or 4 3<|.jump 2 [0,1,4])<|.f<|.b .or 11 10<|.jump 2 [0,1,11])<|.l 7<|.po (.cvI .u64 0)<|.i 1<|.b .shl 0 1<|.i 1<|.b .sub 1 0<|.e 7 0<|.c 0<|.r 0
def ij:UP:=.b .lss 0 2<|.ite 0 (.sel [1,5,6]<|.join 2 iu<|.z 0<|.x 1 1 0<|.cl 67 [(false,[0])] au<|.n 0<|.ite 0 (.t<|.t<|.f<|.c 0<|.r 0)<|.e 2 5<|.ite 0 (.t<|.f<|.c 0<|.r 0)<|.i 0<|.b .gtr 5 0<|.ite 0 (.i 1<|.b .sub 7 0<|.z 0<|.x 1 9 0<|.b .geq 0 8<|.ite 0 (.f<|.c 0<|.r 0)<|.jump 1 [0,9])<|.f<|.jump 1 [0,6])<|.i 0<|.l 5<|.i 0<|.sel [0,1,2,7,8]<|.loop [0,2] iD
def jm:UP:=.f<|.cl 67 [(false,[4])] au<|.n 0<|.ite 0 (.t<|.t<|.f<|.c 0<|.r 0)<|.l 4<|.i 5<|.b .gtr 1 0<|.ite 0 (.t<|.f<|.c 0<|.r 0)<|.l 6<|.i 10<|.b .gtr 1 0<|.ite 0 (.f<|.c 0<|.r 0)<|.l 10<|.i 0<|.sel [0,1,11,12,14]<|.loop [0] ij
theorem sQ:aM Tryz.prog 31 Tryz.f31 bO tB sd=some ([(true,4)],jm):=by kernel_rfl
def uN:List aQ:=[⟨3000002,2,⟨[aa 3 3,aa 2 1,aa 0 4],[],0,0,5,[]⟩,[]⟩]
def wd:List (Nat×Nat×Bool×List Nat):=[]
def jd:UP:=.i 0<|.b .gtr 1 0<|.ite 0 (.i 2<|.b .rem 3 0<|.a 5 0<|.i 2<|.b .quo 6 0<|.jump 0 [2,0])<|.c 3<|.r 3
def kJ:UP:=.i 0<|.i 0<|.loop [0,2] jd
theorem vB:aM Tryz.prog 103 Tryz.f103 bO uN wd=some ([(false,1)],kJ):=by kernel_rfl
def uR:List aQ:=[]
def u6:List (Nat×Nat×Bool×List Nat):=[]
def kK:UP:=.f<|.cl 103 [(false,[2])] au<|.cl 103 [(false,[2])] au<|.b .neq 1 0<|.ite 0 (.sel [4,5]<|.cl 103 [(false,[1])] au<|.cl 103 [(false,[1])] au<|.b .lss 1 0<|.c 0<|.r 0)<|.b .lss 5 4<|.c 0<|.r 0
theorem vn:aM Tryz.prog 68 Tryz.f68 bO uR u6=some ([(false,1),(false,1)],kK):=by kernel_rfl
def td:List aQ:=[⟨2000003,1,⟨[aa 108 23,aa 71 22,aa 5 20,aa 26 18,aa 4 15,aa 3 16,aa 21 12,aa 2 4,aC 1 0 0 0,(0,.p true [.d 0,.d 1,.d 2,.d 3])],[(0,.var 0 38 [.d 0,.d 1,.d 2,.d 3])],1,1,24,[(22,true),(18,false),(12,false),(9,false),(6,false),(4,false)]⟩,[]⟩,⟨3000011,1,⟨[aa 5 20,aa 26 18,aa 4 15,aa 3 16,aa 21 12,aa 2 4,aC 1 0 0 0,(0,.p true [.d 0,.d 1,.d 2,.d 3])],[(0,.var 0 38 [.d 0,.d 1,.d 2,.d 3])],1,1,21,[(18,false),(12,false),(9,false),(6,false),(4,false)]⟩,[]⟩,⟨2000001,2,⟨[aa 3 19,aa 59 20,aa 26 18,aa 4 15,aa 21 12,aa 2 4,aC 1 0 0 0,(0,.p true [.d 0,.d 1,.d 2,.d 3])],[(0,.var 0 38 [.d 0,.d 1,.d 2,.d 3])],1,1,21,[(18,true),(12,false),(9,false),(6,false),(4,false)]⟩,[]⟩,⟨3000005,2,⟨[aa 4 15,aa 3 16,aa 21 12,aa 2 4,aC 1 0 0 0,(0,.p true [.d 0,.d 1,.d 2,.d 3])],[(0,.var 0 38 [.d 0,.d 1,.d 2,.d 3])],1,1,17,[(12,false),(9,false),(6,false),(4,false)]⟩,[]⟩]
def sm:List (Nat×Nat×Bool×List Nat):=[(13,35,false,[]),(7,31,false,[])]
def dY:UP:=.i 1<|.a 4 0<|.jump 0 [0,3]
def iK:UP:=.i 1<|.a 2 0<|.jump 1 [0]
def iC:UP:=.l 3<|.b .lss 1 0<|.ite 0 (.sel [2,5,6]<|.join 1 iK<|.z 0<|.x 1 1 0<|.c 0<|.cl 51 [(false,[0])] au<|.n 0<|.c 0<|.ite 0 (.t<|.c 0<|.t<|.c 0<|.ite 0 (.f<|.c 0<|.r 0)<|.jump 2 [0])<|.i 0<|.b .gtr 4 0<|.c 0<|.ite 0 (.i 1<|.b .sub 6 0<|.c 0<|.z 0<|.x 1 8 0<|.c 0<|.z 8<|.x 1 9 8<|.c 0<|.b .geq 1 0<|.c 0<|.c 0<|.c 0<|.ite 0 (.t<|.c 0<|.ite 0 (.f<|.c 0<|.r 0)<|.jump 2 [0])<|.z 10<|.x 1 11 10<|.c 0<|.c 13<|.e 0 13<|.c 0<|.c 0<|.ite 0 (.f<|.c 0<|.r 0)<|.jump 2 [0])<|.f<|.c 0<|.c 0<|.z 6<|.x 1 7 6<|.c 0<|.c 9<|.e 0 9<|.c 0<|.c 0<|.ite 0 (.f<|.c 0<|.r 0)<|.jump 2 [0])<|.l 5<|.i 1<|.b .shl 0 1<|.i 1<|.b .sub 1 0<|.e 9 0<|.c 0<|.r 0
def iR:UP:=.l 4<|.b .lss 2 0<|.ite 0 (.sel [2,3,6,7]<|.join 2 dY<|.z 1<|.x 1 2 1<|.c 0<|.l 4<|.c 0<|.i 1<|.b .shl 0 1<|.c 0<|.i 1<|.b .sub 1 0<|.c 0<|.i 1<|.sel [0,1,6,7,8,9]<|.cl 52 [(false,[2]),(false,[0]),(false,[1])] au<|.n 0<|.c 0<|.ite 0 (.t<|.c 0<|.ite 0 (.f<|.c 0<|.r 0)<|.z 7<|.x 1 8 7<|.b .or 7 0<|.jump 1 [0,2])<|.i 0<|.b .gtr 7 0<|.c 0<|.ite 0 (.i 1<|.b .sub 9 0<|.c 0<|.z 0<|.x 1 11 0<|.c 0<|.z 11<|.x 1 12 11<|.c 0<|.sel [0,1,11,12,13]<|.cl 53 [(false,[1]),(false,[0])] au<|.n 0<|.c 0<|.c 0<|.c 0<|.ite 0 (.f<|.c 0<|.r 0)<|.z 5<|.x 1 6 5<|.b .or 5 0<|.jump 1 [0,2])<|.f<|.c 0<|.c 0<|.ite 0 (.f<|.c 0<|.r 0)<|.z 9<|.x 1 10 9<|.b .or 9 0<|.jump 1 [0,2])<|.i 0<|.sel [0,3,8,9]<|.loop [0] iC
def jr:UP:=.f<|.cl 51 [(false,[4])] au<|.n 0<|.ite 0 (.t<|.t<|.f<|.c 0<|.r 0)<|.l 4<|.i 5<|.b .gtr 1 0<|.ite 0 (.t<|.f<|.c 0<|.r 0)<|.l 6<|.i 10<|.b .gtr 1 0<|.ite 0 (.f<|.c 0<|.r 0)<|.i 0<|.i 0<|.sel [0,1,11,12,14]<|.loop [0,1] iR
theorem rV:aM Tryz.prog 19 Tryz.f19 bO td sm=some ([(true,4)],jr):=by kernel_rfl
def vp:List aQ:=[]
def tP:List (Nat×Nat×Bool×List Nat):=[]
def kN:UP:=.f<|.cl 89 [(false,[2])] au<|.cl 89 [(false,[2])] au<|.b .lss 1 0<|.ite 0 (.t<|.c 0<|.r 0)<|.sel [4,5]<|.cl 89 [(false,[1])] au<|.cl 89 [(false,[1])] au<|.e 1 0<|.ite 0 (.b .lss 4 3<|.c 0<|.r 0)<|.f<|.c 0<|.r 0
theorem vy:aM Tryz.prog 53 Tryz.f53 bO vp tP=some ([(false,1),(false,1)],kN):=by kernel_rfl
def xC:List aQ:=[⟨3000003,2,⟨[aa 4 3,aa 3 4,aa 2 1,aa 0 0],[],0,0,5,[]⟩,[]⟩]
def ww:List (Nat×Nat×Bool×List Nat):=[]
def kj:UP:=.i 0<|.b .gtr 2 0<|.ite 0 (.i 1<|.b .and 4 0<|.a 4 0<|.po (.k (.int .u64 1))<|.b .shr 7 0<|.jump 0 [0,2])<|.c 2<|.r 2
def mj:UP:=.i 0<|.i 0<|.loop [2,0] kj
theorem xu:aM Tryz.prog 89 Tryz.f89 bO xC ww=some ([(false,1)],mj):=by kernel_rfl
def sB:List aQ:=[]
def sR:List (Nat×Nat×Bool×List Nat):=[]
def jB:UP:=.f<|.b .neq 8 4<|.ite 0 (.f<|.c 0<|.r 0)<|.po (.bin .neq true 8 4)<|.ite 0 (.f<|.c 0<|.r 0)<|.sel [3,4,7,8]<|.cl 41 [(false,[3]),(false,[1])] au<|.n 0<|.ite 0 (.f<|.c 0<|.r 0)<|.sel [2,4]<|.cl 42 [(false,[1]),(false,[0])] au<|.n 0<|.ite 0 (.f<|.c 0<|.r 0)<|.t<|.c 0<|.r 0
theorem rQ:aM Tryz.prog 11 Tryz.f11 bO sB sR=some ([(true,4),(true,4)],jB):=by kernel_rfl
def rJ:List aQ:=[]
def tg:List (Nat×Nat×Bool×List Nat):=[]
def ke:UP:=.i 0<|.m 5<|.b .sub 2 0<|.i 0<|.b .lss 1 0<|.ite 0 (.i (-1)<|.c 0<|.r 0)<|.sel [2,6,7]<|.cl 15 [(false,[2]),(false,[0])] au<|.i 0<|.b .lss 1 0<|.ite 0 (.i (-1)<|.c 0<|.r 0)<|.sel [2,4]<|.cl 16 [(false,[1]),(false,[0])] au<|.i 0<|.b .lss 1 0<|.ite 0 (.i (-1)<|.c 0<|.r 0)<|.c 2<|.r 2
theorem sP:aM Tryz.prog 4 Tryz.f4 bO rJ tg=some ([(true,4),(false,1)],ke):=by kernel_rfl
def tf:List aQ:=[]
def rX:List (Nat×Nat×Bool×List Nat):=[]
def jG:UP:=.s #[]<|.f<|.s #[]<|.f<|.sel [4,5,6,7]<|.cl 27 [(false,[1])] la<|.cl 28 [(false,[1])] Fm<|.c 5<|.c 4<|.ret [(true,[5,4,1,0])]
theorem tI:aM Tryz.prog 7 Tryz.f7 bO tf rX=some ([(true,4)],jG):=by kernel_rfl
open Go.RowKit Go.ChangeShapes Go.WideShapes Go.Deep
structure yd where
 response:ByteArray
 intercept:Bool
 variables:List ByteArray
 terms:List Int
 deriving DecidableEq
instance:Inhabited yd:=⟨⟨default,default,default,default⟩⟩
def bK(x:yd):List DV:=[.sc (.string x.response),.sc (.bool x.intercept),aq x.variables,aZ x.terms]
def eF(x:yd):Nat:=x.response.size+dt x.variables+x.terms.length
def JI(x:yd):Prop:=x.response.size<=9223372036854775807/\True/\Kr x.variables/\V2 x.terms
theorem Py:Lb bK JI Tryz.prog 25:=by
 intro H enc w base spare held fuel cs x h;obtain⟨hl,n,hf⟩:=Dq Tryz.underlying25 h;obtain⟨y0,t0⟩:=hf 0 _ rfl;obtain⟨a0,r0,i0⟩:=Ew Tryz.underlying9 H enc w base spare held n _ _ t0;obtain⟨y1,t1⟩:=hf 1 _ rfl;obtain⟨a1,r1,i1⟩:=Le Tryz.underlying4 H enc w base spare held n _ _ t1;obtain⟨y2,t2⟩:=hf 2 _ rfl;obtain⟨a2,r2,i2⟩:=ES H enc w base spare held n _ _ t2;obtain⟨y3,t3⟩:=hf 3 _ rfl;obtain⟨a3,r3,i3⟩:=Td H enc w base spare held n _ _ t3;exact⟨⟨a0,a1,a2,a3⟩,cr (o:=0) (k:=1) (cT r0 rfl (by kernel_rfl)) (cr (o:=1) (k:=1) (cT r1 rfl (by kernel_rfl)) (cr (o:=2) (k:=1) (cT r2 rfl (by kernel_rfl)) (cr (o:=3) (k:=1) (cT r3 rfl (by kernel_rfl)) (BX hl (by kernel_rfl))))),i0,i1,i2,i3⟩
theorem QE(x:yd)(left:Int)(ok:JI x)(h0:0<=left)(h1:left<=1048576):aB Tryz.prog 4 [(true,bK x),(false,[.sc (.int .i64 left)])] [(false,[.sc (.int .i64 (JN left (eF x)))],true)]:=by
 obtain⟨x0,x1,x2,x3⟩:=x;obtain⟨k0,k1,k2,k3⟩:=ok;simp only at k0 k1 k2 k3;refine ah Tryz.func4 sP rfl ?_;simp only[ke];simp only[bK];simp(disch:=first|omega|(simp only[ax];omega)|simp only[av,Nat.reduceAdd]) only[go_sem,true_and];refine eJ (λhbr=>?_) (λhbr=>?_)
 ·simp(disch:=first|omega|(simp only[ax];omega)|simp only[av,Nat.reduceAdd]) only[go_sem,true_and];exact dz (bS (by simp only[eF];omega))
 simp(disch:=first|omega|(simp only[ax];omega)|simp only[av,Nat.reduceAdd]) only[go_sem,true_and];refine ac (EA x2 (left-((x0.size:Nat):Int)) k2 (by omega) (by omega)) rfl ?_;by_cases hwvariables:((dt x2:Nat):Int)<=left-((x0.size:Nat):Int);rotate_left
 ·have hs:=bS (left:=left-((x0.size:Nat):Int)) (wt:=dt x2) (by omega);simp(disch:=first|omega|(simp only[ax];omega)|simp only[av,Nat.reduceAdd]) only[go_sem,hs];exact dz (bS (by simp only[eF];omega))
 have hsvariables:=dl hwvariables;have hdvariables:decide (left-((x0.size:Nat):Int)-((dt x2:Nat):Int)<0)=false:=decide_eq_false (by omega);simp(disch:=first|omega|(simp only[ax];omega)|simp only[av,Nat.reduceAdd]) only[go_sem,hsvariables,hdvariables];refine ac (Vj x3 (left-((x0.size:Nat):Int)-((dt x2:Nat):Int)) k3.1 (by omega) (by omega)) rfl ?_;by_cases hwterms:((x3.length:Nat):Int)<=left-((x0.size:Nat):Int)-((dt x2:Nat):Int);rotate_left
 ·have hs:=bS (left:=left-((x0.size:Nat):Int)-((dt x2:Nat):Int)) (wt:=x3.length) (by omega);simp(disch:=first|omega|(simp only[ax];omega)|simp only[av,Nat.reduceAdd]) only[go_sem,hs];exact dz (bS (by simp only[eF];omega))
 have hsterms:=dl hwterms;have hdterms:decide (left-((x0.size:Nat):Int)-((dt x2:Nat):Int)-((x3.length:Nat):Int)<0)=false:=decide_eq_false (by omega);simp(disch:=first|omega|(simp only[ax];omega)|simp only[av,Nat.reduceAdd]) only[go_sem,hsterms,hdterms];exact dz (by rw[dl (by simp only[eF];omega)]<;>(simp only[eF];try omega))
theorem Qf(x:yd)(hw:eF x<=1048576):aB Tryz.prog 7 [(true,bK x)] [(true,bK x,true)]:=by
 obtain⟨x0,x1,x2,x3⟩:=x;simp only[eF]at hw;have cvariables:=D7 x2 (b9 (n:=1048576) (by omega));have cterms:=Tx x3 (by omega);refine ah Tryz.func7 tI rfl ?_;simp only[jG];simp only[bK]
 repeat' (first|(with_reducible first|refine ae ?_|refine ac ‹_› rfl ?_|refine ab ‹_› rfl ?_|refine ak (λhbr=>?_) λhbr=>?_)|simp(disch:=first|omega|(simp only[ax];omega)|simp only[av,Nat.reduceAdd]) only[go_sem,true_and])
 rfl
theorem Qh(x:yd)(hw:eF x<=10000000000):aB Tryz.prog 11 [(true,bK x),(true,bK x)] [(false,[.sc (.bool true)],true)]:=by
 obtain⟨x0,x1,x2,x3⟩:=x;simp only[eF]at hw;have cvariables:=EU x2 (b9 (n:=100000000000) (by omega));have cterms:=VH x3 (by omega);refine ah Tryz.func11 rQ rfl ?_;simp only[jB];simp only[bK]
 repeat' (first|(with_reducible first|refine ae ?_|refine ac ‹_› rfl ?_|refine ab ‹_› rfl ?_|refine ak (λhbr=>?_) λhbr=>?_)|simp(disch:=first|omega|(simp only[ax];omega)|simp only[av,Nat.reduceAdd]) only[go_sem,eq_self])
 rfl
def Gu(n:Int):Int:=(vV n.toNat:Nat)
theorem A5(n:Int)(hn:n<=9223372036854775807):aB Tryz.prog 103 [(false,[.sc (.int .i64 n)])] [(false,[.sc (.int .i64 (Gu n))],true)]:=by
 refine ah Tryz.func103 vB rfl ?_;simp only[kJ];simp(disch:=first|omega|(simp only[ax];omega)|simp only[av,Nat.reduceAdd]) only[go_sem,true_and];refine lp (λs:Int×Nat=>[.sc (.int .i64 (s.2:Nat)),.sc (.int .i64 s.1)]) (λs=>s.1<=9223372036854775807/\(s.1<=0\/s.2+s.1<=n)/\s.2+vV s.1.toNat=vV n.toNat) (λs=>s.1.toNat) (n,0) rfl ⟨hn,by simp,by simp⟩ ?_;rintro⟨x,c⟩ ⟨h1,h2,h3⟩;simp only at h1 h2 h3 ⊢;simp only[jd]
 repeat' (first|(with_reducible first|refine ae ?_|refine ac ‹_› rfl ?_|refine ab ‹_› rfl ?_|refine ak (λhbr=>?_) λhbr=>?_)|simp(disch:=first|omega|(simp only[ax];omega)|simp only[av,Nat.reduceAdd]) only[go_sem,true_and])
 ·obtain⟨m,rfl⟩:=Int.eq_ofNat_of_zero_le (show 0<=x from by omega);have e1:(m:Int).tmod 2=((m % 2:Nat):Int):=rfl;have e2:(m:Int).tdiv 2=((m / 2:Nat):Int):=rfl;have hm:m≠0:=by omega
  have hb:=Aq hm;have hb2:=zG m;simp only[Int.toNat_natCast]at h3;have hb3:=zG n.toNat;simp(disch:=first|omega|(simp only[ax];omega)|simp only[av,Nat.reduceAdd]) only[go_sem,e1,e2];refine⟨(((m / 2:Nat):Int),c+m % 2),rfl,⟨?_,?_,?_⟩,?_⟩
  all_goals (simp only[Int.toNat_natCast];omega)
 ·refine dz ?_;have:vV x.toNat=0:=by rw[show x.toNat=0 from by omega,xm]
  unfold Gu;omega
theorem CS(n:Int)(hn:n<=9223372036854775807):aB Tryz.prog 89 [(false,[.sc (.int .i64 n)])] [(false,[.sc (.int .i64 (Gu n))],true)]:=by
 refine ah Tryz.func89 xu rfl ?_;simp only[mj];simp(disch:=first|omega|(simp only[ax];omega)|simp only[av,Nat.reduceAdd]) only[go_sem,true_and];refine lp (λs:Int×Nat=>[.sc (.int .i64 s.1),.sc (.int .i64 (s.2:Nat))]) (λs=>s.1<=9223372036854775807/\(s.1<=0\/s.2+s.1<=n)/\s.2+vV s.1.toNat=vV n.toNat) (λs=>s.1.toNat) (n,0) rfl ⟨hn,by simp,by simp⟩ ?_;rintro⟨x,c⟩ ⟨h1,h2,h3⟩;simp only at h1 h2 h3 ⊢;simp only[kj]
 repeat' (first|(with_reducible first|refine ae ?_|refine ac ‹_› rfl ?_|refine ab ‹_› rfl ?_|refine ak (λhbr=>?_) λhbr=>?_)|simp(disch:=first|omega|(simp only[ax];omega)|simp only[av,Nat.reduceAdd]) only[go_sem,true_and])
 ·obtain⟨m,rfl⟩:=Int.eq_ofNat_of_zero_le (show 0<=x from by omega);have e1:=@Sw false m 1 (by omega);have e2:=@Ss false .u64 m 1 (by omega);have e3:m &&& 1=m % 2:=Nat.and_one_is_mod m;have hm:m≠0:=by omega
  have hb:=Aq hm;have hb2:=zG m;simp only[Int.toNat_natCast]at h3;have hb3:=zG n.toNat;simp only[Int.natCast_one,Nat.pow_one,e3]at e1 e2;simp(disch:=first|omega|(simp only[ax];omega)|simp only[av,Nat.reduceAdd]) only[go_sem,e1,e2,e3];refine⟨(((m / 2:Nat):Int),c+m % 2),rfl,⟨?_,?_,?_⟩,?_⟩
  all_goals (simp only[Int.toNat_natCast];omega)
 ·refine dz ?_;have:vV x.toNat=0:=by rw[show x.toNat=0 from by omega,xm]
  unfold Gu;omega
def Gd(a b:Int):Bool:=decide (Gu a<Gu b)||(decide (Gu a=Gu b)&&decide (a<b))
theorem Iy(a b:Int)(ha:a<=9223372036854775807)(hb:b<=9223372036854775807):aB Tryz.prog 68 [(false,[.sc (.int .i64 a)]),(false,[.sc (.int .i64 b)])] [(false,[.sc (.bool (Gd a b))],true)]:=by
 have h1:=A5 a ha;have h2:=A5 b hb;refine ah Tryz.func68 vn rfl ?_;simp only[kK]
 repeat' (first|(with_reducible first|refine ae ?_|refine ac ‹_› rfl ?_|refine ab ‹_› rfl ?_|refine ak (λhbr=>?_) λhbr=>?_)|simp(disch:=first|omega|(simp only[ax];omega)|simp only[av,Nat.reduceAdd]) only[go_sem,true_and])
 all_goals (refine aO ?_;unfold Gd;rw[Bool.eq_iff_iff];simp;omega)
theorem Hg(a b:Int)(ha:a<=9223372036854775807)(hb:b<=9223372036854775807):aB Tryz.prog 53 [(false,[.sc (.int .i64 a)]),(false,[.sc (.int .i64 b)])] [(false,[.sc (.bool (Gd a b))],true)]:=by
 have h1:=CS a ha;have h2:=CS b hb;refine ah Tryz.func53 vy rfl ?_;simp only[kN]
 repeat' (first|(with_reducible first|refine ae ?_|refine ac ‹_› rfl ?_|refine ab ‹_› rfl ?_|refine ak (λhbr=>?_) λhbr=>?_)|simp(disch:=first|omega|(simp only[ax];omega)|simp only[av,Nat.reduceAdd]) only[go_sem,true_and])
 all_goals (refine aO ?_;unfold Gd;rw[Bool.eq_iff_iff];simp;omega)
def ej(f:yd)(i:Nat):Bool:=nB (f.variables.getD i default)&&(!decide (f.variables.getD i default=f.response)&&(decide (i=0)||Op.bytesLess (f.variables.getD (i-1) default).toList (f.variables.getD i default).toList))
def jg(f:yd)(i:Nat):Bool:=decide (1<=f.terms.getD i default/\f.terms.getD i default<((2^f.variables.length:Nat):Int))&&(decide (i=0)||Gd (f.terms.getD (i-1) default) (f.terms.getD i default))
def Xi(l:List Int):Nat->Nat
 |0=>0
 |i+1=>Xi l i ||| (l.getD i default).toNat
def mJ(f:yd):Bool:=nB f.response&&(decide (f.variables.length<=5)&&(decide (f.terms.length<=10)&&(bg (ej f) f.variables.length&&(bg (jg f) f.terms.length&&decide (Xi f.terms f.terms.length=2^f.variables.length-1)))))
theorem Ej{f:yd}{i:Nat}(h:i<f.variables.length)(hp:ej f i=false):mJ f=false:=by unfold mJ;rw[bB h hp];simp
theorem GL{f:yd}{i:Nat}(h:i<f.terms.length)(hp:jg f i=false):mJ f=false:=by unfold mJ;rw[bB h hp];simp
theorem HP{f:yd}:∀i,bg (jg f) i=true->Xi f.terms i<2^f.variables.length
 |0,_=>Nat.pow_pos (by decide)
 |i+1,h=>by
  rw[dR,Bool.and_eq_true]at h;have h1:=HP i h.1;have h2:=h.2;unfold jg at h2;rw[Bool.and_eq_true,decide_eq_true_eq]at h2;exact Nat.or_lt_two_pow h1 (by omega)
theorem Jy{n:Nat}(h:n<=5):2^n<=32:=Nat.pow_le_pow_right (n:=2) (by decide) h
def FA(f:yd):Prop:=f.response.size<=100000000000/\f.variables.length<=100000000000/\(∀x∈f.variables,x.size<=100000000000)/\f.terms.length<=100000000000/\∀x∈f.terms,x<=9223372036854775807
theorem Gm{f:yd}(h:¬f.variables.length<=5):mJ f=false:=by unfold mJ;simp[h]
theorem Di{f:yd}(h:¬f.terms.length<=10):mJ f=false:=by unfold mJ;simp[h]
theorem l7{f:yd}(h:nB f.response=false):mJ f=false:=by unfold mJ;simp[h]
set_option maxHeartbeats 2000000 in
theorem KO(f:yd)(ok:FA f):aB Tryz.prog 31 [(true,bK f)] [(false,[.sc (.bool (mJ f))],true)]:=by
 obtain⟨hr,hv,hs,ht,hz⟩:=ok;have h1:=Be f.response hr;have h2:=λi=>Be (f.variables.getD i default) (JQ hs i)
 have h3:=λi=>Iy (f.terms.getD (i-1) default) (f.terms.getD i default) (vR (by decide) hz _) (vR (by decide) hz _)
 refine ah Tryz.func31 sQ rfl ?_;simp only[jm];simp only[bK,aq,aZ];by_cases h5:f.variables.length<=5;rotate_left
 ·repeat' (first|(with_reducible first|refine ae ?_|refine ac ‹_› rfl ?_|refine ab ‹_› rfl ?_|refine ak (λhbr=>?_) λhbr=>?_)|simp(disch:=first|omega|(simp only[ax];omega)|simp only[av,Nat.reduceAdd]) only[go_sem,true_and])
  all_goals first|omega|(refine aO ?_;first|exact Gm h5|exact l7 (by assumption))
 have hp:=Jy h5;by_cases h10:f.terms.length<=10;rotate_left
 ·repeat' (first|(with_reducible first|refine ae ?_|refine ac ‹_› rfl ?_|refine ab ‹_› rfl ?_|refine ak (λhbr=>?_) λhbr=>?_)|simp(disch:=first|omega|(simp only[ax];omega)|simp only[av,Nat.reduceAdd]) only[go_sem,true_and])
  all_goals first|omega|(refine aO ?_;first|exact Di h10|exact l7 (by assumption))
 simp(disch:=first|omega|(simp only[ax];omega)|simp only[av,Nat.reduceAdd]) only[go_sem,true_and];refine ac h1 rfl ?_;cases hn:nB f.response
 ·simp(disch:=first|omega|(simp only[ax];omega)|simp only[av,Nat.reduceAdd]) only[go_sem,true_and];refine aO ?_;exact l7 hn
 simp(disch:=first|omega|(simp only[ax];omega)|simp only[av,Nat.reduceAdd]) only[go_sem,true_and];refine eJ (λhbr=>?_) (λhbr=>?_)
 ·omega
 simp(disch:=first|omega|(simp only[ax];omega)|simp only[av,Nat.reduceAdd]) only[go_sem,true_and];refine eJ (λhbr=>?_) (λhbr=>?_)
 ·omega
 simp(disch:=first|omega|(simp only[ax];omega)|simp only[av,Nat.reduceAdd]) only[go_sem,true_and];refine lp (λi:Nat=>[.sc (.int .i64 i)]) (λi=>i<=f.variables.length/\bg (ej f) i=true) (λi=>f.variables.length-i) 0 rfl ⟨by omega,rfl⟩ ?_;rintro i ⟨hi,hb⟩;have h2i:=h2 i;simp only[ij]
 repeat' (first|(with_reducible first|refine ae ?_|refine ac ‹_› rfl ?_|refine ab ‹_› rfl ?_|refine ak (λhbr=>?_) λhbr=>?_)|simp(disch:=first|omega|(simp only[ax];omega)|simp only[av,Nat.reduceAdd]) only[go_sem,iu])
 ·exact aO (Ej (i:=i) (by omega) (by(first|(simp[-List.getD_eq_getElem?_getD,ej, *];done)|(simp_all[-List.getD_eq_getElem?_getD,ej];done)|(simp[-List.getD_eq_getElem?_getD,ej, *];omega)|(simp_all[-List.getD_eq_getElem?_getD,ej];omega)|omega)))
 ·exact⟨i+1,rfl,⟨by omega,bf hb (by(first|(simp[-List.getD_eq_getElem?_getD,ej, *];done)|(simp_all[-List.getD_eq_getElem?_getD,ej];done)|(simp[-List.getD_eq_getElem?_getD,ej, *];omega)|(simp_all[-List.getD_eq_getElem?_getD,ej];omega)|omega))⟩,by omega⟩
 ·exact aO (Ej (i:=i) (by omega) (by(first|(simp[-List.getD_eq_getElem?_getD,ej, *];done)|(simp_all[-List.getD_eq_getElem?_getD,ej];done)|(simp[-List.getD_eq_getElem?_getD,ej, *];omega)|(simp_all[-List.getD_eq_getElem?_getD,ej];omega)|omega)))
 ·exact⟨i+1,rfl,⟨by omega,bf hb (by(first|(simp[-List.getD_eq_getElem?_getD,ej, *];done)|(simp_all[-List.getD_eq_getElem?_getD,ej];done)|(simp[-List.getD_eq_getElem?_getD,ej, *];omega)|(simp_all[-List.getD_eq_getElem?_getD,ej];omega)|omega))⟩,by omega⟩
 ·exact aO (Ej (i:=i) (by omega) (by(first|(simp[-List.getD_eq_getElem?_getD,ej, *];done)|(simp_all[-List.getD_eq_getElem?_getD,ej];done)|(simp[-List.getD_eq_getElem?_getD,ej, *];omega)|(simp_all[-List.getD_eq_getElem?_getD,ej];omega)|omega)))
 obtain rfl:i=f.variables.length:=by omega
 refine lp (λi:Nat=>[.sc (.int .i64 i),.sc (.int .i64 (Xi f.terms i:Nat))]) (λi=>i<=f.terms.length/\bg (jg f) i=true) (λi=>f.terms.length-i) 0 rfl ⟨by omega,rfl⟩ ?_;rintro i ⟨hi,hb2⟩;have h3i:=h3 i;have ho:=HP i hb2;simp only[iD]
 repeat' (first|(with_reducible first|refine ae ?_|refine ac ‹_› rfl ?_|refine ab ‹_› rfl ?_|refine ak (λhbr=>?_) λhbr=>?_)|simp(disch:=first|omega|(simp only[ax];omega)|simp only[av,Nat.reduceAdd]) only[go_sem,iv,Int.toNat_natCast])
 all_goals first|(exact aO (GL (i:=i) (by omega) (by(first|(simp[-List.getD_eq_getElem?_getD,jg, *];done)|(simp_all[-List.getD_eq_getElem?_getD,jg];done)|(simp[-List.getD_eq_getElem?_getD,jg, *];omega)|(simp_all[-List.getD_eq_getElem?_getD,jg];omega)|omega))))|(exact⟨i+1,rfl,⟨by omega,bf hb2 (by(first|(simp[-List.getD_eq_getElem?_getD,jg, *];done)|(simp_all[-List.getD_eq_getElem?_getD,jg];done)|(simp[-List.getD_eq_getElem?_getD,jg, *];omega)|(simp_all[-List.getD_eq_getElem?_getD,jg];omega)|omega))⟩,by omega⟩)|skip
 obtain rfl:i=f.terms.length:=by omega
 refine aO ?_;have hq:=Nat.pow_pos (n:=f.variables.length) (show 0<2 from by decide);unfold mJ;rw[hn,hb,hb2,Bool.eq_iff_iff];generalize 2^f.variables.length=q at hq ⊢;simp[h5,h10];omega
set_option maxHeartbeats 2000000 in
theorem KY(f:yd)(ok:FA f):aB Tryz.prog 19 [(true,bK f)] [(false,[.sc (.bool (mJ f))],true)]:=by
 obtain⟨hr,hv,hs,ht,hz⟩:=ok;have h1:=Au f.response hr;have h2:=λi=>Au (f.variables.getD i default) (JQ hs i)
 have h3:=λi=>Hg (f.terms.getD (i-1) default) (f.terms.getD i default) (vR (by decide) hz _) (vR (by decide) hz _)
 have h4:=λi=>Ip (f.terms.getD i default) 1 (((2^f.variables.length:Nat):Int)-1)
 refine ah Tryz.func19 rV rfl ?_;simp only[jr];simp only[bK,aq,aZ];by_cases h5:f.variables.length<=5;rotate_left
 ·repeat' (first|(with_reducible first|refine ae ?_|refine ac ‹_› rfl ?_|refine ab ‹_› rfl ?_|refine ak (λhbr=>?_) λhbr=>?_)|simp(disch:=first|omega|(simp only[ax];omega)|simp only[av,Nat.reduceAdd]) only[go_sem,true_and])
  all_goals first|omega|(refine aO ?_;first|exact Gm h5|exact l7 (by assumption))
 have hp:=Jy h5;have hp0:=Nat.pow_pos (n:=f.variables.length) (show 0<2 from by decide);by_cases h10:f.terms.length<=10;rotate_left
 ·repeat' (first|(with_reducible first|refine ae ?_|refine ac ‹_› rfl ?_|refine ab ‹_› rfl ?_|refine ak (λhbr=>?_) λhbr=>?_)|simp(disch:=first|omega|(simp only[ax];omega)|simp only[av,Nat.reduceAdd]) only[go_sem,true_and])
  all_goals first|omega|(refine aO ?_;first|exact Di h10|exact l7 (by assumption))
 simp(disch:=first|omega|(simp only[ax];omega)|simp only[av,Nat.reduceAdd]) only[go_sem,true_and];refine ac h1 rfl ?_;cases hn:nB f.response
 ·simp(disch:=first|omega|(simp only[ax];omega)|simp only[av,Nat.reduceAdd]) only[go_sem,true_and];refine aO ?_;exact l7 hn
 simp(disch:=first|omega|(simp only[ax];omega)|simp only[av,Nat.reduceAdd]) only[go_sem,true_and];refine eJ (λhbr=>?_) (λhbr=>?_)
 ·omega
 simp(disch:=first|omega|(simp only[ax];omega)|simp only[av,Nat.reduceAdd]) only[go_sem,true_and];refine eJ (λhbr=>?_) (λhbr=>?_)
 ·omega
 simp(disch:=first|omega|(simp only[ax];omega)|simp only[av,Nat.reduceAdd]) only[go_sem,true_and];refine lp (λi:Nat=>[.sc (.int .i64 i),.sc (.int .i64 (Xi f.terms i:Nat))]) (λi=>i<=f.terms.length/\bg (jg f) i=true) (λi=>f.terms.length-i) 0 rfl ⟨by omega,rfl⟩ ?_;rintro i ⟨hi,hb2⟩;have h3i:=h3 i;have h4i:=h4 i;have ho:=HP i hb2;simp only[iR];simp(disch:=first|omega|(simp only[ax];omega)|simp only[av,Nat.reduceAdd]) only[go_sem,true_and];refine eJ (λhbr=>?_) (λhbr=>?_)
 ·cases hx:decide (1<=f.terms.getD i default/\f.terms.getD i default<=((2^f.variables.length:Nat):Int)-1)
  ·rw[hx]at h4i
   repeat' (first|(with_reducible first|refine ae ?_|refine ac ‹_› rfl ?_|refine ab ‹_› rfl ?_|refine ak (λhbr=>?_) λhbr=>?_)|simp(disch:=first|omega|(simp only[ax];omega)|simp only[av,Nat.reduceAdd]) only[go_sem,dY,Int.toNat_natCast])
   all_goals exact aO (GL (i:=i) (by omega) (by rw[decide_eq_false_iff_not]at hx;unfold jg;rw[Bool.and_eq_false_iff];left;rw[decide_eq_false_iff_not];omega))
  ·rw[hx]at h4i;rw[decide_eq_true_eq]at hx
   repeat' (first|(with_reducible first|refine ae ?_|refine ac ‹_› rfl ?_|refine ab ‹_› rfl ?_|refine ak (λhbr=>?_) λhbr=>?_)|simp(disch:=first|omega|(simp only[ax];omega)|simp only[av,Nat.reduceAdd]) only[go_sem,dY,Int.toNat_natCast])
   all_goals first|(exact aO (GL (i:=i) (by omega) (by(first|(simp[-List.getD_eq_getElem?_getD,jg, *];done)|(simp_all[-List.getD_eq_getElem?_getD,jg];done)|(simp[-List.getD_eq_getElem?_getD,jg, *];omega)|(simp_all[-List.getD_eq_getElem?_getD,jg];omega)|omega))))|(exact⟨i+1,rfl,⟨by omega,bf hb2 (by(first|(simp[-List.getD_eq_getElem?_getD,jg, *];done)|(simp_all[-List.getD_eq_getElem?_getD,jg];done)|(simp[-List.getD_eq_getElem?_getD,jg, *];omega)|(simp_all[-List.getD_eq_getElem?_getD,jg];omega)|omega))⟩,by omega⟩)|skip
 obtain rfl:i=f.terms.length:=by omega
 simp(disch:=first|omega|(simp only[ax];omega)|simp only[av,Nat.reduceAdd]) only[go_sem,true_and];refine lp (λi:Nat=>[.sc (.int .i64 i)]) (λi=>i<=f.variables.length/\bg (ej f) i=true) (λi=>f.variables.length-i) 0 rfl ⟨by omega,rfl⟩ ?_;rintro i ⟨hi,hb⟩;have h2i:=h2 i;simp only[iC]
 repeat' (first|(with_reducible first|refine ae ?_|refine ac ‹_› rfl ?_|refine ab ‹_› rfl ?_|refine ak (λhbr=>?_) λhbr=>?_)|simp(disch:=first|omega|(simp only[ax];omega)|simp only[av,Nat.reduceAdd]) only[go_sem,iK])
 all_goals first|exact aO (Ej (i:=i) (by omega) (by(first|(simp[-List.getD_eq_getElem?_getD,ej, *];done)|(simp_all[-List.getD_eq_getElem?_getD,ej];done)|(simp[-List.getD_eq_getElem?_getD,ej, *];omega)|(simp_all[-List.getD_eq_getElem?_getD,ej];omega)|omega)))|exact⟨i+1,rfl,⟨by omega,bf hb (by(first|(simp[-List.getD_eq_getElem?_getD,ej, *];done)|(simp_all[-List.getD_eq_getElem?_getD,ej];done)|(simp[-List.getD_eq_getElem?_getD,ej, *];omega)|(simp_all[-List.getD_eq_getElem?_getD,ej];omega)|omega))⟩,by omega⟩|skip
 obtain rfl:i=f.variables.length:=by omega
 refine aO ?_;have hq:=Nat.pow_pos (n:=f.variables.length) (show 0<2 from by decide);unfold mJ;rw[hn,hb,hb2,Bool.eq_iff_iff];generalize 2^f.variables.length=q at hq ⊢;simp[h5,h10];omega
def YL:ByteArray:=⟨#[105,110,118,97,108,105,100,32,102,111,114,109,117,108,97]⟩
def YE:ByteArray:=⟨#[110,111,32,99,111,109,112,108,101,116,101,32,114,111,119,115]⟩
def Yq:ByteArray:=⟨#[114,101,115,112,111,110,115,101,32,105,115,32,110,111,116,32,110,117,109,101,114,105,99]⟩
def Rp(cols:List aX)(ns:List ByteArray)(l:List Int):aX×ByteArray:=
 if l=[]then(fV 0 [],YE)else if BN (cols.getD 0 default)=3\/cR (cols.getD 0 default)=true then(fV 0 [],Yq)else K6 cols ns l
def QX(d:aX)(ns:List ByteArray):aX×ByteArray:=if(q8 d ns).2=eh then Rp (q8 d ns).1.kids ns (FJ (q8 d ns).1.kids (nR (q8 d ns).1.kids))else(fV 0 [],(q8 d ns).2)
def EC(f:yd)(d:aX):aX×ByteArray:=if mJ f=true then QX d (f.response::f.variables)else(fV 0 [],YL)
theorem IX{d:aX}{names:List ByteArray}(hn:names.length<=40)(h:(q8 d names).2=eh):∃cols,(q8 d names).1=eM cols names/\Ea (eM cols names)=true:=by
 unfold q8 at h ⊢;split at h
 ·rename_i hf;rw[if_pos hf];obtain⟨k,its,ps,ns,cl,lv,c,e⟩:=d;have F:=RN hf;simp only[O9,aX.kids]at h ⊢;unfold Ko at h ⊢;split at h
  ·rename_i h1;rw[if_pos h1];have hc:=wa F hn h1;unfold OM at h ⊢;split at h
   ·rename_i h2;rw[if_pos h2];unfold qv at h ⊢;split at h
    ·rename_i h3;rw[if_pos h3];exact⟨_,rfl,by rw[LN hc h2.2 h2.1];exact h3⟩
    ·exact absurd h (by decide)
   ·exact absurd h (by decide)
  ·exact absurd h (by decide)
 ·exact absurd h (by decide)
theorem WK{p:aX}{n:Int}(h:l8 p n=true)(hv:d9 2 p=true){l:List Int}(hl:l.length<=40):∃k its cl lv,de p l=.mk k its [] [] cl lv 0 0/\ck (.mk k its [] [] cl lv 0 0)<=1000000000/\
 ((cR (.mk k its [] [] cl lv 0 0)=true/\k=2/\cl=[i9]/\lv≠[]/\I3 2 its [i9] lv/\wH p l=Ci its lv)\/(cR (.mk k its [] [] cl lv 0 0)=false/\k=3/\cl=[]/\lv=[]/\DF its/\wH p l=Cu its)\/(cR (.mk k its [] [] cl lv 0 0)=false/\k≠3/\wH p l=(de p l,eh))):=by
 obtain⟨k,its,cl,lv,-,h2,h3,h4,h5,h6,-⟩:=ql h hv hl;have hfac:=EK h6;have hwt:=I6 h6;have hil:(l.map (cz its bC)).length<=40:=by rw[List.length_map];exact hl
 generalize l.map (cz its bC)=J at *;have hq1:cR (.mk k J [] [] cl lv 0 0)=true->wH p l=Ci J lv:=λe=>by unfold wH;rw[h2,if_pos e];rfl
 have hq2:cR (.mk k J [] [] cl lv 0 0)=false->k=3->wH p l=Cu J:=λe e'=>by unfold wH;rw[h2,if_neg (by rw[e];simp),if_pos (show BN (.mk k J [] [] cl lv 0 0)=3 from e')];rfl
 have hq3:cR (.mk k J [] [] cl lv 0 0)=false->¬k=3->wH p l=(de p l,eh):=λe e'=>by unfold wH;rw[h2,if_neg (by rw[e];simp),if_neg (show¬BN (.mk k J [] [] cl lv 0 0)=3 from e')]
 refine⟨k,J,cl,lv,h2,by omega,?_⟩;rcases h5 with⟨rfl,rfl⟩|⟨h7,rfl,rfl⟩
 ·have e:AF [] []=false:=rfl;rw[e]at hfac;by_cases hk:k=3
  ·subst hk;refine .inr (.inl ⟨hfac,rfl,rfl,rfl,⟨hil,λx hx=>?_⟩,hq2 hfac rfl⟩);have:=(vf (gZ 2 _ h6)).it x hx;unfold dk at this;simp only[Bool.and_eq_true]at this;exact this.1
  ·exact .inr (.inr ⟨hfac,hk,hq3 hfac hk⟩)
 ·rw[zQ h7]at hfac;exact .inl ⟨hfac,rfl,rfl,h7,⟨h6,h3,h4⟩,hq1 hfac⟩
theorem B3{α:Type}(f g:α->Nat):∀l:List α,(∀x∈l,f x<=g x)->aA f l<=aA g l
 |[],_=>Nat.le_refl _
 |a::l,h=>by
  have h1:=B3 f g l λx hx=>h x (List.mem_cons_of_mem _ hx)
  have h2:=h a (List.mem_cons_self ..);unfold aA at h1 ⊢;simp only[List.map_cons,List.sum_cons];omega
theorem Qg{cols:List aX}{names:List ByteArray}(hf:Ea (eM cols names)=true){l:List Int}(hl:l.length<=nR cols):OM (cols.map λp=>de p l) names=(eM (cols.map λp=>de p l) names,eh):=by
 have F:=RN hf;have h40:=CV F;have hcl:=F.l40;have hP:=FY F (l:=l) (by omega);unfold OM;rw[if_pos ⟨by rw[List.length_map];exact F.nn,F.lab⟩];unfold qv;rw[if_pos];have hce:=JD F.vc;unfold d7;rw[Bool.and_eq_true,decide_eq_true_eq];constructor
 ·refine BI (by omega) (by simp at hcl ⊢;omega) ?_ F.nm F.lc F.lb (λ_=>rfl) (λe=>absurd rfl e) (λ_=>rfl) (λx hx=>by cases hx) (λp hp _=>⟨2,rfl,(hP.col p hp).2.1⟩);exact .inr (by simp;exact F.nn)
 ·unfold eM;rw[nu]at hce ⊢
  have hle:aA (og 3) (cols.map λp=>de p l)<=aA (og 3) cols:=by
   rw[K0];refine B3 _ _ _ λp hp=>?_
   obtain⟨k,its,cl,lv,h1,h2,h3,h4,-⟩:=ql (F.col p hp) (F.kd2 p hp) (l:=l) (by omega);have hi:=F.len hp;subst h1;rw[h2];show vZ 2 _<=vZ 2 _;rw[nu,nu];simp only[z9]at hi;simp[lC,show¬k=5 by omega,aA];omega
  rw[List.length_map];omega
theorem JM{f:yd}(h:mJ f=true):f.variables.length<=5:=by
 unfold mJ at h;simp only[Bool.and_eq_true,decide_eq_true_eq]at h;exact h.2.1
set_option maxHeartbeats 8000000 in
theorem Tu(f:yd)(ok:FA f)(d:aX)(hw:ck d<=1000000000):aB Tryz.prog 9 [(true,bK f),(true,ap d)] [(true,ap (EC f d).1,true),(false,[.sc (.string (EC f d).2)],true)]:=by
 have g1:=KO f ok;unfold EC;cases hf:mJ f
 ·rw[hf]at g1;obtain⟨k,its,ps,ns,cl,lv,c,e⟩:=d;obtain⟨r,b,V,T⟩:=f;simp only[Bool.false_eq_true,if_false,bK,ap,al,aq,aZ,fV,List.map_nil]at g1 ⊢;refine ah Tryz.func9 cb rfl ?_;simp only[bP]
  repeat' (first|(with_reducible first|refine ae ?_|refine ac ‹_› rfl ?_|refine ab ‹_› rfl ?_|refine ak (λhbr=>?_) λhbr=>?_)|simp(disch:=first|omega|(simp only[ax];omega)|simp only[av,Nat.reduceAdd]) only[go_sem,true_and])
  all_goals first|omega|rfl
 rw[hf]at g1;rw[if_pos rfl];have hV5:=JM hf;obtain⟨r,b,V,T⟩:=f;simp only at hV5 ⊢;have hnl:(r::V).length<=40:=by rw[List.length_cons];omega
 have hvs:sN 9 1 16 (some (.sl 9 1 [[.sc (.string r)]])) (some (.sl 9 1 (V.map bG)))=some [.sl 9 1 ([.sc (.string r)]::V.map bG)]:=by rw[DC (by simp;omega) (by decide)];rfl
 have g2:=UH d (r::V) hw hnl;have hok:=IX (d:=d) hnl;unfold QX;generalize q8 d (r::V)=sp at g2 hok ⊢;obtain⟨k,its,ps,ns,cl,lv,c,e⟩:=d;by_cases hb:sp.2=eh;rotate_left
 ·rw[if_neg hb];clear hok;obtain⟨⟨x0,x1,x2,x3,x4,x5,x6,x7⟩,q⟩:=sp;simp only at hb;simp only[bK,ap,al,aq,aZ,fV,List.map_nil,List.map_cons,bG]at g1 g2 ⊢;unfold eh at hb;refine ah Tryz.func9 cb rfl ?_;simp only[bP]
  repeat' (first|(with_reducible first|refine ae ?_|refine ac ‹_› rfl ?_|refine ab ‹_› rfl ?_|refine ak (λhbr=>?_) λhbr=>?_)|simp(disch:=first|omega|(simp only[ax];omega)|simp only[av,Nat.reduceAdd]) only[go_sem,hvs])
  all_goals first|omega|rfl|(exact absurd (by assumption) hb)
 rw[if_pos hb];obtain⟨cols,hc,hfr⟩:=hok hb;rw[hc,hb]at g2;rw[hc];have F:=RN hfr;have hcl:=F.l40;have hnn:=F.nn;have g3:=W5 hfr;have hll:=uy cols (nR cols);have h40:=CV F;rw[List.length_cons]at hnn;simp only[List.length_nil,Nat.zero_add]at hcl;unfold eM at g2;simp only[eM,aX.kids];unfold Rp;generalize FJ cols (nR cols)=l at g3 hll ⊢;by_cases hl:l=[]
 ·rw[if_pos hl];subst hl;simp only[bK,ap,al,aq,aZ,fV,List.map_nil,List.map_cons,bG]at g1 g2 g3 ⊢;unfold eh at *;refine ah Tryz.func9 cb rfl ?_;simp only[bP]
  repeat' (first|(with_reducible first|refine ae ?_|refine ac ‹_› rfl ?_|refine ab ‹_› rfl ?_|refine ak (λhbr=>?_) λhbr=>?_)|simp(disch:=first|omega|(simp only[ax];omega)|simp only[av,Nat.reduceAdd]) only[go_sem,hvs])
  all_goals first|omega|rfl
 rw[if_neg hl];have hl0:l.length≠0:=λe=>hl (List.eq_nil_of_length_eq_zero e)
 have hix0:cc 8 (some (.sl 35 8 (cols.map ap))) (some (.sc (.int .i64 0)))=some (ap (cols.getD 0 default)):=eL (by omega) (by omega);have g4:=EQ (cols.getD 0 default) (by have:=F.wk _ (aK (l:=cols) (i:=0) (by omega));omega);by_cases hR:BN (cols.getD 0 default)=3\/cR (cols.getD 0 default)=true
 ·rw[if_pos hR];generalize cols.getD 0 default=x at hix0 g4 hR;generalize cR x=B at g4 hR;obtain⟨x0,x1,x2,x3,x4,x5,x6,x7⟩:=x;simp only[BN]at hR;simp only[bK,ap,al,aq,aZ,fV,List.map_nil,List.map_cons,bG]at g1 g2 g3 g4 hix0 ⊢;unfold eh at *;refine ah Tryz.func9 cb rfl ?_;simp only[bP]
  repeat' (first|(with_reducible first|refine ae ?_|refine ac ‹_› rfl ?_|refine ab ‹_› rfl ?_|refine ak (λhbr=>?_) λhbr=>?_)|simp(disch:=first|omega|(simp only[ax];omega)|simp only[av,Nat.reduceAdd]) only[go_sem,hvs,hix0])
  all_goals first|omega|rfl|exact absurd hR (by simp[*])
 rw[if_neg hR];rw[not_or]at hR;obtain⟨hR1,hR2⟩:=hR;have hR2:cR (cols.getD 0 default)=false:=by simpa using hR2
 rw[hR2]at g4;clear hR2 hb hc hok;generalize hx:cols.getD 0 default=x at hix0 g4 hR1;obtain⟨x0,x1,x2,x3,x4,x5,x6,x7⟩:=x;simp only[BN]at hR1
 have hfin:yf cols l cols.length=eh->K6 cols (r::V) l=VT (Fa cols l cols.length) (r::V):=λh=>by
  unfold K6;rw[if_pos h];refine(Jg (n:=l.length) ⟨by rw[eq];omega,λp hp=>zU F (by omega) _ (Nat.le_refl _) h p hp⟩ F.lab (by rw[eq];simp;omega)).symm
 have hwf:yf cols l cols.length=eh->ck (eM (Fa cols l cols.length) (r::V))<=1000000000:=λh=>E3 (n:=l.length) ⟨by rw[eq];omega,λp hp=>zU F (by omega) _ (Nat.le_refl _) h p hp⟩ F.lab
 have hstop:∀i,i<=cols.length->¬yf cols l i=eh->K6 cols (r::V) l=(fV 0 [],yf cols l i):=λi hi h=>by
  have:=va h cols.length hi;unfold K6;rw[this,if_neg h]
 have hcol:=F.col;have hkd2:=F.kd2;have hwk:=F.wk;generalize K6 cols (r::V) l=R at hfin hstop ⊢;simp only[bK,ap,al,aq,aZ,List.map_nil,List.map_cons,bG]at g1 g2 g3 g4 hix0 ⊢;refine ah Tryz.func9 cb rfl ?_;simp only[bP];have hmt:eh=⟨#[]⟩:=rfl;rw[hmt]at g2
 repeat' (first|(with_reducible first|refine ae ?_|refine ac ‹_› rfl ?_|refine ab ‹_› rfl ?_|refine ak (λhbr=>?_) λhbr=>?_)|simp(disch:=first|omega|(simp only[ax];omega)|simp only[av,Nat.reduceAdd]) only[go_sem,hvs,hix0])
 all_goals first|omega|skip
 refine lp (λi:Nat=>[.sc (.int .i64 i),.sl 35 8 ((Fa cols l i).map ap)]) (λi=>i<=cols.length/\yf cols l i=eh) (λi=>cols.length-i) 0 rfl ⟨by omega,rfl⟩ ?_;rintro i ⟨hi,hbi⟩;simp only[gn];by_cases hlt:i<cols.length
 ·have hm:=aK hlt;have hix:cc 8 (some (.sl 35 8 (cols.map ap))) (some (.sc (.int .i64 (i:Int))))=some (ap (cols.getD i default)):=by rw[eL (by omega) (by omega),Int.toNat_natCast]
  obtain⟨k0,its0,cl0,lv0,hp,-,hk1,hk3,-⟩:=ql (hcol _ hm) (hkd2 _ hm) (l:=l) (by omega);obtain⟨k2,J,cl2,lv2,hpk,hwJ,hcase⟩:=WK (hcol _ hm) (hkd2 _ hm) (l:=l) (by omega);have hw1:=hwk _ hm;have hv3:=gZ 2 _ (hkd2 _ hm);have hml:Fa cols l (i+1)=Fa cols l i++[(lq l i (cols.getD i default)).1]:=rfl;have hmb:yf cols l (i+1)=(lq l i (cols.getD i default)).2:=by rw[yf,if_pos hbi]
  have hap:=dT (t:=35) (ti:=78) (l:=Fa cols l i) (v:=(lq l i (cols.getD i default)).1) (by rw[eq];omega);rw[<-hml]at hap;have hst:=hstop (i+1) (by omega);rw[hmb]at hst;have gF:=EQ _ hwJ;have hK:∀q,wH (cols.getD i default) l=q->i≠0->lq l i (cols.getD i default)=q:=λq h h0=>by unfold lq;rw[if_neg h0,h]
  have hK0:i=0->lq l i (cols.getD i default)=(.mk k2 J [] [] cl2 lv2 0 0,eh):=λh0=>by unfold lq;rw[if_pos h0,hpk]
  generalize lq l i (cols.getD i default)=z at *;generalize cols.getD i default=x at *;subst hp;have gP:=Xb (vf hv3) (Nat.le_trans hw1 (by decide)) ⟨hk1,by omega⟩ l (by omega);rw[hpk]at gP;simp only[ap,al,aq,aZ,List.map_nil]at hix gP gF;by_cases hi0:i=0
  ·have hz:=hK0 hi0;subst hz;simp only[ap,al,aq,aZ,List.map_nil]at hap;simp only at hmb
   repeat' (first|(with_reducible first|refine ae ?_|refine ac ‹_› rfl ?_|refine ab ‹_› rfl ?_|refine ak (λhbr=>?_) λhbr=>?_)|simp(disch:=first|omega|(simp only[ax];omega)|simp only[av,Nat.reduceAdd]) only[go_sem,hix,hap,bo,bn])
   all_goals first|omega|exact⟨i+1,rfl,⟨by omega,hmb⟩,by omega⟩|skip
  ·have hi1:0<i:=by omega
   rcases hcase with⟨e1,rfl,rfl,e2,e3,e4⟩|⟨e1,rfl,rfl,rfl,e3,e4⟩|⟨e1,e2,e4⟩
   ·have hz:=hK _ e4 hi0;have gD:=SH e3 e2;rw[<-hz]at gD;rw[e1]at gF;clear hz e4 hK hK0 hpk;obtain⟨⟨z0,z1,z2,z3,z4,z5,z6,z7⟩,q⟩:=z;simp only at hmb hst;simp only[ap,al,aq,aZ,List.map_nil,List.map_cons,bG]at gD hap gF gP;by_cases hq:q=eh
    ·rw[hq]at gD hmb;unfold eh at gD
     repeat' (first|(with_reducible first|refine ae ?_|refine ac ‹_› rfl ?_|refine ab ‹_› rfl ?_|refine ak (λhbr=>?_) λhbr=>?_)|simp(disch:=first|omega|(simp only[ax];omega)|simp only[av,Nat.reduceAdd]) only[go_sem,hix,hap,bo,bn])
     all_goals first|omega|exact⟨i+1,rfl,⟨by omega,hmb⟩,by omega⟩|skip
    ·have hR:=hst hq;subst hR;unfold eh at hq;simp only[ap,al,aq,fV,List.map_nil]
     repeat' (first|(with_reducible first|refine ae ?_|refine ac ‹_› rfl ?_|refine ab ‹_› rfl ?_|refine ak (λhbr=>?_) λhbr=>?_)|simp(disch:=first|omega|(simp only[ax];omega)|simp only[av,Nat.reduceAdd]) only[go_sem,hix,hap,bo,bn])
     all_goals first|omega|rfl|(exact absurd (by assumption) hq)|skip
   ·have hz:=hK _ e4 hi0;have gD:=VA e3;rw[<-hz]at gD;rw[e1]at gF;clear hz e4 hK hK0 hpk;obtain⟨⟨z0,z1,z2,z3,z4,z5,z6,z7⟩,q⟩:=z;simp only at hmb hst;simp only[ap,al,aq,aZ,List.map_nil,List.map_cons,bG]at gD hap gF gP;by_cases hq:q=eh
    ·rw[hq]at gD hmb;unfold eh at gD
     repeat' (first|(with_reducible first|refine ae ?_|refine ac ‹_› rfl ?_|refine ab ‹_› rfl ?_|refine ak (λhbr=>?_) λhbr=>?_)|simp(disch:=first|omega|(simp only[ax];omega)|simp only[av,Nat.reduceAdd]) only[go_sem,hix,hap,bo,bn])
     all_goals first|omega|exact⟨i+1,rfl,⟨by omega,hmb⟩,by omega⟩|skip
    ·have hR:=hst hq;subst hR;unfold eh at hq;simp only[ap,al,aq,fV,List.map_nil]
     repeat' (first|(with_reducible first|refine ae ?_|refine ac ‹_› rfl ?_|refine ab ‹_› rfl ?_|refine ak (λhbr=>?_) λhbr=>?_)|simp(disch:=first|omega|(simp only[ax];omega)|simp only[av,Nat.reduceAdd]) only[go_sem,hix,hap,bo,bn])
     all_goals first|omega|rfl|(exact absurd (by assumption) hq)|skip
   ·have hz:=hK _ e4 hi0;rw[hpk]at hz;subst hz;rw[e1]at gF;simp only at hmb;simp only[ap,al,aq,aZ,List.map_nil]at hap
    repeat' (first|(with_reducible first|refine ae ?_|refine ac ‹_› rfl ?_|refine ab ‹_› rfl ?_|refine ak (λhbr=>?_) λhbr=>?_)|simp(disch:=first|omega|(simp only[ax];omega)|simp only[av,Nat.reduceAdd]) only[go_sem,hix,hap,bo,bn])
    all_goals first|omega|exact⟨i+1,rfl,⟨by omega,hmb⟩,by omega⟩|skip
 ·obtain rfl:i=cols.length:=by omega
  have hRe:=hfin hbi;have g5:=O2 _ _ (hwf hbi);rw[<-hRe]at g5;clear hfin hstop hRe;obtain⟨⟨z0,z1,z2,z3,z4,z5,z6,z7⟩,q⟩:=R;simp only[ap,al,aq,List.map_cons,bG]at g5 ⊢
  repeat' (first|(with_reducible first|refine ae ?_|refine ac ‹_› rfl ?_|refine ab ‹_› rfl ?_|refine ak (λhbr=>?_) λhbr=>?_)|simp(disch:=first|omega|(simp only[ax];omega)|simp only[av,Nat.reduceAdd]) only[go_sem,true_and])
  all_goals first|omega|skip
  refine nv (f:=38) (bits:=1) (by decide) g5 rfl ?_
  repeat' (first|(with_reducible first|refine ae ?_|refine ac ‹_› rfl ?_|refine ab ‹_› rfl ?_|refine ak (λhbr=>?_) λhbr=>?_)|simp(disch:=first|omega|(simp only[ax];omega)|simp only[av,Nat.reduceAdd]) only[go_sem,true_and])
  all_goals first|omega|rfl
theorem Pn(v:aX)(hw:ck v<=1000000000):aB Tryz.prog 26 [(true,ap v)] [(true,ap (qv v).1,false),(false,[.sc (.string (qv v).2)],false)]:=by
 have h1:=lQ v hw;unfold qv;obtain⟨k,its,ps,ns,cl,lv,c,e⟩:=v;cases hv:d7 (.mk k its ps ns cl lv c e)
 ·rw[hv]at h1;rw[if_neg (by simp)];simp only[ap,al,aq,fV]at h1 ⊢;refine eA Tryz.func26 lX rfl ?_;simp only[fP]
  repeat' (first|(with_reducible first|refine ae ?_|refine ac ‹_› rfl ?_|refine ab ‹_› rfl ?_|refine ak (λhbr=>?_) λhbr=>?_)|simp(disch:=first|omega|(simp only[ax];omega)|simp only[av,Nat.reduceAdd]) only[go_sem,true_and])
  all_goals rfl
 ·rw[hv]at h1;rw[if_pos rfl];simp only[ap,al,aq]at h1 ⊢;refine eA Tryz.func26 lX rfl ?_;simp only[fP]
  repeat' (first|(with_reducible first|refine ae ?_|refine ac ‹_› rfl ?_|refine ab ‹_› rfl ?_|refine ak (λhbr=>?_) λhbr=>?_)|simp(disch:=first|omega|(simp only[ax];omega)|simp only[av,Nat.reduceAdd]) only[go_sem,true_and])
  all_goals rfl
def Ix(cols:List aX)(l:List Int)(i:Nat):List aX:=Fa cols l i++(cols.drop i).map λp=>de p l
theorem Bs{α:Type}[Inhabited α]{l:List α}{i:Nat}(h:i<l.length):l.drop i=l.getD i default::l.drop (i+1):=by
 rw[List.drop_eq_getElem_cons h,List.getD_eq_getElem?_getD,List.getElem?_eq_getElem h];rfl
theorem Ph{cols:List aX}{l:List Int}{i:Nat}(h:i<=cols.length):(Ix cols l i).length=cols.length:=by
 unfold Ix;rw[List.length_append,eq,List.length_map,List.length_drop];omega
theorem T7{cols:List aX}{l:List Int}{i:Nat}(h:i<cols.length):(Ix cols l i).getD i default=de (cols.getD i default) l:=by
 unfold Ix;rw[List.getD_eq_getElem?_getD,List.getElem?_append_right (by rw[eq];omega),eq,Nat.sub_self,Bs h];rfl
theorem QS{cols:List aX}{l:List Int}{i:Nat}(h:i<cols.length):(Ix cols l i).set i (lq l i (cols.getD i default)).1=Ix cols l (i+1):=by
 unfold Ix;rw[List.set_append_right _ _ (by rw[eq];omega),eq,Nat.sub_self,Bs h,List.map_cons,Fa,List.append_assoc];rfl
theorem Wj{cols:List aX}{l:List Int}(h:0<cols.length):Ix cols l 1=cols.map λp=>de p l:=by
 have:=Bs h;rw[List.drop_zero]at this;unfold Ix
 conv=>rhs;rw[this]
 rfl
theorem Ra{cols:List aX}{l:List Int}:Ix cols l cols.length=Fa cols l cols.length:=by
 unfold Ix;rw[List.drop_length];exact List.append_nil _
set_option maxHeartbeats 8000000 in
theorem S6(f:yd)(ok:FA f)(d:aX)(hw:ck d<=1000000000):aB Tryz.prog 6 [(true,bK f),(true,ap d)] [(true,ap (EC f d).1,false),(false,[.sc (.string (EC f d).2)],false)]:=by
 have g1:=KY f ok;unfold EC;cases hf:mJ f
 ·rw[hf]at g1;obtain⟨k,its,ps,ns,cl,lv,c,e⟩:=d;obtain⟨r,b,V,T⟩:=f;simp only[Bool.false_eq_true,if_false,bK,ap,al,aq,aZ,fV,List.map_nil]at g1 ⊢;refine eA Tryz.func6 bZ rfl ?_;simp only[bN]
  repeat' (first|(with_reducible first|refine ae ?_|refine ac ‹_› rfl ?_|refine ab ‹_› rfl ?_|refine ak (λhbr=>?_) λhbr=>?_)|simp(disch:=first|omega|(simp only[ax];omega)|simp only[av,Nat.reduceAdd]) only[go_sem,true_and])
  all_goals first|omega|rfl
 rw[hf]at g1;rw[if_pos rfl];have hV5:=JM hf;obtain⟨r,b,V,T⟩:=f;simp only at hV5 ⊢;have hnl:(r::V).length<=40:=by rw[List.length_cons];omega
 have hvs:sN 9 1 16 (some (.sl 9 1 [[.sc (.string r)]])) (some (.sl 9 1 (V.map bG)))=some [.sl 9 1 ([.sc (.string r)]::V.map bG)]:=by rw[DC (by simp;omega) (by decide)];rfl
 have g2:=Vw d (r::V) hw hnl;have hok:=IX (d:=d) hnl;unfold QX;generalize q8 d (r::V)=sp at g2 hok ⊢;obtain⟨k,its,ps,ns,cl,lv,c,e⟩:=d;by_cases hb:sp.2=eh;rotate_left
 ·rw[if_neg hb];clear hok;obtain⟨⟨x0,x1,x2,x3,x4,x5,x6,x7⟩,q⟩:=sp;simp only at hb;simp only[bK,ap,al,aq,aZ,fV,List.map_nil,List.map_cons,bG]at g1 g2 ⊢;unfold eh at hb;refine eA Tryz.func6 bZ rfl ?_;simp only[bN]
  repeat' (first|(with_reducible first|refine ae ?_|refine ac ‹_› rfl ?_|refine ab ‹_› rfl ?_|refine ak (λhbr=>?_) λhbr=>?_)|simp(disch:=first|omega|(simp only[ax];omega)|simp only[av,Nat.reduceAdd]) only[go_sem,hvs])
  all_goals first|omega|rfl|(exact absurd (by assumption) hb)
 rw[if_pos hb];obtain⟨cols,hc,hfr⟩:=hok hb;rw[hc,hb]at g2;rw[hc];have F:=RN hfr;have hcl:=F.l40;have hnn:=F.nn;have g3:=Xj hfr;have hll:=uy cols (nR cols);have hrg:∀p∈FJ cols (nR cols),0<=p/\p<=1000000:=λp hp=>by have:=IJ cols (nR cols) p hp;have:=CV F;omega
 have h40:=CV F;rw[List.length_cons]at hnn;simp only[List.length_nil,Nat.zero_add]at hcl;unfold eM at g2;simp only[eM,aX.kids];unfold Rp;generalize FJ cols (nR cols)=l at g3 hll hrg ⊢;by_cases hl:l=[]
 ·rw[if_pos hl];subst hl;simp only[bK,ap,al,aq,aZ,fV,List.map_nil,List.map_cons,bG]at g1 g2 g3 ⊢;unfold eh at *;refine eA Tryz.func6 bZ rfl ?_;simp only[bN]
  repeat' (first|(with_reducible first|refine ae ?_|refine ac ‹_› rfl ?_|refine ab ‹_› rfl ?_|refine ak (λhbr=>?_) λhbr=>?_)|simp(disch:=first|omega|(simp only[ax];omega)|simp only[av,Nat.reduceAdd]) only[go_sem,hvs])
  all_goals first|omega|rfl
 rw[if_neg hl];have hl0:l.length≠0:=λe=>hl (List.eq_nil_of_length_eq_zero e)
 have hix0:cc 8 (some (.sl 35 8 (cols.map ap))) (some (.sc (.int .i64 0)))=some (ap (cols.getD 0 default)):=eL (by omega) (by omega);have g4:=DR (cols.getD 0 default) (by have:=F.wk _ (aK (l:=cols) (i:=0) (by omega));omega);by_cases hR:BN (cols.getD 0 default)=3\/cR (cols.getD 0 default)=true
 ·rw[if_pos hR];generalize cols.getD 0 default=x at hix0 g4 hR;generalize cR x=B at g4 hR;obtain⟨x0,x1,x2,x3,x4,x5,x6,x7⟩:=x;simp only[BN]at hR;simp only[bK,ap,al,aq,aZ,fV,List.map_nil,List.map_cons,bG]at g1 g2 g3 g4 hix0 ⊢;unfold eh at *;refine eA Tryz.func6 bZ rfl ?_;simp only[bN]
  repeat' (first|(with_reducible first|refine ae ?_|refine ac ‹_› rfl ?_|refine ab ‹_› rfl ?_|refine ak (λhbr=>?_) λhbr=>?_)|simp(disch:=first|omega|(simp only[ax];omega)|simp only[av,Nat.reduceAdd]) only[go_sem,hvs,hix0])
  all_goals first|omega|rfl|exact absurd hR (by simp[*])
 rw[if_neg hR];rw[not_or]at hR;obtain⟨hR1,hR2⟩:=hR;have hR2:cR (cols.getD 0 default)=false:=by simpa using hR2
 rw[hR2]at g4;clear hR2 hb hc hok;generalize hx:cols.getD 0 default=x at hix0 g4 hR1;obtain⟨x0,x1,x2,x3,x4,x5,x6,x7⟩:=x;simp only[BN]at hR1;have hfin:yf cols l cols.length=eh->K6 cols (r::V) l=qv (eM (Fa cols l cols.length) (r::V)):=λh=>by unfold K6;rw[if_pos h]
 have hwf:yf cols l cols.length=eh->ck (eM (Fa cols l cols.length) (r::V))<=1000000000:=λh=>E3 (n:=l.length) ⟨by rw[eq];omega,λp hp=>zU F (by omega) _ (Nat.le_refl _) h p hp⟩ F.lab
 have hstop:∀i,i<=cols.length->¬yf cols l i=eh->K6 cols (r::V) l=(fV 0 [],yf cols l i):=λi hi h=>by
  have:=va h cols.length hi;unfold K6;rw[this,if_neg h]
 have hcol:=F.col;have hkd2:=F.kd2;have gR:=S0 F l (by omega) hrg;rw[Qg hfr hll,<-Wj (l:=l) (show 0<cols.length by omega)]at gR;generalize K6 cols (r::V) l=R at hfin hstop ⊢;unfold eM at gR;simp only[bK,ap,al,aq,aZ,List.map_nil,List.map_cons,bG]at g1 g2 g3 g4 gR hix0 ⊢;refine eA Tryz.func6 bZ rfl ?_;simp only[bN];have hmt:eh=⟨#[]⟩:=rfl;rw[hmt]at g2 gR
 repeat' (first|(with_reducible first|refine ae ?_|refine ac ‹_› rfl ?_|refine ab ‹_› rfl ?_|refine ak (λhbr=>?_) λhbr=>?_)|simp(disch:=first|omega|(simp only[ax];omega)|simp only[av,Nat.reduceAdd]) only[go_sem,hvs,hix0])
 all_goals first|omega|skip
 refine lp (λi:Nat=>[.sc (.int .i64 i),.sl 35 8 ((Ix cols l i).map ap)]) (λi=>1<=i/\i<=cols.length/\yf cols l i=eh) (λi=>cols.length-i) 1 rfl ⟨by omega,by omega,rfl⟩ ?_;rintro i ⟨h1i,hi,hbi⟩;simp only[gu];have hsl:=Ph (l:=l) hi;by_cases hlt:i<cols.length
 ·have hm:=aK hlt;obtain⟨k2,J,cl2,lv2,hpk,hwJ,hcase⟩:=WK (hcol _ hm) (hkd2 _ hm) (l:=l) (by omega);have hix:cc 8 (some (.sl 35 8 ((Ix cols l i).map ap))) (some (.sc (.int .i64 (i:Int))))=some (ap (.mk k2 J [] [] cl2 lv2 0 0)):=by rw[<-hpk,<-T7 hlt,eL (by omega) (by omega),Int.toNat_natCast]
  have hmb:yf cols l (i+1)=(lq l i (cols.getD i default)).2:=by rw[yf,if_pos hbi]
  have hset:Ac 8 0 (some (.sl 35 8 ((Ix cols l i).map ap))) (some (.sc (.int .i64 (i:Int)))) (some (ap (lq l i (cols.getD i default)).1))=some [.sl 35 8 ((Ix cols l (i+1)).map ap)]:=by
   rw[l9 (lL _ _) (by omega) (by omega) (lL _ _ _),Int.toNat_natCast,<-QS hlt,List.map_set]
  have hst:=hstop (i+1) (by omega);rw[hmb]at hst;have gF:=DR _ hwJ;have hK:∀q,wH (cols.getD i default) l=q->lq l i (cols.getD i default)=q:=λq h=>by unfold lq;rw[if_neg (by omega),h]
  generalize lq l i (cols.getD i default)=z at *;generalize cols.getD i default=x at *;simp only[ap,al,aq,aZ,List.map_nil]at hix gF;rcases hcase with⟨e1,rfl,rfl,e2,e3,e4⟩|⟨e1,rfl,rfl,rfl,e3,e4⟩|⟨e1,e2,e4⟩
  ·have hz:=hK _ e4;have gD:=UC e3 e2;rw[<-hz]at gD;rw[e1]at gF;clear hz e4 hK hpk;obtain⟨⟨z0,z1,z2,z3,z4,z5,z6,z7⟩,q⟩:=z;simp only at hmb hst;simp only[ap,al,aq,aZ,List.map_nil,List.map_cons,bG]at gD hset gF hix;by_cases hq:q=eh
   ·rw[hq]at gD hmb;unfold eh at gD
    repeat' (first|(with_reducible first|refine ae ?_|refine ac ‹_› rfl ?_|refine ab ‹_› rfl ?_|refine ak (λhbr=>?_) λhbr=>?_)|simp(disch:=first|omega|(simp only[ax];omega)|simp only[av,Nat.reduceAdd]) only[go_sem,hix,hset,bE])
    all_goals first|omega|exact⟨i+1,rfl,⟨by omega,by omega,hmb⟩,by omega⟩|skip
   ·have hR:=hst hq;subst hR;unfold eh at hq;simp only[ap,al,aq,fV,List.map_nil]
    repeat' (first|(with_reducible first|refine ae ?_|refine ac ‹_› rfl ?_|refine ab ‹_› rfl ?_|refine ak (λhbr=>?_) λhbr=>?_)|simp(disch:=first|omega|(simp only[ax];omega)|simp only[av,Nat.reduceAdd]) only[go_sem,hix,hset,bE])
    all_goals first|omega|rfl|(exact absurd (by assumption) hq)|skip
  ·have hz:=hK _ e4;have gD:=Up e3;rw[<-hz]at gD;rw[e1]at gF;clear hz e4 hK hpk;obtain⟨⟨z0,z1,z2,z3,z4,z5,z6,z7⟩,q⟩:=z;simp only at hmb hst;simp only[ap,al,aq,aZ,List.map_nil,List.map_cons,bG]at gD hset gF hix;by_cases hq:q=eh
   ·rw[hq]at gD hmb;unfold eh at gD
    repeat' (first|(with_reducible first|refine ae ?_|refine ac ‹_› rfl ?_|refine ab ‹_› rfl ?_|refine ak (λhbr=>?_) λhbr=>?_)|simp(disch:=first|omega|(simp only[ax];omega)|simp only[av,Nat.reduceAdd]) only[go_sem,hix,hset,bE])
    all_goals first|omega|exact⟨i+1,rfl,⟨by omega,by omega,hmb⟩,by omega⟩|skip
   ·have hR:=hst hq;subst hR;unfold eh at hq;simp only[ap,al,aq,fV,List.map_nil]
    repeat' (first|(with_reducible first|refine ae ?_|refine ac ‹_› rfl ?_|refine ab ‹_› rfl ?_|refine ak (λhbr=>?_) λhbr=>?_)|simp(disch:=first|omega|(simp only[ax];omega)|simp only[av,Nat.reduceAdd]) only[go_sem,hix,hset,bE])
    all_goals first|omega|rfl|(exact absurd (by assumption) hq)|skip
  ·have hz:=hK _ e4;rw[hpk]at hz;subst hz;rw[e1]at gF;simp only at hmb;simp only[ap,al,aq,aZ,List.map_nil]at hset
   repeat' (first|(with_reducible first|refine ae ?_|refine ac ‹_› rfl ?_|refine ab ‹_› rfl ?_|refine ak (λhbr=>?_) λhbr=>?_)|simp(disch:=first|omega|(simp only[ax];omega)|simp only[av,Nat.reduceAdd]) only[go_sem,hix,hset,bE])
   all_goals first|omega|exact⟨i+1,rfl,⟨by omega,by omega,hmb⟩,by omega⟩|skip
 ·obtain rfl:i=cols.length:=by omega
  rw[Ra];have hml:(Fa cols l cols.length).length=cols.length:=eq ..;have hRe:=hfin hbi;have g5:=Pn _ (hwf hbi);rw[<-hRe]at g5;clear hfin hstop hRe;obtain⟨⟨z0,z1,z2,z3,z4,z5,z6,z7⟩,q⟩:=R;simp only[eM,ap,al,aq,List.map_cons,bG,List.map_nil]at g5 ⊢
  repeat' (first|(with_reducible first|refine ae ?_|refine ac ‹_› rfl ?_|refine ab ‹_› rfl ?_|refine ak (λhbr=>?_) λhbr=>?_)|simp(disch:=first|omega|(simp only[ax];omega)|simp only[av,Nat.reduceAdd]) only[go_sem,true_and])
  all_goals first|omega|rfl
def qu:List aQ:=[]
def qp:List (Nat×Nat×Bool×List Nat):=[]
def iM:UP:=.i 0<|.sel [1,4,5,6,7,8]<|.cl 47 [(false,[5]),(false,[0])] au<|.i 0<|.b .lss 1 0<|.ite 0 (.i (-1)<|.c 0<|.r 0)<|.sel [2,4,5,6,7]<|.cl 48 [(false,[4]),(false,[0])] au<|.i 0<|.b .lss 1 0<|.ite 0 (.i (-1)<|.c 0<|.r 0)<|.sel [2,4,5,6]<|.cl 49 [(false,[3]),(false,[0])] au<|.i 0<|.b .lss 1 0<|.ite 0 (.i (-1)<|.c 0<|.r 0)<|.sel [2,4,5]<|.cl 49 [(false,[2]),(false,[0])] au<|.i 0<|.b .lss 1 0<|.ite 0 (.i (-1)<|.c 0<|.r 0)<|.sel [2,4]<|.cl 49 [(false,[1]),(false,[0])] au<|.i 0<|.b .lss 1 0<|.ite 0 (.i (-1)<|.c 0<|.r 0)<|.c 2<|.r 2
theorem ri:aM Tryz.prog 14 Tryz.f14 bO qu qp=some ([(true,8),(false,1)],iM):=by kernel_rfl
def pM:List aQ:=[⟨3000002,2,⟨[aa 5 4,aa 4 2,aa 0 0,aa 1 5],[],0,0,6,[]⟩,[]⟩]
def pb:List (Nat×Nat×Bool×List Nat):=[]
def fH:UP:=.l 5<|.b .lss 2 0<|.ite 0 (.z 3<|.x 8 7 3<|.b .neq 7 10<|.ite 0 (.i (-1)<|.c 0<|.r 0)<|.i 1<|.a 12 0<|.z 14<|.x 8 18 14<|.sel [6,8,22,26]<|.cl 47 [(false,[0]),(false,[1])] au<|.i 0<|.b .lss 1 0<|.ite 0 (.i (-1)<|.c 0<|.r 0)<|.z 5<|.x 8 6 5<|.sel [5,10,13,14]<|.cl 48 [(false,[0]),(false,[1])] au<|.i 0<|.b .lss 1 0<|.ite 0 (.i (-1)<|.c 0<|.r 0)<|.z 5<|.x 8 6 5<|.sel [4,10,13,14]<|.cl 49 [(false,[0]),(false,[1])] au<|.i 0<|.b .lss 1 0<|.ite 0 (.i (-1)<|.c 0<|.r 0)<|.z 5<|.x 8 6 5<|.sel [3,10,13,14]<|.cl 49 [(false,[0]),(false,[1])] au<|.i 0<|.b .lss 1 0<|.ite 0 (.i (-1)<|.c 0<|.r 0)<|.z 5<|.x 8 6 5<|.sel [2,10,13,14]<|.cl 49 [(false,[0]),(false,[1])] au<|.i 0<|.b .lss 1 0<|.ite 0 (.i (-1)<|.c 0<|.r 0)<|.z 5<|.x 8 6 5<|.b .neq 1 10<|.ite 0 (.i (-1)<|.c 0<|.r 0)<|.i 1<|.a 12 0<|.z 16<|.x 8 17 16<|.b .neq 0 8<|.ite 0 (.i (-1)<|.c 0<|.r 0)<|.i 1<|.a 10 0<|.i 1<|.a 28 0<|.jump 0 [0,2])<|.c 2<|.r 2
def gl:UP:=.i 0<|.i 0<|.loop [0,2] fH
theorem pP:aM Tryz.prog 48 Tryz.f48 bO pM pb=some ([(false,1),(false,1)],gl):=by kernel_rfl
theorem Ab(l:List It):(l.map ao).flatten=VM (dI l):=by
 induction l with
 |nil=>rfl
 |cons x l ih=>rw[List.map_cons,List.flatten_cons,ih];simp[dI,VM,ao,k9]
theorem Pc{w:World}{base:Nat}{v:Value}{l:List It}{f:List Nat}(h:aR w base [v] [bJ l] f):w.ownsRow base 78 3 v l.length (dI l)/\f=v.ownBlock.toList:=by
 cases h with
 |@sl _ _ _ _ cells g vs ds f' h1 h2 h3 h4 h5 h6=>
  cases h5;have hg:=fm h4 (Gl l);subst hg;have hc:=h4.rep;rw[Ab]at hc;have:=EG hc;subst this;rw[List.length_map]at h1;exact⟨h1,by simp⟩
theorem PP{w:World}{base:Nat}{v:Value}{l:List It}(h:w.ownsRow base 78 3 v l.length (dI l)):aR w base [v] [bJ l] v.ownBlock.toList:=by
 have hf:aR w base (dI l) (l.map ao).flatten []:=by
  rw[Ab];refine I2 λu hu=>?_
  obtain⟨x,_,hx⟩:=List.mem_flatMap.1 hu;simp[k9]at hx;rcases hx with rfl|rfl|rfl<;>trivial
 have:=aR.sl (t:=78) (k:=3) (es:=l.map ao) (vs:=[]) (ds:=[]) (f:=[]) (by rw[List.length_map];exact h) (by decide) (by simp[ao]) hf .nil (by cases v.ownBlock<;>simp);simpa[bJ]using this
theorem ye(l:List It)(k0:Nat)(h0:0<k0)(h1:k0+3*l.length<=4611686018427387904):jb Tryz.prog 45 false [bJ l] k0 [bJ (bI k0 l.length)] ((k0+3*l.length:Nat):Int):=by
 refine⟨by kernel_rfl,λw base v vals fs hv ho hnd=>?_⟩;have hv:vals=[v]:=hv;subst hv;obtain⟨_,_,f,_,e,rfl,o0,ho⟩:=bM ho;injection e with e1 e2;subst e1 e2;obtain⟨-,rfl⟩:=mf ho;obtain⟨h2,rfl⟩:=Pc o0;obtain⟨A,c,rfl,-,-⟩:=ba h2;refine(CI A l.length c base k0 l w h2 rfl h0 h1).mono ?_;rintro e w' ⟨rfl,h3,h4⟩;exact⟨rfl,⟨PP (by rw[gj];exact h3),trivial⟩,oY h4⟩
def oV:List aQ:=[⟨3000002,2,⟨[aa 5 4,aa 4 2,aa 0 0,aa 1 5],[],0,0,6,[]⟩,[]⟩]
def pD:List (Nat×Nat×Bool×List Nat):=[(4,7,false,[])]
def fz:UP:=.l 5<|.b .lss 2 0<|.ite 0 (.z 3<|.x 1 7 3<|.c 0<|.sel [0,3,4]<|.cl 88 [(false,[1])] au<|.b .neq 1 0<|.c 0<|.ite 0 (.i (-1)<|.c 0<|.r 0)<|.i 1<|.a 4 0<|.i 1<|.a 7 0<|.jump 0 [0,2])<|.c 2<|.r 2
def gT:UP:=.i 0<|.i 0<|.loop [0,2] fz
theorem oD:aM Tryz.prog 49 Tryz.f49 bO oV pD=some ([(false,1),(false,1)],gT):=by kernel_rfl
attribute[-go_sem] uv
def pm(l:List Int):List Value:=l.map (Value.int .i64)
def mI(l:List ByteArray):List Value:=l.map Value.string
def jt(k n:Nat):List Int:=(List.range n).map λi=>((k+i:Nat):Int)
def cg(k n:Nat):List ByteArray:=(List.range n).map λi=>rF (k+i)
theorem BK(k n:Nat):(jt k n).length=n:=by simp[jt]
theorem sS(k n:Nat):(cg k n).length=n:=by simp[cg]
theorem BF{α β:Type}(f:α->β)(g:Nat->α)(l:List α)(k:Nat)(h:k<l.length):(((List.range k).map g++l.drop k).map f).set k (f (g k))=((List.range (k+1)).map g++l.drop (k+1)).map f:=by
 rw[List.map_append,List.set_append_right _ _ (by simp),List.length_map,List.length_map,List.length_range,Nat.sub_self,List.drop_eq_getElem_cons h,List.map_cons,List.set_cons_zero,List.range_succ];simp
def Wh(n:Nat)(w:World)(base:Nat)(t:TypeId)(A:Option Addr)(c k0:Nat)(cells:Nat->List Value)(v1 v5:Value)(wr:World):Prop:=
 ∃k:Nat,k<=n/\v5=.int .i64 k/\v1=.int .i64 ((k0+k:Nat):Int)/\wr.ownsRow base t 1 (.slice A n c) n (cells k)/\w.grownBy wr (Value.slice A n c).ownBlock
theorem El(A:Option Addr)(n c base k0:Nat)(l:List Int)(w:World)(ha:w.ownsRow base 3 1 (.slice A n c) n (pm l))(hl:l.length=n)(h0:0<k0)(h1:k0+n<=4611686018427387904):
 Calls Tryz.prog 44 #[.slice A n c,.int .i64 k0] w λe w'=>e=.returned (.int .i64 ((k0+n:Nat):Int))/\w'.ownsRow base 3 1 (.slice A n c) n (pm (jt k0 n))/\w.grownBy w' (Value.slice A n c).ownBlock:=by
 have HL:=Lib.hid hl;clear hl
 go_enter Tryz.func44,Tryz.ntmps44
 go_wp2
 go_loopw [1,5] (Wh n w base 3 A c k0 (λk=>pm (jt k0 k++l.drop k))) (λ_ i _=>n-(intOf i).toNat)
 case atStart=>exact⟨0,Nat.zero_le _,rfl,rfl,by simpa[jt]using ha,World.grownBy.refl w _⟩
 case round=>
  obtain⟨k,hk,rfl,rfl,hown,hg⟩:=hrel;by_cases hlt:k<n
  ·obtain⟨g,cap,hv,-,-⟩:=hown.form (by omega);injection hv with e1 e2 e3;subst e1 e3;have hown:wr.ownsRow base 3 1 (.slice (some ⟨g,0,none⟩) n c) n (pm (jt k0 k++l.drop k)):=hown;have hst:=hown.stored k (.int .i64 ((k0+k:Nat):Int));have hfl:(pm (jt k0 k++l.drop k)).length=n:=by have:=HL.out;simp[pm,BK];omega
   obtain⟨z0,c0⟩:∃z,wr.cell? ⟨g,k,none⟩=some z:=⟨_,(hown.cellAt k (by omega)).trans (List.getElem?_eq_getElem (by omega))⟩;have f0:=hown.frozenAt k;have HS:=Lib.hid hst;have HG:=Lib.hid hg;clear hown hg ha hfl hst
   go_wp2
   refine⟨⟨k+1,hlt,rfl,rfl,?_,HG.out.trans HS.out.2⟩,by simp[intOf];omega⟩;have hsp:=BF (Value.int .i64) (λi=>((k0+i:Nat):Int)) l k (by rw[HL.out];omega);have:=HS.out.1;unfold pm jt at this;rw[hsp]at this;exact this
  ·go_wp2
   go_ret
   obtain rfl:k=n:=by omega
   rw[List.drop_of_length_le (by rw[HL.out];omega),List.append_nil]at hown;exact⟨tU rfl,hown,hg⟩
theorem yo(A:Option Addr)(n c base k0:Nat)(l:List ByteArray)(w:World)(ha:w.ownsRow base 9 1 (.slice A n c) n (mI l))(hl:l.length=n)(h0:0<k0)(h1:k0+n<=4611686018427387904):
 Calls Tryz.prog 43 #[.slice A n c,.int .i64 k0] w λe w'=>e=.returned (.int .i64 ((k0+n:Nat):Int))/\w'.ownsRow base 9 1 (.slice A n c) n (mI (cg k0 n))/\w.grownBy w' (Value.slice A n c).ownBlock:=by
 have HL:=Lib.hid hl;clear hl
 go_enter Tryz.func43,Tryz.ntmps43
 go_wp2
 go_loopw [1,5] (Wh n w base 9 A c k0 (λk=>mI (cg k0 k++l.drop k))) (λ_ i _=>n-(intOf i).toNat)
 case atStart=>exact⟨0,Nat.zero_le _,rfl,rfl,by simpa[cg]using ha,World.grownBy.refl w _⟩
 case round=>
  obtain⟨k,hk,rfl,rfl,hown,hg⟩:=hrel;by_cases hlt:k<n
  ·obtain⟨g,cap,hv,-,-⟩:=hown.form (by omega);injection hv with e1 e2 e3;subst e1 e3;have hown:wr.ownsRow base 9 1 (.slice (some ⟨g,0,none⟩) n c) n (mI (cg k0 k++l.drop k)):=hown;have hgl:=(fZ hown rfl).2;have HO:=Lib.hid hown;have HG:=Lib.hid hg;clear hown hg ha
   go_wp2_with fail
   refine(Ae _ (k0+k) _ (by omega) (by omega) (by omega)).mono ?_;rintro e w2 ⟨rfl,hb⟩;have hown2:=C6 HO.out hb (Nat.le_refl _);have hst:=hown2.stored k (.string (rF (k0+k)));have hfl:(mI (cg k0 k++l.drop k)).length=n:=by have:=HL.out;simp[mI,sS];omega
   obtain⟨z0,c0⟩:∃z,w2.cell? ⟨g,k,none⟩=some z:=⟨_,(hown2.cellAt k (by omega)).trans (List.getElem?_eq_getElem (by omega))⟩;have f0:=hown2.frozenAt k;have hgb:wr.grownBy w2 (some g):=⟨hb.os,hb.tape,hb.output,hb.size,λi hi _=>hb.block i hi⟩;have HS:=Lib.hid hst;have HB:=Lib.hid hgb;clear hown2 hst hb hfl hgb
   go_wp2
   refine⟨⟨k+1,hlt,rfl,rfl,?_,(HG.out.trans HB.out).trans HS.out.2⟩,by simp[intOf];omega⟩;have hsp:=BF Value.string (λi=>rF (k0+i)) l k (by rw[HL.out];omega);have:=HS.out.1;unfold mI cg at this;rw[hsp]at this;exact this
  ·go_wp2
   go_ret
   obtain rfl:k=n:=by omega
   have hown:wr.ownsRow base 9 1 (.slice A k c) k (mI (cg k0 k++l.drop k)):=hown;rw[List.drop_of_length_le (by rw[HL.out];omega),List.append_nil]at hown;exact⟨tU rfl,hown,hg⟩
theorem I5{w:World}{base t k:Nat}{es:List (List DV)}{cells:List Value}{v:Value}{f:List Nat}(hf:es.flatten=cells.map .sc)(h:aR w base [v] [.sl t k es] f):w.ownsRow base t k v es.length cells/\f=v.ownBlock.toList:=by
 cases h with
 |@sl _ _ _ _ cs g vs ds f' h1 h2 h3 h4 h5 h6=>
  cases h5;have hfl:pz es.flatten:=by rw[hf];intro d hd;obtain⟨x,_,rfl⟩:=List.mem_map.1 hd;exact⟨x,rfl⟩
  have hg:=fm h4 hfl;subst hg;have hc:=h4.rep;rw[hf]at hc
  have:cs=cells:=by
   have key:∀{A:Nat->Prop} {a b:List Value},aL w A a (b.map .sc)->a=b:=by
    intro A a b
    induction b generalizing a with
    |nil=>intro h;cases h;rfl
    |cons x b ih=>intro h;cases h with|sc _ h2=>rw[ih h2]
   exact key hc
  subst this;exact⟨h1,by simp⟩
theorem IS{w:World}{base t k:Nat}{es:List (List DV)}{cells:List Value}{v:Value}(hf:es.flatten=cells.map .sc)(hs:∀u∈cells,Sc u)(hk:0<k)(he:∀e∈es,e.length=k)(h:w.ownsRow base t k v es.length cells):aR w base [v] [.sl t k es] v.ownBlock.toList:=by
 have hf2:aR w base cells es.flatten []:=by
  rw[hf];clear h hf
  induction cells with
  |nil=>exact .nil
  |cons x b ih=>exact .sc (hs x (List.mem_cons_self ..)) (ih λv hv=>hs v (List.mem_cons_of_mem _ hv))
 have:=aR.sl (t:=t) (k:=k) (es:=es) (vs:=[]) (ds:=[]) (f:=[]) h hk he hf2 .nil (by cases v.ownBlock<;>simp);simpa using this
theorem R3(l:List Int):(l.map ea).flatten=(pm l).map .sc:=by
 induction l with
 |nil=>rfl
 |cons x l ih=>rw[List.map_cons,List.flatten_cons,ih];rfl
theorem St(l:List ByteArray):(l.map bG).flatten=(mI l).map .sc:=by
 induction l with
 |nil=>rfl
 |cons x l ih=>rw[List.map_cons,List.flatten_cons,ih];rfl
theorem HF(l:List Int)(k0:Nat)(h0:0<k0)(h1:k0+l.length<=4611686018427387904):jb Tryz.prog 44 false [aZ l] k0 [aZ (jt k0 l.length)] ((k0+l.length:Nat):Int):=by
 refine⟨by kernel_rfl,λw base v vals fs hv ho hnd=>?_⟩;have hv:vals=[v]:=hv;subst hv;obtain⟨_,_,f,_,e,rfl,o0,ho⟩:=bM ho;injection e with e1 e2;subst e1 e2;obtain⟨-,rfl⟩:=mf ho;obtain⟨h2,rfl⟩:=I5 (R3 l) o0;rw[List.length_map]at h2;obtain⟨A,c,rfl,-,-⟩:=ba h2;refine(El A l.length c base k0 l w h2 rfl h0 h1).mono ?_;rintro e w' ⟨rfl,h3,h4⟩;exact⟨rfl,⟨IS (R3 _) (by intro u hu;obtain⟨x,_,rfl⟩:=List.mem_map.1 hu;trivial) (by decide) (by simp[ea]) (by rw[List.length_map,BK];exact h3),trivial⟩,oY h4⟩
theorem cF(l:List ByteArray)(k0:Nat)(h0:0<k0)(h1:k0+l.length<=4611686018427387904):jb Tryz.prog 43 false [aq l] k0 [aq (cg k0 l.length)] ((k0+l.length:Nat):Int):=by
 refine⟨by kernel_rfl,λw base v vals fs hv ho hnd=>?_⟩;have hv:vals=[v]:=hv;subst hv;obtain⟨_,_,f,_,e,rfl,o0,ho⟩:=bM ho;injection e with e1 e2;subst e1 e2;obtain⟨-,rfl⟩:=mf ho;obtain⟨h2,rfl⟩:=I5 (St l) o0;rw[List.length_map]at h2;obtain⟨A,c,rfl,-,-⟩:=ba h2;refine(yo A l.length c base k0 l w h2 rfl h0 h1).mono ?_;rintro e w' ⟨rfl,h3,h4⟩;exact⟨rfl,⟨IS (St _) (by intro u hu;obtain⟨x,_,rfl⟩:=List.mem_map.1 hu;trivial) (by decide) (by simp[bG]) (by rw[List.length_map,sS];exact h3),trivial⟩,oY h4⟩
theorem HI{k n i:Nat}(h:i<n):(cg k n).getD i default=rF (k+i):=by
 rw[List.getD_eq_getElem?_getD];simp[cg,h]
theorem di(k0 n:Nat)(h0:0<k0)(h1:k0+n<=4611686018427387904):aB Tryz.prog 49 [(false,[aq (cg k0 n)]),(false,[.sc (.int .i64 k0)])] [(false,[.sc (.int .i64 ((k0+n:Nat):Int))],true)]:=by
 have hl:=sS k0 n;refine ah Tryz.func49 oD rfl ?_;simp only[gT];simp only[aq];simp(disch:=first|omega|(simp only[ax];omega)|simp only[av,Nat.reduceAdd]) only[go_sem,true_and];refine G2 n (λi=>[.sc (.int .i64 i),.sc (.int .i64 ((k0+i:Nat):Int))]) rfl λi hi=>?_
 simp only[fz];by_cases hlt:i<n
 ·have hg:=HI (k:=k0) hlt;have hm:=tc (k0+i) (by omega) (by omega);have hk:((k0+i:Nat):Int)+1=((k0+(i+1):Nat):Int):=by omega
  repeat' (first|(with_reducible first|refine ae ?_|refine ac ‹_› rfl ?_|refine ab ‹_› rfl ?_|refine ak (λhbr=>?_) λhbr=>?_)|simp(disch:=first|omega|(simp only[ax];omega)|simp only[av,Nat.reduceAdd]) only[go_sem,hl,hg,eq_self,hk])
  all_goals first|omega|exact⟨rfl,hlt⟩
 ·obtain rfl:i=n:=by omega
  repeat' (first|(with_reducible first|refine ae ?_|refine ac ‹_› rfl ?_|refine ab ‹_› rfl ?_|refine ak (λhbr=>?_) λhbr=>?_)|simp(disch:=first|omega|(simp only[ax];omega)|simp only[av,Nat.reduceAdd]) only[go_sem,hl])
  all_goals first|omega|rfl
end Go.Proofs.YtliknccmjjncbaaGreat
namespace Go.Proofs.YtliknccmjjncbaaGreat
open Go.RowKit
section
variable {w w':World}{base:Nat}{vs:List Value}{ds:List DV}{f:List Nat}
theorem aR.setSc(h:aR w base vs ds f):∀{p:Nat} {x u:Value},ds[p]? =some (.sc x)->Sc u->aR w base (vs.set p u) (ds.set p (.sc u)) f:=by
 induction h with
 |nil=>intro p x u hp;simp at hp
 |@sc v vs ds f h1 h2 ih=>
  intro p x u hp hu
  cases p with
  |zero=>exact .sc hu h2
  |succ p=>exact .sc h1 (ih (by simpa using hp) hu)
 |sl h1 h2 h3 h4 h5 h6 _ ih=>
  intro p x u hp hu
  cases p with
  |zero=>simp at hp
  |succ p=>exact .sl h1 h2 h3 h4 (ih (by simpa using hp) hu) h6
theorem aR.one_at(h:aR w base vs ds f):∀{p:Nat} {d:DV},ds[p]? =some d->∃u f2,vs[p]? =some u/\aR w base [u] [d] f2/\(∀b∈f2,b∈f)/\
 ∀(w':World) (d':DV),(∀b∈f,b∉f2->w'.heap[b]? =w.heap[b]?)->aR w' base [u] [d'] f2->aR w' base vs (ds.set p d') f:=by
 induction h with
 |nil=>intro p d hp;simp at hp
 |@sc v vs ds f h1 h2 ih=>
  intro p d hp
  cases p with
  |zero=>
   simp at hp;subst hp;refine⟨v,[],rfl,.sc h1 .nil,by simp,λw' d' hk ho=>?_⟩;have:=ho.app (h2.keep λb hb=>hk b hb (by simp)) (by simp)
   simpa using this
  |succ p=>
   obtain⟨u,f2,a1,a2,a3,a4⟩:=ih (by simpa using hp)
   exact⟨u,f2,by simpa using a1,a2,a3,λw' d' hk ho=>.sc h1 (a4 w' d' hk ho)⟩
 |@sl v t k es cells g vs ds f h1 h2 h3 h4 h5 h6 ih1 ih2=>
  intro p d hp;rw[<-List.append_assoc]at h6;obtain⟨n1,n2,n3⟩:=List.nodup_append.1 h6
  cases p with
  |zero=>
   simp at hp;subst hp;refine⟨v,v.ownBlock.toList++g,rfl,?_,λb hb=>?_,λw' d' hk ho=>?_⟩
   ·have:=aR.sl (vs:=[]) (ds:=[]) (f:=[]) h1 h2 h3 h4 .nil (by simpa using n1);simpa using this
   ·rw[<-List.append_assoc];exact List.mem_append_left _ hb
   ·have hk2:aR w' base vs ds f:=h5.keep λb hb=>hk b (by rw[<-List.append_assoc];exact List.mem_append_right _ hb) (λhc=>n3 b hc b hb rfl)
    have:=ho.app hk2 (λb hb hc=>n3 b hb b hc rfl)
    simpa using this
  |succ p=>
   obtain⟨u,f2,a1,a2,a3,a4⟩:=ih2 (by simpa using hp);refine⟨u,f2,by simpa using a1,a2,λb hb=>by rw[<-List.append_assoc];exact List.mem_append_right _ (a3 b hb),λw' d' hk ho=>?_⟩;have hx:∀b,b∈v.ownBlock.toList++g->w'.heap[b]? =w.heap[b]?:=λb hb=>hk b (by rw[<-List.append_assoc];exact List.mem_append_left _ hb) (λhc=>n3 b hb b (a3 b hc) rfl)
   refine .sl (pN h1 λb hb=>hx b (by simp[hb])) h2 h3 (h4.keep λb hb=>hx b (by simp[hb])) (a4 w' d' (λb hb hn=>hk b (by rw[<-List.append_assoc];exact List.mem_append_right _ hb) hn) ho) (by rw[<-List.append_assoc];exact h6)
theorem xr{α:Type}{k:Nat}{d:α}:∀{es:List (List α)} {j off:Nat} {e:List α},(∀e∈es,e.length=k)->es[j]? =some e->off<k->(es.set j (e.set off d)).flatten=es.flatten.set (j*k+off) d
 |[],j,off,e,_,h,_=>by simp at h
 |a::es,0,off,e,hk,h,ho=>by
  simp at h;subst h;have:=hk a (List.mem_cons_self ..);simp only[List.set_cons_zero,List.flatten_cons,Nat.zero_mul,Nat.zero_add]
  rw[List.set_append_left _ _ (by omega)]
 |a::es,j+1,off,e,hk,h,ho=>by
  have ha:=hk a (List.mem_cons_self ..);have ih:=xr (d:=d) (es:=es) (j:=j) (off:=off) (e:=e) (λe he=>hk e (List.mem_cons_of_mem _ he)) (by simpa using h) ho;simp only[List.set_cons_succ,List.flatten_cons,ih];rw[List.set_append_right _ _ (by rw[Nat.succ_mul];omega)];congr 2;rw[Nat.succ_mul];omega
theorem C5{α:Type}{k:Nat}{es:List (List α)}{j off:Nat}{e:List α}{d:α}(hk:∀e∈es,e.length=k)(h:es[j]? =some e)(ho:e[off]? =some d):es.flatten[j*k+off]? =some d:=by
 have h1:=tO hk h;have hlt:off<e.length:=(List.getElem?_eq_some_iff.1 ho).1;have:((es.flatten.drop (j*k)).take k)[off]? =some d:=by rw[h1];exact ho
 rw[List.getElem?_take,if_pos (by rw[<-hk e (List.mem_of_getElem? h)];exact hlt),List.getElem?_drop]at this;exact this
variable {t k:Nat}{es:List (List DV)}{g n c:Nat}
theorem Gv(h:aR w base [.slice (some ⟨g,0,none⟩) n c] [.sl t k es] f):n=es.length/\0<k/\(∀e∈es,e.length=k)/\g∈f/\base<=g/\g<w.heap.size:=by
 cases h with
 |sl h1 h2 h3 h4 h5 h6=>
  obtain⟨a,c',e,_⟩:=ba h1;injection e with _ e _;have:=fZ h1 rfl;exact⟨e,h2,h3,by simp[Value.ownBlock],this.1,this.2⟩
theorem DD(h:aR w base [.slice (some ⟨g,0,none⟩) n c] [.sl t k es] f){j off:Nat}{e:List DV}{x u:Value}(he:es[j]? =some e)(ho:e[off]? =some (.sc x))(hu:Sc u):
 aR (w.setCell ⟨g,j*k+off,none⟩ u) base [.slice (some ⟨g,0,none⟩) n c] [.sl t k (es.set j (e.set off (.sc u)))] f/\(∃z,w.cell? ⟨g,j*k+off,none⟩=some z)/\w.frozen? ⟨g,j*k+off,none⟩=false:=by
 cases h with
 |@sl v t k es cells f1 vs ds f2 h1 h2 h3 h4 h5 h6=>
  cases h5;obtain⟨_,_,en,_⟩:=ba h1;injection en with _ en _;subst en;have hcl:cells.length=es.length*k:=h1.1;have hek:e.length=k:=h3 e (List.mem_of_getElem? he);have hlt:off<k:=by rw[<-hek];exact(List.getElem?_eq_some_iff.1 ho).1
  have hp:=C5 h3 he ho;have hlen:(es.set j (e.set off (.sc u))).length=es.length:=by simp
  have hst:=h1.stored (j*k+off) u;have hset:=h4.setSc hp hu;rw[<-xr h3 he hlt]at hset
  have hnd:∀b∈f1,b≠g:=by
   intro b hb e;subst e;have:=(List.nodup_append.1 h6).2.2 b (by simp[Value.ownBlock]) b (by simp[hb]);exact this rfl
  have hpc:j*k+off<cells.length:=by rw[h4.rep.len];exact(List.getElem?_eq_some_iff.1 hp).1
  refine⟨?_,⟨_,(h1.cellAt (j*k+off) (by omega)).trans (List.getElem?_eq_getElem hpc)⟩,h1.frozenAt _⟩
  ·refine .sl (by rw[hlen];exact hst.1) h2 (λe' he'=>?_) (hset.keep λb hb=>?_) .nil h6
   ·rcases List.mem_or_eq_of_mem_set he' with h|h
    ·exact h3 e' h
    ·subst h;simpa using hek
   ·exact Below.heap_setCell w ⟨g,j*k+off,none⟩ u b (λe=>hnd b hb e)
theorem Qb(h:aR w base [.slice (some ⟨g,0,none⟩) n c] [.sl t k es] f){j off:Nat}{e:List DV}{d:DV}(he:es[j]? =some e)(ho:e[off]? =some d):
 ∃u f2,w.cell? ⟨g,j*k+off,none⟩=some u/\aR w base [u] [d] f2/\(∀b∈f2,b∈f/\b≠g)/\
  ∀(w':World) (d':DV),(∀b∈f,b∉f2->w'.heap[b]? =w.heap[b]?)->aR w' base [u] [d'] f2->aR w' base [.slice (some ⟨g,0,none⟩) n c] [.sl t k (es.set j (e.set off d'))] f:=by
 cases h with
 |@sl v t k es cells f1 vs ds f2 h1 h2 h3 h4 h5 h6=>
  cases h5;obtain⟨_,_,en,_⟩:=ba h1;injection en with _ en _;subst en;have hcl:cells.length=es.length*k:=h1.1;have hek:e.length=k:=h3 e (List.mem_of_getElem? he);have hlt:off<k:=by rw[<-hek];exact(List.getElem?_eq_some_iff.1 ho).1
  have hp:=C5 h3 he ho
  have hnd:∀b∈f1,b≠g:=by
   intro b hb e;subst e;exact(List.nodup_append.1 h6).2.2 b (by simp[Value.ownBlock]) b (by simp[hb]) rfl
  obtain⟨u,f3,a1,a2,a3,a4⟩:=h4.one_at hp;refine⟨u,f3,(h1.cellAt (j*k+off) (by rw[<-hcl];exact(List.getElem?_eq_some_iff.1 a1).1)).trans a1,a2,λb hb=>⟨by simp[a3 b hb],hnd b (a3 b hb)⟩,λw' d' hk ho'=>?_⟩;have hc:=a4 w' d' (λb hb hn=>hk b (by simp[hb]) hn) ho';rw[<-xr h3 he hlt]at hc;have hkg:w'.heap[g]? =w.heap[g]?:=hk g (by simp[Value.ownBlock]) (λhx=>hnd _ (a3 _ hx) rfl)
  have ho1:w'.ownsRow base t k (Value.slice (some ⟨g,0,none⟩) es.length c) es.length cells:=pN h1 λb hb=>by
   injection hb with hb;subst hb;exact hkg
  refine .sl (by rw[List.length_set];exact ho1) h2 (λe' he'=>?_) hc .nil h6;rcases List.mem_or_eq_of_mem_set he' with h|h
  ·exact h3 e' h
  ·subst h;simpa using hek
end
end Go.Proofs.YtliknccmjjncbaaGreat
namespace Go.Proofs.YtliknccmjjncbaaGreat
open Go.RowKit Go.ChangeShapes Go.WideShapes Go.Deep
set_option maxRecDepth 100000
structure Zn where
 kind:Int
 num:Int
 text:ByteArray
 labels:List ByteArray
 kids:Int
 deriving DecidableEq
instance:Inhabited Zn:=⟨⟨default,default,default,default,default⟩⟩
open Go.RowKit
attribute[-go_sem] uv
section
variable {w w1 w2 w3:World}{f f2:List Nat}
theorem ci.refl(w:World)(f:List Nat):ci w w f:=⟨rfl,rfl,rfl,Nat.le_refl _,λ_ _ _=>rfl⟩
theorem ci.trans(h:ci w w1 f)(k:ci w1 w2 f):ci w w2 f:=
 ⟨k.os.trans h.os,k.tape.trans h.tape,k.output.trans h.output,Nat.le_trans h.size k.size,λb hb hn=>(k.block b (Nat.lt_of_lt_of_le hb h.size) hn).trans (h.block b hb hn)⟩
theorem ci.mono(h:ci w w1 f2)(hs:∀b∈f2,b∈f):ci w w1 f:=⟨h.os,h.tape,h.output,h.size,λb hb hn=>h.block b hb λhx=>hn (hs b hx)⟩
theorem ci.below(h:Below w.heap.size w w1):ci w w1 f:=⟨h.os,h.tape,h.output,h.size,λb hb _=>h.block b hb⟩
theorem ci.cell(w:World){g o:Nat}{u:Value}(h:g∈f)(hg:g<w.heap.size):ci w (w.setCell ⟨g,o,none⟩ u) f:=by
 have hb:=Below.setCell (Below.refl 0 w) (p:=⟨g,o,none⟩) (Nat.zero_le _) u;refine⟨hb.os,hb.tape,hb.output,hb.size,λb hb hn=>?_⟩;exact Below.heap_setCell w ⟨g,o,none⟩ u b (λe=>hn (e▸h))
end
theorem aR.wrote{w w':World}{base:Nat}{vs:List Value}{ds:List DV}{f f2:List Nat}(h:aR w base vs ds f)(hw:ci w w' f2)(hd:∀b∈f,b∉f2):aR w' base vs ds f:=
 h.keep λb hb=>hw.block b (h.blocks b hb).2 (hd b hb)
section
variable {wr:World}{base n c t k g:Nat}{es:List (List DV)}{f:List Nat}{d0 d1 d2 d4 u0 u1 u2 u4:Value}{d3:DV}
theorem T5{g o o':Nat}(h:o≠o'):(⟨g,o,none⟩:Addr)≠⟨g,o',none⟩:=λe=>h (by injection e)
end
theorem Oq{w:World}{base n c t k:Nat}{A:Option Addr}{es:List (List DV)}{f:List Nat}(h:aR w base [.slice A n c] [.sl t k es] f)(hn:0<es.length):∃g,A=some ⟨g,0,none⟩:=by
 cases h with
 |sl h1 h2 h3 h4 h5 h6=>
  obtain⟨g,cap,hv,-,-⟩:=h1.form hn;injection hv with e1 e2 e3;exact⟨g,e1⟩
theorem QR{w:World}{base n c t k:Nat}{A:Option Addr}{es:List (List DV)}{f:List Nat}(h:aR w base [.slice A n c] [.sl t k es] f):n<=9223372036854775807:=by
 cases h with
 |sl h1 h2 h3 h4 h5 h6=>
  obtain⟨A,c',e,e1,e2⟩:=ba h1;injection e with _ e _;unfold maxLen at e2;omega
theorem ep{P:Program}{fn:FuncId}{d d':DV}{k k':Int}(h:jb P fn false [d] k [d'] k'){w:World}{base:Nat}{u:Value}{f2:List Nat}(ho:aR w base [u] [d] f2){x:Int}(hx:x=k):
 Calls P fn #[u,.int .i64 x] w λe w'=>e=.returned (.int .i64 k')/\aR w' base [u] [d'] f2/\ci w w' f2:=by
 subst hx;refine(h.2 w base u [u] [f2] rfl ⟨ho,trivial⟩ (by simpa using ho.nodup)).mono ?_;rintro e w' ⟨h1,⟨h2,-⟩,h3⟩;exact⟨h1,h2,by simpa using h3⟩
end Go.Proofs.YtliknccmjjncbaaGreat
namespace Go.Proofs.YtliknccmjjncbaaGreat
open Go.RowKit
set_option maxRecDepth 100000
attribute[-go_sem] uv
def BG:aX->List aX|.mk _ _ ps _ _ _ _ _=>ps
def ec:aX->Nat
 |.mk k its ps ns cl lv c e=>3+3*its.length+(ps.map λp=>ec p).sum+ns.length+cl.length+lv.length
theorem AP(k:Int)(its:List It)(ps:List aX)(ns cl lv:List ByteArray)(c e:Int):ec (.mk k its ps ns cl lv c e)=3+3*its.length+aA ec ps+ns.length+cl.length+lv.length:=by rw[ec];rfl
theorem Do{α:Type}(f g:α->Nat):∀l:List α,(∀x∈l,f x<=3+3*g x)->aA f l<=3*l.length+3*aA g l
 |[],_=>by simp[aA]
 |x::l,h=>by
  have h1:=h x (List.mem_cons_self ..);have h2:=Do f g l λy hy=>h y (List.mem_cons_of_mem _ hy)
  have e1:aA f (x::l)=f x+aA f l:=by simp[aA]
  have e2:aA g (x::l)=g x+aA g l:=by simp[aA]
  rw[e1,e2,List.length_cons];omega
theorem Mo:∀v,ec v<=3+3*ck v:=aX.ind λk its ps ns cl lv c e ih=>by
 have h:=Do ec ck ps ih;have a:=b9 (l:=ns) (Nat.le_refl _);have b:=b9 (l:=cl) (Nat.le_refl _);have d:=b9 (l:=lv) (Nat.le_refl _);have i:its.length<=bT its:=by unfold bT;omega
 rw[AP,ly];omega
def GO(X:List (List DV))(k0 m:Nat):Prop:=aB Tryz.prog 48 [(false,[.sl 35 8 X]),(false,[.sc (.int .i64 k0)])] [(false,[.sc (.int .i64 m)],true)]
def CO(l:List aX):Prop:=∃G:Nat->List (List DV),∀k0:Nat,0<k0->k0+aA ec l<=4611686018427387904->
 jb Tryz.prog 46 false [.sl 35 8 (l.map ap)] k0 [.sl 35 8 (G k0)] ((k0+aA ec l:Nat):Int)/\GO (G k0) k0 (k0+aA ec l)
noncomputable def mkG (l:List aX):Nat->List (List DV):=by
 classical exact if h:CO l then Classical.choose h else λ_=>[]
theorem Fr{l:List aX}(h:CO l){k0:Nat}(h0:0<k0)(h1:k0+aA ec l<=4611686018427387904):
 jb Tryz.prog 46 false [.sl 35 8 (l.map ap)] k0 [.sl 35 8 (mkG l k0)] ((k0+aA ec l:Nat):Int):=by
 have e:mkG l=Classical.choose h:=by unfold mkG;exact dif_pos h
 rw[e];exact(Classical.choose_spec h k0 h0 h1).1
theorem Gx{l:List aX}(h:CO l){k0:Nat}(h0:0<k0)(h1:k0+aA ec l<=4611686018427387904):GO (mkG l k0) k0 (k0+aA ec l):=by
 have e:mkG l=Classical.choose h:=by unfold mkG;exact dif_pos h
 rw[e];exact(Classical.choose_spec h k0 h0 h1).2
noncomputable def mkE (K:Nat):aX->List DV
 |.mk k its ps ns cl lv c e=>[.sc (.int .i64 (K:Nat)),bJ (bI (K+1) its.length),.sl 35 8 (mkG ps (K+1+3*its.length)),aq (cg (K+1+3*its.length+aA ec ps) ns.length),
  aq (cg (K+1+3*its.length+aA ec ps+ns.length) cl.length),aq (cg (K+1+3*its.length+aA ec ps+ns.length+cl.length) lv.length),
  .sc (.int .i64 ((K+1+3*its.length+aA ec ps+ns.length+cl.length+lv.length:Nat):Int)),.sc (.int .i64 ((K+1+3*its.length+aA ec ps+ns.length+cl.length+lv.length:Nat)+1:Int))]
def lr(l:List aX)(i:Nat):Nat:=aA ec (l.take i)
noncomputable def mixV (k0:Nat) (l:List aX) (i:Nat):List (List DV):=((List.range i).map λj=>mkE (k0+lr l j) (l.getD j default))++(l.drop i).map ap
theorem UT(k0:Nat)(l:List aX):mixV k0 l 0=l.map ap:=by simp[mixV]
theorem NI{k0:Nat}{l:List aX}{i:Nat}(h:i<=l.length):(mixV k0 l i).length=l.length:=by simp[mixV];omega
theorem LK{k0:Nat}{l:List aX}{i:Nat}(h:i<l.length):(mixV k0 l i)[i]? =some (ap (l.getD i default)):=by
 unfold mixV;rw[List.getElem?_append_right (by simp),List.length_map,List.length_range,Nat.sub_self,List.getElem?_map,List.getElem?_drop,Nat.add_zero,List.getD_eq_getElem?_getD,List.getElem?_eq_getElem h];rfl
theorem Lz{k0:Nat}{l:List aX}{i:Nat}(h:i<l.length):(mixV k0 l i).set i (mkE (k0+lr l i) (l.getD i default))=mixV k0 l (i+1):=by
 unfold mixV;rw[List.set_append_right _ _ (by simp),List.length_map,List.length_range,Nat.sub_self,List.range_succ,List.map_append,List.append_assoc];congr 1;rw[List.drop_eq_getElem_cons h];rfl
theorem Nj{α:Type}{l:List α}{j:Nat}{y:α}(h:l[j]? =some y):l.set j y=l:=by
 apply List.ext_getElem?;intro m;rw[List.getElem?_set];split
 ·subst_vars
  split
  ·exact h.symm
  ·rename_i hn;rw[List.getElem?_eq_none (by omega)]
 ·rfl
section
variable {w:World}{base n c t kk g j off:Nat}{es:List (List DV)}{f:List Nat}{e:List DV}{d:DV}{x u:Value}
theorem N9{e2:List DV}(he:es[j]? =some e):(es.set j e2)[j]? =some e2:=by
 rw[List.getElem?_set,if_pos rfl,if_pos (List.getElem?_eq_some_iff.1 he).1]
theorem Iw(h:aR w base [.slice (some ⟨g,0,none⟩) n c] [.sl t kk es] f)(he:es[j]? =some e)(ho:e[off]? =some (.sc x))(hu:Sc u):
 ∃es',es'[j]? =some (e.set off (.sc u))/\(∀y,es'.set j y=es.set j y)/\aR (w.setCell ⟨g,j*kk+off,none⟩ u) base [.slice (some ⟨g,0,none⟩) n c] [.sl t kk es'] f/\
  (∃z,w.cell? ⟨g,j*kk+off,none⟩=some z)/\w.frozen? ⟨g,j*kk+off,none⟩=false/\ci w (w.setCell ⟨g,j*kk+off,none⟩ u) f:=by
 obtain⟨a,b,d⟩:=DD h he ho hu;obtain⟨-,-,-,gf,-,gs⟩:=Gv h;exact⟨_,N9 he,λy=>by rw[List.set_set],a,b,d,ci.cell w gf gs⟩
theorem Li(h:aR w base [.slice (some ⟨g,0,none⟩) n c] [.sl t kk es] f)(he:es[j]? =some e)(ho:e[off]? =some d):
 ∃u f2,w.cell? ⟨g,j*kk+off,none⟩=some u/\aR w base [u] [d] f2/\
  ∀(w':World) (d':DV),aR w' base [u] [d'] f2->ci w w' f2->∃es',es'[j]? =some (e.set off d')/\(∀y,es'.set j y=es.set j y)/\aR w' base [.slice (some ⟨g,0,none⟩) n c] [.sl t kk es'] f/\ci w w' f:=by
 obtain⟨u,f2,b1,b2,b3,b4⟩:=Qb h he ho;exact⟨u,f2,b1,b2,λw' d' ho' hw=>⟨_,N9 he,λy=>by rw[List.set_set],b4 w' d' (λb hbf hn=>hw.block b (h.blocks b hbf).2 hn) ho',hw.mono λb hb=>(b3 b hb).1⟩⟩
end
def YR(k0 n:Nat)(w:World)(base:Nat)(A:Option Addr)(c:Nat)(l:List aX)(f:List Nat)(v1 v5:Value)(wr:World):Prop:=
 ∃k:Nat,k<=n/\v5=.int .i64 k/\v1=.int .i64 ((k0+lr l k:Nat):Int)/\aR wr base [.slice A n c] [.sl 35 8 (mixV k0 l k)] f/\ci w wr f
set_option maxHeartbeats 4000000 in
theorem zb(A:Option Addr)(n c base k0:Nat)(l:List aX)(hall:∀p∈l,CO (BG p))(f:List Nat)(w:World)(ha:aR w base [.slice A n c] [.sl 35 8 (l.map ap)] f)(hl:l.length=n)(h0:0<k0)(h1:k0+aA ec l<=4611686018427387904):
 Calls Tryz.prog 46 #[.slice A n c,.int .i64 k0] w λe w'=>e=.returned (.int .i64 ((k0+aA ec l:Nat):Int))/\aR w' base [.slice A n c] [.sl 35 8 (mixV k0 l l.length)] f/\ci w w' f:=by
 have HL:=Lib.hid hl;clear hl;have HA:=Lib.hid hall;clear hall
 go_enter Tryz.func46,Tryz.ntmps46
 go_wp2
 go_loopw [1,5] (YR k0 n w base A c l f) (λ_ i _=>n-(intOf i).toNat)
 case atStart=>exact⟨0,Nat.zero_le _,rfl,by simp[lr,aA],by rw[UT];exact ha,ci.refl _ _⟩
 case round=>
  obtain⟨k,hk,rfl,rfl,hown,hg⟩:=hrel;by_cases hlt:k<n
  ·have hkl:k<l.length:=by have:=HL.out;omega
   have he:=LK (k0:=k0) hkl;obtain⟨g,rfl⟩:=Oq hown (by rw[NI (by omega)];omega);obtain⟨-,-,-,gf,-,gs⟩:=Gv hown;have hcp:=QR hown;have hof:=jl ec hkl;have hol:=jv ec l (k+1);have hms:=Lz (k0:=k0) hkl;have hmk:=HA.out _ (aK hkl);have hoe:lr l (k+1)=aA ec (l.take (k+1)):=rfl;have hoe2:lr l k=aA ec (l.take k):=rfl;rw[<-hoe,<-hoe2]at hof;rw[<-hoe]at hol;generalize l.getD k default=x at *;generalize mixV k0 l k=es at *;generalize hK:k0+lr l k=K at *;obtain⟨xk,its,ps,ns,cl,lv,xc,xe⟩:=x;rw[AP]at hof;simp only[ap,al]at he;simp only[BG]at hmk;have hKb:K+3+3*its.length+aA ec ps+ns.length+cl.length+lv.length<=4611686018427387904:=by omega
   obtain⟨es1,e1,r1,o1,⟨z0,c0⟩,q0,t1⟩:=Iw hown (off:=0) (u:=.int .i64 (K:Nat)) he rfl trivial;obtain⟨u1,g1,c1,p1,N1⟩:=Li o1 (off:=1) e1 rfl;rw[Nat.add_zero]at c0 q0 t1;simp only[Nat.add_zero]at c1 p1 N1;have c1':wr.cell? ⟨g,k*8+1,none⟩=some u1:=by rw[World.cell?_setCell_other (h:=T5 (by omega))]at c1;exact c1
   clear c1;have HM:=Lib.hid (And.intro hms (And.intro hmk (And.intro hof (And.intro hK (And.intro hKb h1)))));have HN:=Lib.hid (And.intro N1 p1);have HR:=Lib.hid (And.intro r1 (And.intro hg t1));clear hown hg ha he N1 p1 o1 e1 hms hmk hof hol hK r1 t1 hoe hoe2
   go_wp2_with fail
   refine(ep (ye its (K+1) (by omega) (by omega)) HN.out.2 (by omega)).mono ?_;rintro e w2 ⟨rfl,pp,vv⟩;obtain⟨es2,e2,r2,o2,t2⟩:=HN.out.1 w2 _ pp vv;obtain⟨u2,g2,c2,p2,N2⟩:=Li o2 (off:=2) e2 rfl;have HN2:=Lib.hid (And.intro N2 p2);have HR2:=Lib.hid (And.intro r2 t2);clear c0 q0 pp vv HN N2 p2 r2 t2 o2 e2 c1'
   go_wp2_with fail
   refine(ep (Fr HM.out.2.1 (k0:=K+1+3*its.length) (by omega) (by omega)) HN2.out.2 (by omega)).mono ?_;rintro e w3 ⟨rfl,pp,vv⟩;obtain⟨es3,e3,r3,o3,t3⟩:=HN2.out.1 w3 _ pp vv;obtain⟨u3,g3,c3,p3,N3⟩:=Li o3 (off:=3) e3 rfl;have HN3:=Lib.hid (And.intro N3 p3);have HR3:=Lib.hid (And.intro r3 t3);clear pp vv HN2 N3 p3 r3 t3 o3 e3 c2
   go_wp2_with fail
   refine(ep (cF ns (K+1+3*its.length+aA ec ps) (by omega) (by omega)) HN3.out.2 (by omega)).mono ?_;rintro e w4 ⟨rfl,pp,vv⟩;obtain⟨es4,e4,r4,o4,t4⟩:=HN3.out.1 w4 _ pp vv;obtain⟨u4,g4,c4,p4,N4⟩:=Li o4 (off:=4) e4 rfl;have HN4:=Lib.hid (And.intro N4 p4);have HR4:=Lib.hid (And.intro r4 t4);clear pp vv HN3 N4 p4 r4 t4 o4 e4 c3
   go_wp2_with fail
   refine(ep (cF cl (K+1+3*its.length+aA ec ps+ns.length) (by omega) (by omega)) HN4.out.2 (by omega)).mono ?_;rintro e w5 ⟨rfl,pp,vv⟩;obtain⟨es5,e5,r5,o5,t5⟩:=HN4.out.1 w5 _ pp vv;obtain⟨u5,g5,c5,p5,N5⟩:=Li o5 (off:=5) e5 rfl;have HN5:=Lib.hid (And.intro N5 p5);have HR5:=Lib.hid (And.intro r5 t5);clear pp vv HN4 N5 p5 r5 t5 o5 e5 c4
   go_wp2_with fail
   refine(ep (cF lv (K+1+3*its.length+aA ec ps+ns.length+cl.length) (by omega) (by omega)) HN5.out.2 (by omega)).mono ?_;rintro e w6 ⟨rfl,pp,vv⟩;obtain⟨es6,e6,r6,o6,t6⟩:=HN5.out.1 w6 _ pp vv;obtain⟨es7,e7,r7,o7,⟨z6,c6⟩,q6,t7⟩:=Iw o6 (off:=6) (u:=.int .i64 ((K+1+3*its.length+aA ec ps+ns.length+cl.length+lv.length:Nat):Int)) e6 rfl trivial;obtain⟨-,⟨z7,c7⟩,q7⟩:=DD o6 (off:=7) (u:=.bool true) e6 rfl trivial;obtain⟨es8,e8,r8,o8,-,-,t8⟩:=Iw o7 (off:=7) (u:=.int .i64 ((K+1+3*its.length+aA ec ps+ns.length+cl.length+lv.length:Nat)+1:Int)) e7 rfl trivial
   have hfin:es8=mixV k0 l (k+1):=by
    rw[<-HM.out.1,<-HR.out.1,<-HR2.out.1,<-HR3.out.1,<-HR4.out.1,<-HR5.out.1,<-r6,<-r7,<-r8];exact(Nj e8).symm
   have hw:ci w _ f:=(((((((HR.out.2.1.trans HR.out.2.2).trans HR2.out.2).trans HR3.out.2).trans HR4.out.2).trans HR5.out.2).trans t6).trans t7).trans t8;rw[hfin]at o8;have HO:=Lib.hid (And.intro o8 hw);clear pp vv o6 e6 r6 t6 o7 e7 r7 t7 e8 r8 o8 t8 hw hfin HR HR2 HR3 HR4 HR5 HN5
   go_wp2
   go_roundw
   case rel=>
    refine⟨k+1,hlt,rfl,?_,HO.out.1,HO.out.2⟩;congr 1;have:=HM.out.2.2.1;have:=HM.out.2.2.2.1;omega
   case measure=>simp[intOf];omega
  ·go_wp2
   go_ret
   obtain rfl:k=n:=by omega
   obtain rfl:l.length=k:=HL.out;have he:lr l l.length=aA ec l:=by unfold lr;rw[List.take_length]
   exact⟨tU (by rw[he]),hown,hg⟩
theorem ei{w w':World}{b:Nat}(h:w'.heap[b]? =w.heap[b]?)(o:Nat):w'.cell? ⟨b,o,none⟩=w.cell? ⟨b,o,none⟩:=by
 unfold World.cell?;simp only[h]
theorem Ln(k0:Nat)(l:List aX):mixV k0 l l.length=(List.range l.length).map λj=>mkE (k0+lr l j) (l.getD j default):=by simp[mixV]
theorem V5{t:Nat}{k0:Nat}{l:List aX}{i:Nat}(h:i<l.length):cc 8 (some (.sl t 8 ((List.range l.length).map λj=>mkE (k0+lr l j) (l.getD j default)))) (some (.sc (.int .i64 (i:Int))))=some (mkE (k0+lr l i) (l.getD i default)):=by
 have hl:∀K v,(mkE K v).length=8:=λK v=>by
  obtain⟨k,its,ps,ns,cl,lv,c,e⟩:=v;rfl
 simp only[cc];simp[h,hl]
theorem I4:∀l:List aX,l.length<=aA ec l
 |[]=>Nat.zero_le _
 |v::l=>by
  have h1:=I4 l
  have h2:1<=ec v:=by
   obtain⟨k,its,ps,ns,cl,lv,c,e⟩:=v;rw[AP];omega
  unfold aA at h1 ⊢;simp only[List.map_cons,List.sum_cons,List.length_cons];omega
set_option maxHeartbeats 2000000 in
theorem Lw(l:List aX)(hall:∀p∈l,CO (BG p))(k0:Nat)(h0:0<k0)(h1:k0+aA ec l<=4611686018427387904):GO (mixV k0 l l.length) k0 (k0+aA ec l):=by
 have hlen:=I4 l;unfold GO;rw[Ln];refine ah Tryz.func48 pP rfl ?_;simp only[gl];simp(disch:=first|omega|(simp only[ax];omega)|simp only[av,Nat.reduceAdd]) only[go_sem,true_and];refine lp (λi:Nat=>[.sc (.int .i64 i),.sc (.int .i64 (k0+lr l i:Nat))]) (λi=>i<=l.length) (λi=>l.length-i) 0 ?_ (by omega) ?_
 ·simp[gL,lr,aA]
 intro i hi;simp only[fH];by_cases hlt:i<l.length
 ·have hix:=V5 (t:=35) (k0:=k0) hlt;have hof:lr l (i+1)=lr l i+ec (l.getD i default):=jl ec hlt;have hle:lr l (i+1)<=aA ec l:=jv ec l (i+1);have hp:=hall _ (aK hlt);generalize l.getD i default=v at hix hof hp;obtain⟨k,its,ps,ns,cl,lv,c,e⟩:=v;rw[AP]at hof;change CO ps at hp;generalize hK:k0+lr l i=K at *;have hK0:0<K:=by omega
  have q1:=ym (K+1) its.length (by omega) (by omega);have q2:=Gx hp (k0:=K+1+3*its.length) (by omega) (by omega);have q3:=di (K+1+3*its.length+aA ec ps) ns.length (by omega) (by omega);have q4:=di (K+1+3*its.length+aA ec ps+ns.length) cl.length (by omega) (by omega);have q5:=di (K+1+3*its.length+aA ec ps+ns.length+cl.length) lv.length (by omega) (by omega);unfold GO at q2;have hfin:k0+lr l (i+1)=K+1+3*its.length+aA ec ps+ns.length+cl.length+lv.length+1+1:=by omega
  rw[mkE.eq_1]at hix;simp only[bJ,aq]at hix q1 q3 q4 q5;generalize (bI (K+1) its.length).map ao=X1 at *;generalize mkG ps (K+1+3*its.length)=X2 at*
  repeat' (first|(with_reducible first|refine ae ?_|refine ac ‹_› rfl ?_|refine ab ‹_› rfl ?_|refine ak (λhbr=>?_) λhbr=>?_)|simp(disch:=first|omega|(simp only[ax];omega)|simp only[av,Nat.reduceAdd]) only[go_sem,hix,List.length_range,uv])
  all_goals first|omega|exact⟨i+1,by rw[hfin],by omega,by omega⟩|skip
 ·obtain rfl:i=l.length:=by omega
  have:lr l l.length=aA ec l:=by unfold lr;rw[List.take_length]
  rw[this]
  repeat' (first|(with_reducible first|refine ae ?_|refine ac ‹_› rfl ?_|refine ab ‹_› rfl ?_|refine ak (λhbr=>?_) λhbr=>?_)|simp(disch:=first|omega|(simp only[ax];omega)|simp only[av,Nat.reduceAdd]) only[go_sem,List.length_range])
  all_goals first|omega|rfl
theorem TU(l:List aX)(hall:∀p∈l,CO (BG p)):CO l:=by
 refine⟨λk0=>mixV k0 l l.length,λk0 h0 h1=>⟨⟨by kernel_rfl,λw base v vals fs hv ho hnd=>?_⟩,Lw l hall k0 h0 h1⟩⟩;have hv:vals=[v]:=hv;subst hv;obtain⟨_,_,f,_,e,rfl,o0,ho⟩:=bM ho;injection e with e1 e2;subst e1 e2;obtain⟨-,rfl⟩:=mf ho
 obtain⟨A,n,c,rfl,hn⟩:∃A n c,v=.slice A n c/\n=l.length:=by
  cases o0 with
  |sl h1 h2 h3 h4 h5 h6=>
   obtain⟨A,c,e,-,-⟩:=ba h1;exact⟨A,_,c,e,by rw[List.length_map]⟩
 refine(zb A n c base k0 l hall f w o0 hn.symm h0 h1).mono ?_;rintro e w' ⟨rfl,h3,h4⟩;exact⟨rfl,⟨h3,trivial⟩,by simpa using h4⟩
theorem OW:∀v:aX,CO (BG v):=aX.ind λk its ps ns cl lv c e ih=>TU ps ih
set_option maxHeartbeats 2000000 in
theorem C9(k:Int)(its:List It)(ps:List aX)(ns cl lv:List ByteArray)(c e:Int)(k0:Nat)(h0:0<k0)(h1:k0+3*its.length+aA ec ps+ns.length+cl.length+lv.length<=4611686018427387904):
 jb Tryz.prog 13 true (ap (.mk k its ps ns cl lv c e)) k0 [.sc (.int .i64 k),bJ (bI k0 its.length),.sl 35 8 (mkG ps (k0+3*its.length)),aq (cg (k0+3*its.length+aA ec ps) ns.length),
  aq (cg (k0+3*its.length+aA ec ps+ns.length) cl.length),aq (cg (k0+3*its.length+aA ec ps+ns.length+cl.length) lv.length),.sc (.int .i64 c),.sc (.int .i64 e)]
  ((k0+3*its.length+aA ec ps+ns.length+cl.length+lv.length:Nat):Int):=by
 refine⟨by kernel_rfl,λw base v vals fs hv ho hnd=>?_⟩;have hv:v=.agg vals.toArray:=hv;subst hv;simp only[ap,al]at ho;obtain⟨v0,_,f0,_,rfl,rfl,o0,ho⟩:=bM ho;obtain⟨v1,_,f1,_,rfl,rfl,o1,ho⟩:=bM ho;obtain⟨v2,_,f2,_,rfl,rfl,o2,ho⟩:=bM ho;obtain⟨v3,_,f3,_,rfl,rfl,o3,ho⟩:=bM ho;obtain⟨v4,_,f4,_,rfl,rfl,o4,ho⟩:=bM ho;obtain⟨v5,_,f5,_,rfl,rfl,o5,ho⟩:=bM ho;obtain⟨v6,_,f6,_,rfl,rfl,o6,ho⟩:=bM ho;obtain⟨v7,_,f7,_,rfl,rfl,o7,ho⟩:=bM ho;obtain⟨rfl,rfl⟩:=mf ho;obtain⟨rfl,-⟩:=aL.scOf o0.rep;obtain⟨rfl,-⟩:=aL.scOf o6.rep;obtain⟨rfl,-⟩:=aL.scOf o7.rep;have e0:=fm o0 (by intro d hd;simp at hd;exact⟨_,hd⟩);have e6:=fm o6 (by intro d hd;simp at hd;exact⟨_,hd⟩);have e7:=fm o7 (by intro d hd;simp at hd;exact⟨_,hd⟩);subst e0 e6 e7;simp only[List.flatten_cons,List.flatten_nil,List.append_nil,List.nil_append]at hnd;obtain⟨n1,hnd,d1⟩:=List.nodup_append.1 hnd;obtain⟨n2,hnd,d2⟩:=List.nodup_append.1 hnd;obtain⟨n3,hnd,d3⟩:=List.nodup_append.1 hnd;obtain⟨n4,n5,d4⟩:=List.nodup_append.1 hnd;have hfl:([[],f1,f2,f3,f4,f5,[],[]]:List (List Nat)).flatten=f1++(f2++(f3++(f4++f5))):=by simp
 rw[hfl];have b1:=λb hb=>(o1.blocks b hb).2
 have b2:=λb hb=>(o2.blocks b hb).2
 have b3:=λb hb=>(o3.blocks b hb).2
 have b4:=λb hb=>(o4.blocks b hb).2
 have b5:=λb hb=>(o5.blocks b hb).2
 have HV:=Lib.hid (show CO ps from OW (.mk k its ps ns cl lv c e));have HB:=Lib.hid (And.intro b1 (And.intro b2 (And.intro b3 (And.intro b4 b5))));have HD:=Lib.hid (And.intro d1 (And.intro d2 (And.intro d3 d4)));have HO:=Lib.hid (And.intro o1 (And.intro o2 (And.intro o3 (And.intro o4 o5))));have HX:=Lib.hid (And.intro o0 (And.intro o6 o7));clear ho o0 o1 o2 o3 o4 o5 o6 o7 hnd n1 n2 n3 n4 n5 d1 d2 d3 d4 b1 b2 b3 b4 b5 hfl;have hal:∀o:Obj,Below w.heap.size w (w.alloc o):=λo=>(Below.refl _ _).alloc (Nat.le_refl _) _
 go_enter Tryz.func13,Tryz.ntmps13
 go_wp2_with fail
 have q1:=λo=>(HO.out.1).keep (w':=w.alloc o) λb hb=>(hal o).block b (HB.out.1 b hb)
 have q2:=λo=>(HO.out.2.1).keep (w':=w.alloc o) λb hb=>(hal o).block b (HB.out.2.1 b hb)
 have q3:=λo=>(HO.out.2.2.1).keep (w':=w.alloc o) λb hb=>(hal o).block b (HB.out.2.2.1 b hb)
 have q4:=λo=>(HO.out.2.2.2.1).keep (w':=w.alloc o) λb hb=>(hal o).block b (HB.out.2.2.2.1 b hb)
 have q5:=λo=>(HO.out.2.2.2.2).keep (w':=w.alloc o) λb hb=>(hal o).block b (HB.out.2.2.2.2 b hb)
 refine(ep (ye its k0 h0 (by omega)) (q1 _) rfl).mono ?_;rintro e w1 ⟨rfl,p1,t1⟩;have hc1:=λo=>ei (t1.block w.heap.size (by simp) (λhx=>absurd (HB.out.1 _ hx) (Nat.lt_irrefl _))) o
 have hz1:w.heap.size<w1.heap.size:=by have:=t1.size;simp at this;omega
 have r2:=(q2 _).wrote t1 (λb hb hx=>HD.out.1 b hx b (by simp[hb]) rfl);have r3:=(q3 _).wrote t1 (λb hb hx=>HD.out.1 b hx b (by simp[hb]) rfl);have r4:=(q4 _).wrote t1 (λb hb hx=>HD.out.1 b hx b (by simp[hb]) rfl);have r5:=(q5 _).wrote t1 (λb hb hx=>HD.out.1 b hx b (by simp[hb]) rfl);have tt:=(ci.below (f:=f1++(f2++(f3++(f4++f5)))) (hal _)).trans (t1.mono λb hb=>by simp[hb]);clear q1 q2 q3 q4 q5 hal;have HQ2:=Lib.hid r2;have HQ3:=Lib.hid r3;have HQ4:=Lib.hid r4;have HQ5:=Lib.hid r5;have HP1:=Lib.hid p1;have HT1:=Lib.hid tt;clear tt p1 t1 r2 r3 r4 r5
 go_wp2_with fail
 refine(ep (Fr HV.out (k0:=k0+3*its.length) (by omega) (by omega)) HQ2.out (by omega)).mono ?_;rintro e w2 ⟨rfl,p2,t2⟩;have hc2:=λo=>(ei (t2.block w.heap.size hz1 (λhx=>absurd (HB.out.2.1 _ hx) (Nat.lt_irrefl _))) o).trans (hc1 o)
 have hz2:w.heap.size<w2.heap.size:=Nat.lt_of_lt_of_le hz1 t2.size;have r3:=HQ3.out.wrote t2 (λb hb hx=>HD.out.2.1 b hx b (by simp[hb]) rfl);have r4:=HQ4.out.wrote t2 (λb hb hx=>HD.out.2.1 b hx b (by simp[hb]) rfl);have r5:=HQ5.out.wrote t2 (λb hb hx=>HD.out.2.1 b hx b (by simp[hb]) rfl);have s1:=HP1.out.wrote t2 (λb hb hx=>HD.out.1 b hb b (by simp[hx]) rfl);have tt:=HT1.out.trans (t2.mono (f:=f1++(f2++(f3++(f4++f5)))) λb hb=>by simp[hb]);clear HQ2 HQ3 HQ4 HQ5 HP1 HT1 hc1;have HQ3:=Lib.hid r3;have HQ4:=Lib.hid r4;have HQ5:=Lib.hid r5;have HP1:=Lib.hid s1;have HP2:=Lib.hid p2;have HT2:=Lib.hid tt;clear tt p2 t2 r3 r4 r5 s1
 go_wp2_with fail
 refine(ep (cF ns (k0+3*its.length+aA ec ps) (by omega) (by omega)) HQ3.out (by omega)).mono ?_;rintro e w3 ⟨rfl,p3,t3⟩;have hc3:=λo=>(ei (t3.block w.heap.size hz2 (λhx=>absurd (HB.out.2.2.1 _ hx) (Nat.lt_irrefl _))) o).trans (hc2 o)
 have hz3:w.heap.size<w3.heap.size:=Nat.lt_of_lt_of_le hz2 t3.size;have r4:=HQ4.out.wrote t3 (λb hb hx=>HD.out.2.2.1 b hx b (by simp[hb]) rfl);have r5:=HQ5.out.wrote t3 (λb hb hx=>HD.out.2.2.1 b hx b (by simp[hb]) rfl);have s1:=HP1.out.wrote t3 (λb hb hx=>HD.out.1 b hb b (by simp[hx]) rfl);have s2:=HP2.out.wrote t3 (λb hb hx=>HD.out.2.1 b hb b (by simp[hx]) rfl);have tt:=HT2.out.trans (t3.mono (f:=f1++(f2++(f3++(f4++f5)))) λb hb=>by simp[hb]);clear HQ3 HQ4 HQ5 HP1 HP2 HT2 hc2;have HQ4:=Lib.hid r4;have HQ5:=Lib.hid r5;have HP1:=Lib.hid s1;have HP2:=Lib.hid s2;have HP3:=Lib.hid p3;have HT3:=Lib.hid tt;clear tt p3 t3 r4 r5 s1 s2
 go_wp2_with fail
 refine(ep (cF cl (k0+3*its.length+aA ec ps+ns.length) (by omega) (by omega)) HQ4.out (by omega)).mono ?_;rintro e w4 ⟨rfl,p4,t4⟩;have hc4:=λo=>(ei (t4.block w.heap.size hz3 (λhx=>absurd (HB.out.2.2.2.1 _ hx) (Nat.lt_irrefl _))) o).trans (hc3 o)
 have hz4:w.heap.size<w4.heap.size:=Nat.lt_of_lt_of_le hz3 t4.size;have r5:=HQ5.out.wrote t4 (λb hb hx=>HD.out.2.2.2 b hx b (by simp[hb]) rfl);have s1:=HP1.out.wrote t4 (λb hb hx=>HD.out.1 b hb b (by simp[hx]) rfl);have s2:=HP2.out.wrote t4 (λb hb hx=>HD.out.2.1 b hb b (by simp[hx]) rfl);have s3:=HP3.out.wrote t4 (λb hb hx=>HD.out.2.2.1 b hb b (by simp[hx]) rfl);have tt:=HT3.out.trans (t4.mono (f:=f1++(f2++(f3++(f4++f5)))) λb hb=>by simp[hb]);clear HQ4 HQ5 HP1 HP2 HP3 HT3 hc3;have HQ5:=Lib.hid r5;have HP1:=Lib.hid s1;have HP2:=Lib.hid s2;have HP3:=Lib.hid s3;have HP4:=Lib.hid p4;have HT4:=Lib.hid tt;clear tt p4 t4 r5 s1 s2 s3
 go_wp2_with fail
 refine(ep (cF lv (k0+3*its.length+aA ec ps+ns.length+cl.length) (by omega) (by omega)) HQ5.out (by omega)).mono ?_;rintro e w5 ⟨rfl,p5,t5⟩;have hc5:=λo=>(ei (t5.block w.heap.size hz4 (λhx=>absurd (HB.out.2.2.2.2 _ hx) (Nat.lt_irrefl _))) o).trans (hc4 o)
 have hz5:w.heap.size<w5.heap.size:=Nat.lt_of_lt_of_le hz4 t5.size;have s1:=HP1.out.wrote t5 (λb hb hx=>HD.out.1 b hb b (by simp[hx]) rfl);have s2:=HP2.out.wrote t5 (λb hb hx=>HD.out.2.1 b hb b (by simp[hx]) rfl);have s3:=HP3.out.wrote t5 (λb hb hx=>HD.out.2.2.1 b hb b (by simp[hx]) rfl);have s4:=HP4.out.wrote t5 (λb hb hx=>HD.out.2.2.2 b hb b (by simp[hx]) rfl);have tt:=HT4.out.trans (t5.mono (f:=f1++(f2++(f3++(f4++f5)))) λb hb=>by simp[hb]);clear HQ5 HP1 HP2 HP3 HP4 HT4 hc4;have HP1:=Lib.hid s1;have HP2:=Lib.hid s2;have HP3:=Lib.hid s3;have HP4:=Lib.hid s4;have HP5:=Lib.hid p5;have HT5:=Lib.hid tt;clear tt p5 t5 s1 s2 s3 s4
 go_wp2
 go_ret
 refine⟨tU (by simp),⟨?_,HP1.out,HP2.out,HP3.out,HP4.out,HP5.out,?_,?_,trivial⟩,HT5.out⟩
 ·exact HX.out.1.keep (by simp)
 ·exact HX.out.2.1.keep (by simp)
 ·exact HX.out.2.2.keep (by simp)
theorem JZ(k:Int)(its:List It)(ps:List aX)(ns cl lv:List ByteArray)(c e:Int)(k0:Nat)(h0:0<k0)(h1:k0+3*its.length+aA ec ps+ns.length+cl.length+lv.length<=4611686018427387904):
 aB Tryz.prog 14 [(true,[.sc (.int .i64 k),bJ (bI k0 its.length),.sl 35 8 (mkG ps (k0+3*its.length)),aq (cg (k0+3*its.length+aA ec ps) ns.length),
  aq (cg (k0+3*its.length+aA ec ps+ns.length) cl.length),aq (cg (k0+3*its.length+aA ec ps+ns.length+cl.length) lv.length),.sc (.int .i64 c),.sc (.int .i64 e)]),(false,[.sc (.int .i64 k0)])]
  [(false,[.sc (.int .i64 ((k0+3*its.length+aA ec ps+ns.length+cl.length+lv.length:Nat):Int))],true)]:=by
 have q1:=ym k0 its.length (by omega) (by omega);have q2:=Gx (OW (.mk k its ps ns cl lv c e)) (k0:=k0+3*its.length) (by omega) (by show _+aA ec ps<=_;omega);have q3:=di (k0+3*its.length+aA ec ps) ns.length (by omega) (by omega);have q4:=di (k0+3*its.length+aA ec ps+ns.length) cl.length (by omega) (by omega);have q5:=di (k0+3*its.length+aA ec ps+ns.length+cl.length) lv.length (by omega) (by omega);change GO (mkG ps (k0+3*its.length)) (k0+3*its.length) (k0+3*its.length+aA ec ps)at q2;unfold GO at q2;simp only[bJ,aq]at q1 q3 q4 q5 ⊢;generalize (bI k0 its.length).map ao=X1 at *;generalize mkG ps (k0+3*its.length)=X2 at *;refine ah Tryz.func14 ri rfl ?_;simp only[iM]
 repeat' (first|(with_reducible first|refine ae ?_|refine ac ‹_› rfl ?_|refine ab ‹_› rfl ?_|refine ak (λhbr=>?_) λhbr=>?_)|simp(disch:=first|omega|(simp only[ax];omega)|simp only[av,Nat.reduceAdd]) only[go_sem,uv])
 all_goals first|omega|rfl
end Go.Proofs.YtliknccmjjncbaaGreat
namespace Go.Proofs.YtliknccmjjncbaaGreat
open Go.RowKit
set_option maxRecDepth 100000
theorem rG{w w':World}{b:Nat}(h:w'.heap[b]? =w.heap[b]?)(o:Nat):w'.cell? ⟨b,o,none⟩=w.cell? ⟨b,o,none⟩:=by
 unfold World.cell?;simp only[h]
theorem rx{w:World}{base:Nat}{vs:List Value}{ds:List DV}{f:List Nat}(h:aR w base vs ds f)(hf:pz ds):f=[]:=by
 induction h with
 |nil=>rfl
 |sc _ _ ih=>exact ih λd hd=>hf d (List.mem_cons_of_mem _ hd)
 |sl=>obtain⟨v,hv⟩:=hf _ (List.mem_cons_self ..);cases hv
set_option maxHeartbeats 2000000 in
theorem Ku(r:ByteArray)(b:Bool)(V:List ByteArray)(T:List Int)(k0:Nat)(h0:0<k0)(h1:k0+V.length+T.length<=4611686018427387904):
 jb Tryz.prog 12 true [.sc (.string r),.sc (.bool b),aq V,aZ T] k0 [.sc (.string r),.sc (.bool b),aq (cg k0 V.length),aZ (jt (k0+V.length) T.length)] ((k0+V.length+T.length:Nat):Int):=by
 refine⟨by kernel_rfl,λw base v vals fs hv ho hnd=>?_⟩;have hv:v=.agg vals.toArray:=hv;subst hv;obtain⟨v0,_,f0,_,rfl,rfl,o0,ho⟩:=bM ho;obtain⟨v1,_,f1,_,rfl,rfl,o1,ho⟩:=bM ho;obtain⟨v2,_,f2,_,rfl,rfl,o2,ho⟩:=bM ho;obtain⟨v3,_,f3,_,rfl,rfl,o3,ho⟩:=bM ho;obtain⟨rfl,rfl⟩:=mf ho;obtain⟨rfl,-⟩:=aL.scOf o0.rep;obtain⟨rfl,-⟩:=aL.scOf o1.rep;have e0:=rx o0 (by intro d hd;simp at hd;exact⟨_,hd⟩);have e1:=rx o1 (by intro d hd;simp at hd;exact⟨_,hd⟩);subst e0 e1;simp only[List.flatten_cons,List.flatten_nil,List.append_nil,List.nil_append]at hnd;obtain⟨n1,n2,d1⟩:=List.nodup_append.1 hnd;have hfl:([[],[],f2,f3]:List (List Nat)).flatten=f2++f3:=by simp
 rw[hfl];have b1:=λb hb=>(o2.blocks b hb).2
 have b2:=λb hb=>(o3.blocks b hb).2
 have HB:=Lib.hid (And.intro b1 b2);have HD:=Lib.hid d1;have HO:=Lib.hid (And.intro o2 o3);have HX:=Lib.hid (And.intro o0 o1);clear ho o0 o1 o2 o3 hnd n1 n2 d1 b1 b2 hfl;have hal:∀o:Obj,Below w.heap.size w (w.alloc o):=λo=>(Below.refl _ _).alloc (Nat.le_refl _) _
 go_enter Tryz.func12,Tryz.ntmps12
 go_wp2_with fail
 have q1:=λo=>(HO.out.1).keep (w':=w.alloc o) λb hb=>(hal o).block b (HB.out.1 b hb)
 have q2:=λo=>(HO.out.2).keep (w':=w.alloc o) λb hb=>(hal o).block b (HB.out.2 b hb)
 refine(ep (cF V k0 h0 (by omega)) (q1 _) rfl).mono ?_;rintro e w1 ⟨rfl,p1,t1⟩;have hc1:=λo=>rG (t1.block w.heap.size (by simp) (λhx=>absurd (HB.out.1 _ hx) (Nat.lt_irrefl _))) o
 have hz1:w.heap.size<w1.heap.size:=by have:=t1.size;simp at this;omega
 have r2:=(q2 _).wrote t1 (λb hb hx=>HD.out b hx b hb rfl);have tt:=(ci.below (f:=f2++f3) (hal _)).trans (t1.mono λb hb=>by simp[hb]);clear q1 q2 hal;have HQ2:=Lib.hid r2;have HP1:=Lib.hid p1;have HT1:=Lib.hid tt;clear tt p1 t1 r2
 go_wp2_with fail
 refine(ep (HF T (k0+V.length) (by omega) (by omega)) HQ2.out (by omega)).mono ?_;rintro e w2 ⟨rfl,p2,t2⟩;have hc2:=λo=>(rG (t2.block w.heap.size hz1 (λhx=>absurd (HB.out.2 _ hx) (Nat.lt_irrefl _))) o).trans (hc1 o)
 have s1:=HP1.out.wrote t2 (λb hb hx=>HD.out b hb b hx rfl);have tt:=HT1.out.trans (t2.mono (f:=f2++f3) λb hb=>by simp[hb]);clear HQ2 HP1 HT1 hc1;have HP1:=Lib.hid s1;have HP2:=Lib.hid p2;have HT2:=Lib.hid tt;clear tt p2 t2 s1
 go_wp2
 go_ret
 refine⟨tU (by simp),⟨?_,?_,HP1.out,HP2.out,trivial⟩,HT2.out⟩
 ·exact HX.out.1.keep (by simp)
 ·exact HX.out.2.keep (by simp)
theorem Gc{x:yd}(h:eF x<=1048576)(ok:JI x):FA x:=by
 obtain⟨a,b,c,d⟩:=x;obtain⟨k1,k2,k3,k4⟩:=ok;simp only[eF]at h;simp only at k4;refine⟨?_,?_,λx hx=>?_,?_,λn hn=>?_⟩
 ·simp only;omega
 ·have:=b9 (n:=1048576) (l:=c) (by omega);simp only;omega
 ·have:=KN (n:=1048576) (l:=c) (by omega) x hx;omega
 ·simp only;omega
 ·have:=k4.2 n hn;unfold BU at this;omega
theorem Tn(f:yd)(d:aX):ck (EC f d).1<=4020000:=by
 have h0:ck (fV 0 [])<=4020000:=SE
 have hf:∀v,ck (qv v).1<=4020000:=λv=>by
  unfold qv;split
  ·rename_i h;exact zW h
  ·exact h0
 unfold EC QX Rp K6
 repeat' split
 all_goals first|exact h0|exact hf _
set_option maxHeartbeats 8000000 in
theorem zq(a0:yd)(ok0:JI a0)(a1:aX)(ok1:AG a1):
 aB Tryz.prog 3 [(true,bK a0),(true,fh a1)] [(false,[.sc (.bool true)],true)]:=by
 have hz0:=QE a0 ((1048576:Int)) ok0 (by omega) (by omega);by_cases hc0:((eF a0:Nat):Int)<=(1048576:Int);rotate_left
 ·rw[bS (by omega)]at hz0;obtain⟨k,its,ps,ns,cl,lv,c,e⟩:=a1;obtain⟨r,b,V,T⟩:=a0;simp only[bK,fh,al,aq,aZ]at hz0 ⊢;refine ah Tryz.func3 cw rfl ?_;simp only[bL]
  repeat' (first|(with_reducible first|refine ae ?_|refine ac ‹_› rfl ?_|refine ab ‹_› rfl ?_|refine ak (λhbr=>?_) λhbr=>?_)|simp(disch:=first|omega|(simp only[ax];omega)|simp only[av,Nat.reduceAdd]) only[go_sem,eq_self])
  all_goals first|rfl|omega
 rw[dl hc0]at hz0;have hd0:decide ((1048576:Int)-((eF a0:Nat):Int)<0)=false:=decide_eq_false (by omega);have hz1:=WI a1 ((1048576:Int)-((eF a0:Nat):Int)) ok1 (by omega) (by omega);by_cases hc1:((ck a1:Nat):Int)<=(1048576:Int)-((eF a0:Nat):Int);rotate_left
 ·rw[bS (by omega)]at hz1;obtain⟨k,its,ps,ns,cl,lv,c,e⟩:=a1;obtain⟨r,b,V,T⟩:=a0;simp only[bK,fh,al,aq,aZ]at hz0 hz1 ⊢;refine ah Tryz.func3 cw rfl ?_;simp only[bL]
  repeat' (first|(with_reducible first|refine ae ?_|refine ac ‹_› rfl ?_|refine ab ‹_› rfl ?_|refine ak (λhbr=>?_) λhbr=>?_)|simp(disch:=first|omega|(simp only[ax];omega)|simp only[av,Nat.reduceAdd]) only[go_sem,eq_self,hd0])
  all_goals first|rfl|omega
 rw[dl hc1]at hz1;have hd1:decide ((1048576:Int)-((eF a0:Nat):Int)-((ck a1:Nat):Int)<0)=false:=decide_eq_false (by omega);have wa0:eF a0<=1048576:=by omega
 have wa1:ck a1<=1048576:=by omega
 have ht0:=Qf a0 (by omega);have hq0:=Qh a0 (by omega);have ht1:=Xv a1 wa1;have hq1:=R5 a1 (by omega);have h1:=S6 a0 (Gc wa0 ok0) a1 (by omega);have h2:=Tu a0 (Gc wa0 ok0) a1 (by omega);have hwr:=Tn a0 a1;generalize EC a0 a1=R at *;obtain⟨R,rb⟩:=R;simp only at h1 h2 hwr;have hr0:=R5 R (by omega);have hmv:=Mo a1;have hmr:=Mo R;obtain⟨r,b,V,T⟩:=a0;have hV:=b9 (n:=1048576) (l:=V) (by unfold eF at wa0;simp only at wa0;omega);have hT:T.length<=1048576:=by unfold eF at wa0;simp only at wa0;omega
 generalize ck a1=W at *;generalize ck R=WR at *;obtain⟨k,its,ps,ns,cl,lv,c,e⟩:=a1;obtain⟨k',its',ps',ns',cl',lv',c',e'⟩:=R;rw[AP]at hmv hmr;have hmx0:jb Tryz.prog 12 true [.sc (.string r),.sc (.bool b),aq V,aZ T] 1 [.sc (.string r),.sc (.bool b),aq (cg 1 V.length),aZ (jt (1+V.length) T.length)] ((1+V.length+T.length:Nat):Int):=Ku r b V T 1 (by omega) (by omega);have hmx1:=C9 k its ps ns cl lv c e (1+V.length+T.length) (by omega) (by omega);have hkx:decide (((1+V.length+T.length+3*its.length+aA ec ps+ns.length+cl.length+lv.length:Nat):Int)<0)=false:=decide_eq_false (by omega);have hmg0:=C9 k' its' ps' ns' cl' lv' c' e' 1 (by omega) (by omega);have hhg0:=JZ k' its' ps' ns' cl' lv' c' e' 1 (by omega) (by omega);have hkg0:decide (((1+3*its'.length+aA ec ps'+ns'.length+cl'.length+lv'.length:Nat):Int)<0)=false:=decide_eq_false (by omega);rw[show((1:Nat):Int)=1 from rfl]at hmg0 hhg0;simp only[bK,fh,ap,al,aq,aZ,bJ]at hz0 hz1 ht0 ht1 hq0 hq1 h1 h2 hr0 hmx0 hmx1 hmg0 hhg0 ⊢;refine ah Tryz.func3 cw rfl ?_;simp only[bL]
 repeat' (first|(with_reducible refine ac ‹_› rfl ?_)|(with_reducible refine ab ‹_› rfl ?_)|(refine Wv (by assumption) ?_ ?_;(· first|exact⟨⟨_,rfl,rfl⟩,⟨_,rfl,rfl⟩,trivial⟩|exact⟨⟨_,rfl,rfl⟩,⟨_,rfl,rfl⟩,⟨_,rfl,rfl⟩,trivial⟩|exact trivial|exact⟨⟨_,rfl,rfl⟩,trivial⟩))|simp(disch:=first|omega|(simp only[ax];omega)|simp only[av,Nat.reduceAdd]) only[go_sem,hd0,hd1,hkx,hkg0,eq_self])
 all_goals first|rfl|omega
end Go.Proofs.YtliknccmjjncbaaGreat
namespace Go.Proofs.YtliknccmjjncbaaGreat.fnExactModelFrame
open Go.ChangeShapes Go.WideShapes Go.ChangeAt Go.RowKit
open Go.ChangeMaps (open_string shut_string)
theorem own:ownKnob Tryz.prog.godebug=none:=by kernel_rfl
theorem Jc:laidOutB Tryz.prog=true:=by kernel_rfl
set_option maxRecDepth 100000 in
set_option maxHeartbeats 2000000 in
theorem YM{H:Type}(enc:TypeId×Value->H)(v0 v1:Value)(d0 d1:DataW H)(p0 p1:List MemPlace)(base:Nat)(w:World)
 (ok0:Value.okWide Tryz.prog w .any base 25 v0) (h0:DataW.Trod enc Tryz.prog w 0 (λ_=>true) true 25 v0 d0 p0)
 (ok1:Value.okWide Tryz.prog w .any base 29 v1) (h1:DataW.Trod enc Tryz.prog w 0 (λ_=>true) true 29 v1 d1 p1)
 (sz:(DataW.weightsEach Tryz.prog [25,29] [d0,d1]).all (·<=reachBytes)=true):
 Calls Tryz.prog 3 #[v0,v1] w λe w'=>e=.returned (.bool true)/\Below w.heap.size w w':=by
 obtain⟨a0,r0,i0⟩:=IQ (base:=base) Py Tryz.underlying25 h0 ok0;obtain⟨a1,r1,i1⟩:=IQ (base:=base) Rh Tryz.underlying29 h1 ok1;exact Jz (zq a0 i0 a1 i1) (dg.cons r0 (dg.cons r1 dg.nil))
set_option maxRecDepth 100000 in
theorem Vc(os:Os)(started:os.Started)(H:Type)(enc:TypeId×Value->H):
 ReturnsInHanded {} Tryz.checked os 3 .any (Rows.fnExactModelFrameSpec.pre6 enc Tryz.prog Tryz.f3 Rows.fnExactModelFrameRow.domain false) (Rows.fnExactModelFrameSpec.post enc Tryz.prog Tryz.f3 false true false false):=by
 refine returnsInHanded_of_change_sized (C:=Tryz.checked) own started (by kernel_rfl) Tryz.func3
  (ChangeSpec.witness6 (enc:=enc) (C:=Tryz.checked) false ⟨#[],#[.agg #[.string ByteArray.empty,.bool false,.slice none 0 0,.slice none 0 0],.agg #[.int .i64 0,.slice none 0 0,.slice none 0 0,.slice none 0 0,.slice none 0 0,.slice none 0 0,.int .i64 0,.int .i64 0]],[]⟩ 8 (by kernel_rfl) (by kernel_rfl) (by kernel_rfl) (by kernel_rfl)) ?_
 intro W base args ds gs before hval0 hW hcnd0 hsz0 hholds;have hval:∀(j:Nat) t v,Tryz.f3.params[j]? =some t->args[j]? =some v->Value.okWide Tryz.prog W .any base t v:=hval0
 have hsz:(DataW.weightsEach Tryz.prog (Tryz.f3.params.toList++Rows.fnExactModelFrameSpec.plain.varTypes Tryz.prog) (ds++gs)).all (·<=reachBytes)=true:=hsz0
 have hW':=hW;obtain⟨p,q,hA0,hV,rfl,hfz,hnd⟩:=hW;have hA:DataW.TrodAll enc Tryz.prog W 0 (λ_=>true) true Tryz.f3.params.toList args.toList ds p:=hA0;rw[Tryz.params3]at hA hval hsz;obtain⟨v0,vs0,d0,ds0,p0,q0,hargs,rfl,rfl,h0,r0⟩:=trodAll_cons hA;obtain⟨v1,vs1,d1,ds1,p1,q1,rfl,rfl,rfl,h1,r1⟩:=trodAll_cons r0;obtain⟨rfl,rfl,rfl⟩:=trodAll_nil r1;obtain rfl:args=#[v0,v1]:=by cases args;simp_all
 obtain⟨rfl,rfl⟩:=trodVars_none hV;have lt0:∀x∈p0,x.block<W.heap.size:=by obtain⟨m,hm⟩:=h0;exact DataW.trod_lt m _ _ _ hm
 have Y6:∀x∈p1,x.block<W.heap.size:=by obtain⟨m,hm⟩:=h1;exact DataW.trod_lt m _ _ _ hm
 refine(YM enc v0 v1 d0 d1 p0 p1 base W (hval 0 25 v0 rfl rfl) h0 (hval 1 29 v1 rfl rfl) h1 hsz).mono λe W' ⟨he,bel⟩=>?_
 subst he;exact⟨_,rfl,_,_,_,[],_,[],hW',trodAll_mk1 (shut_bool Tryz.underlying4 _),(trodAll_cons_mk (Below.trod Jc (by kernel_rfl) (of_decide_eq_true (by kernel_rfl)) h0 bel lt0) (trodAll_cons_mk (Below.trod Jc (by kernel_rfl) (of_decide_eq_true (by kernel_rfl)) h1 bel Y6) trodAll_mk0)),rfl,bel.frame _,λh=>by cases h⟩
theorem YY:Rows.fnExactModelFrameRow.holds Tryz.pinned (OpenSpec.ofChange Rows.fnExactModelFrameSpec):=
 OpenClaim.holds_of_wide 3 Tryz.f3 rfl rfl rfl rfl rfl rfl rfl ⟨rfl,rfl,rfl,rfl,rfl⟩ rfl rfl rfl rfl rfl (by kernel_rfl) Tryz.func3 (by kernel_rfl)
  (of_decide_eq_true (by kernel_rfl)) (by unfold Func.isWrapper;first|(rw[if_pos (by decide+kernel)];kernel_rfl)|(rw[if_neg (by decide+kernel)];exact⟨rfl,rfl⟩))
  (λos started H enc _=>Vc os started H enc)
theorem proved:Rows.FnExactModelFrameSaid:=YY
end Go.Proofs.YtliknccmjjncbaaGreat.fnExactModelFrame
