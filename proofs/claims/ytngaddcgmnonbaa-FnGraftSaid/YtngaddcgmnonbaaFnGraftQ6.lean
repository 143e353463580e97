/- Proved: for every input the law 'FnGraft' returns true and its arguments read behind the call as before: part 6 of its proof. No condition. -/
import Derived.WalkKit
import Derived.Lib.Hide
import Derived.WalkSpells
import Derived.Laws.OwnMore
import Derived.Deep.AppendLies
import Derived.Deep.Draws
import Derived.Maps.AppendAt
import Derived.RegionTactic
import Derived.OwnWalk
import Derived.Below
import Derived.Laws.AppendOwnNone
import Derived.Deep.QuietTactic
import Derived.BigQuiet
import Derived.StillTailTactics
import Derived.Laws.Cells
import Derived.Laws.IdiomCopy
import Derived.ChangeKeysEq
import Derived.Laws.BytesArg
import Derived.Laws.StructEq
import Derived.Laws.Tables
import Derived.Great.BuildSlice
import Derived.StillTail
import Derived.OrdersHeld
import Derived.Test.YtngaddcgmnonbaaProg
import Derived.Deep.Slices
import Derived.Deep.Fields
import Derived.ChangeSame
import Derived.OpenShut
import Derived.Test.YtngaddcgmnonbaaRows
import Derived.ProofKit
import Derived.ShutString
import Derived.ChangeOld
import Derived.SizedLaws
import Derived.Test.YtngaddcgmnonbaaFnGraftQ5
set_option linter.unusedVariables false
set_option linter.unusedSimpArgs false
namespace Go.Proofs.Ytngaddcgmnonbaa
open Go.RowKit
set_option maxRecDepth 100000
def Ld(e:List bj)(j:Nat):Nat:=(u9 0 (e.take j)).getD 0
theorem FC{e:List bj}{a c:Nat}(h:u9 a e=some c)(j:Nat):∃d,u9 a (e.take j)=some d:=by
 cases hd:u9 a (e.take j)with
 |some d=>exact⟨d,rfl⟩
 |none=>
  unfold u9 at h hd;rw[<-List.take_append_drop j e,List.foldl_append,hd,A7]at h;cases h
theorem R1{e:List bj}{c:Nat}(h:u9 0 e=some c):LS e (Ld e)/\Ld e e.length=c:=by
 refine⟨⟨rfl,λj hj=>?_⟩,by unfold Ld;rw[List.take_length,h];rfl⟩;obtain⟨d,hd⟩:=FC h j;obtain⟨d',hd'⟩:=FC h (j+1)
 have e1:e.take (j+1)=e.take j++[e.getD j default]:=by
  rw[List.take_add_one,List.getD_eq_getElem?_getD,List.getElem?_eq_getElem hj];rfl
 have h2:=hd';rw[e1]at h2;unfold u9 at h2 hd;rw[List.foldl_append,hd]at h2;simp only[List.foldl_cons,List.foldl_nil,Qe]at h2;split at h2
 ·rename_i hk;injection h2 with h2;obtain⟨k,hk'⟩:=Int.eq_ofNat_of_zero_le hk.1;refine⟨k,hk',?_,?_⟩
  ·unfold Ld u9;rw[hd];simp only[Option.getD_some];omega
  ·unfold Ld;rw[hd'];unfold u9;rw[hd];simp only[Option.getD_some];omega
 ·cases h2
theorem Jm{e:List bj}{L:Nat->Nat}(h:LS e L){s:Nat}:∀{m:Nat},s+m<=e.length->(∀p,s<p->p<=s+m->L s<L p)->u9 0 ((e.drop s).take m)=some (L (s+m)-L s)
 |0,_,_=>by simp[u9]
 |m+1,hm,hp=>by
  have ih:=Jm h (s:=s) (m:=m) (by omega) (λp h1 h2=>hp p h1 (by omega))
  have e1:(e.drop s).take (m+1)=(e.drop s).take m++[e.getD (s+m) default]:=by
   rw[List.take_add_one,List.getElem?_drop,List.getD_eq_getElem?_getD,List.getElem?_eq_getElem (by omega)];rfl
  rw[e1];refine Et ih ?_;obtain⟨k,h1,h2,h3⟩:=h.2 (s+m) (by omega);have h4:=hp (s+m+1) (by omega) (by omega);unfold u9;simp only[List.foldl_cons,List.foldl_nil,Qe]
  have h5:L s<=L (s+m):=by
   rcases Nat.eq_zero_or_pos m with rfl|hm
   ·exact Nat.le_refl _
   ·exact Nat.le_of_lt (hp (s+m) (by omega) (by omega))
  rw[if_pos (by omega),show s+(m+1)=s+m+1 by omega];congr 1;omega
theorem OT{ρ:List DV}{el k:Nat}:av ρ (.mk el k [])=some [.sl el k []]:=by simp[av,AH]
theorem Tx(u m:Nat):FE (some (.sc (.int .i64 (u:Int)))) (some (.sc (.int .i64 ((m+1+1:Nat):Int)))) (some (some 1)) (some (some ((m+1:Nat):Int)))=some [.sc (.int .i64 ((u+1:Nat):Int)),.sc (.int .i64 (m:Nat))]:=by
 have h:jq (some 1) (some ((m+1:Nat):Int)) (((m+1+1:Nat):Int).toNat)=some (1,m+1):=by
  simp only[jq,Option.getD_some,Int.toNat_natCast];rw[if_pos (by omega)];rfl
 simp only[FE,h];rw[if_pos (by omega)];simp only[Int.toNat_natCast,Nat.add_sub_cancel]
set_option maxHeartbeats 16000000 in
theorem Nf(T:List eD)(i:Nat)(o e:List bj)(op:ByteArray)(hT:T.length<=1000)(hi:i<=T.length)(he:Tf 0 1 e)(hB:(o++e).length<=400000):
 ∃a:(List bj×bj)×Bool,(if a.2=true then∃(e':List bj) (c:Nat),a.1.1=o++e'/\Tf 0 c e'/\a.1.2.kids=((c+1:Nat):Int)/\NS a.1.2/\e'.length<=e.length else a.1.1=o++e)/\PV 71 T i (o++e) false [(false,[.sc (.int .i64 o.length)]),(false,[.sc (.string op)])] i a.1.1 false [(true,aB a.1.2),(false,[.sc (.bool a.2)])]:=by
 obtain⟨hL,hc⟩:=R1 he.1
 have hn:1<=e.length:=by
  rcases Nat.eq_zero_or_pos e.length with h|h
  ·rw[List.length_eq_zero_iff.1 h]at hc;simp[Ld,u9]at hc
  ·exact h
 have hlen:(o++e).length=o.length+e.length:=List.length_append
 have hget:∀j,j<e.length->(o++e).getD (o.length+j) default=e.getD j default:=λj hj=>by
  rw[List.getD_eq_getElem?_getD,List.getElem?_append_right (by omega),Nat.add_sub_cancel_left,<-List.getD_eq_getElem?_getD]
 obtain⟨m,hm⟩:∃m,e.length=m+1:=⟨e.length-1,by omega⟩
 have hO:(o++e).take (o.length+m)++[e.getD m default]=o++e:=by
  have h1:=List.take_add_one (l:=o++e) (i:=o.length+m);rw[show o.length+m+1=(o++e).length by omega,List.take_length]at h1;rw[<-hget m (by omega),List.getD_eq_getElem?_getD,List.getElem?_eq_getElem (by omega)];rw[List.getElem?_eq_getElem (by omega)]at h1;exact h1.symm
 have hix:=λ(j:Nat) (hj:j<m+1)=>cG (t:=37) (l:=o++e) (kd:=.i64) (z:=((o.length+j:Nat):Int)) (by omega) (by omega)
 simp only[Int.toNat_natCast]at hix;obtain⟨ks,⟨hk1,hk1'⟩,hk2⟩:=L5 hL (by omega) m (by omega);obtain⟨kx,hx1,hx2,hx3⟩:=hL.2 m (by omega);rw[hm]at hc;rw[hc]at hx3;obtain rfl:kx=Ld e m:=by omega
 have hxn:=he.2 _ (bK (l:=e) (i:=m) (by omega));have hixx:=hix m (by omega);rw[hget _ (by omega)]at hixx;have hix0:=hix 0 (by omega);rw[hget _ (by omega)]at hix0;simp only[Nat.add_zero]at hix0;have E1:((o++e).length:Int)-(o.length:Nat)=((m+1:Nat):Int):=by omega
 have E2:((m+1:Nat):Int)-1=(m:Nat):=by omega
 have E3:(o.length:Int)+(m:Nat)=((o.length+m:Nat):Int):=by omega
 have E4:(o.length:Int)+0=((o.length+0:Nat):Int):=by omega
 rw[hx1]at hk1;generalize hxx:e.getD m default=x at *;obtain⟨xk,xn,xs,xl,xc⟩:=x;simp only[aB,bo]at hixx hx1 hxn;subst hx1;refine eF Try.func71 qw rfl (fE ..) (by kernel_rfl) ?_;simp only[iW];simp only[bR,ao,ae,IR]at hk2 ⊢;simp(disch:=first|omega|(simp only[ak];omega)|simp only[al,Nat.reduceAdd]) only[go_sem,E1,E2,E3,hixx];refine jn (λvs=>∃c:Bool,(c=true↔op=⟨#[60,60,45]⟩\/xk=7)/\vs=[.sc (.bool c)]) ?_ ?_
 ·refine ap (λh0=>?_) (λh0=>?_)
  ·simp(disch:=first|omega|(simp only[ak];omega)|simp only[al,Nat.reduceAdd]) only[go_sem,true_and];exact⟨true,by simp[h0],rfl⟩
  ·simp(disch:=first|omega|(simp only[ak];omega)|simp only[al,Nat.reduceAdd]) only[go_sem,true_and];exact⟨_,by simp[h0],rfl⟩
 rintro vs - ⟨c,hcc,rfl⟩;simp only[gD];cases c
 ·have hcc:=not_or.1 (mt hcc.2 (by simp));simp(disch:=first|omega|(simp only[ak];omega)|simp only[al,Nat.reduceAdd]) only[go_sem,true_and];refine ap (λhm2=>?_) (λhm2=>?_)
  ·simp(disch:=first|omega|(simp only[ak];omega)|simp only[al,Nat.reduceAdd]) only[go_sem,true_and];exact⟨((o++e,⟨xk,xn,xs,xl,(Ld e m:Nat)⟩),false),by simp,bx rfl rfl⟩
  have hys:=he.2 _ (bK (l:=e) (i:=0) (by omega))
  have hL1:(e.getD 0 default).kids=0->Ld e 1=1:=λhk=>by
   obtain⟨k,q1,q2,q3⟩:=hL.2 0 (by omega);rw[hL.1]at q2 q3;show Ld e (0+1)=1;omega
  generalize hyy:e.getD 0 default=y at *;obtain⟨yk,yn,ys,yl,yc⟩:=y;simp only[aB,bo]at hix0 hL1
  have EV:(List.drop o.length (o++e)).take (m+1)=e:=by
   rw[List.drop_left,<-hm,List.take_length]
  simp(disch:=first|omega|(simp only[ak];omega)|simp only[al,Nat.reduceAdd]) only[go_sem,E4,hix0];refine ap (λh7=>?_) (λh7=>?_);rotate_left
  ·simp(disch:=first|omega|(simp only[ak];omega)|simp only[al,Nat.reduceAdd]) only[go_sem,true_and];exact⟨((o++e,⟨xk,xn,xs,xl,(Ld e m:Nat)⟩),false),by simp,bx rfl rfl⟩
  subst h7;have hy0:=hys.1 rfl;simp only at hy0;subst hy0;have hL1:=hL1 rfl;simp(disch:=first|omega|(simp only[ak];omega)|simp only[al,Nat.reduceAdd]) only[go_sem,E2,E4,hix0,EV,Int.toNat_natCast];refine aj hk2 rfl ?_;simp(disch:=first|omega|(simp only[ak];omega)|simp only[al,Nat.reduceAdd]) only[go_sem,true_and]
  have no:∃a:(List bj×bj)×Bool,(if a.2=true then∃(e':List bj) (c:Nat),a.1.1=o++e'/\Tf 0 c e'/\a.1.2.kids=((c+1:Nat):Int)/\NS a.1.2/\e'.length<=e.length else a.1.1=o++e)/\MM (gO Try.prog 9 66).length [(true,aB a.1.2),(false,[.sc (.bool a.2)])] [.sl 77 2 (T.map aS),.sc (.int .i64 i),.sl 37 5 (a.1.1.map aB),.sc (.bool false)]
   [(true,[.sl 77 2 (T.map aS),.sc (.int .i64 i),.sl 37 5 ((o++e).map aB),.sc (.bool false)]),(true,[.sc (.int .i64 xk),.sc (.int .i64 xn),.sc (.string xs),.sl 9 1 (xl.map dc),.sc (.int .i64 (Ld e m:Nat))]),(false,[.sc (.bool false)])]:=⟨((o++e,⟨xk,xn,xs,xl,(Ld e m:Nat)⟩),false),by simp,bx rfl rfl⟩
  refine jn (λvs=>∃c:Bool,(c=true->(xk=12\/xk=13)/\ks.length=2/\ks.getD 0 0=0)/\vs=[.sc (.bool c)]) ?_ ?_
  ·by_cases h12:xk=12\/xk=13
   ·have hl2:ks.length=2:=by have:=hxn.2.1 h12;simp only at this;omega
    have hik:=BO (t:=3) (l:=ks) (kd:=.i64) (z:=0) (by omega) (by omega)
    repeat' (first|(with_reducible first|refine am ?_|refine aj (by assumption) rfl ?_|refine ap (λhbr=>?_) λhbr=>?_)|simp(disch:=first|omega|(simp only[ak];omega)|simp only[al,Nat.reduceAdd]) only[go_sem,hik])
    all_goals first|(exfalso;omega)|exact⟨_,λhc=>⟨h12,hl2,by simpa using hc⟩,rfl⟩
   ·repeat' (first|(with_reducible first|refine am ?_|refine aj (by assumption) rfl ?_|refine ap (λhbr=>?_) λhbr=>?_)|simp(disch:=first|omega|(simp only[ak];omega)|simp only[al,Nat.reduceAdd]) only[go_sem,true_and])
    all_goals first|(exfalso;omega)|exact⟨false,by simp,rfl⟩
  rintro vs - ⟨c,hcc2,rfl⟩;simp only[gM];cases c
  ·clear hcc2;simp(disch:=first|omega|(simp only[ak];omega)|simp only[al,Nat.reduceAdd]) only[go_sem,true_and];refine jn (λvs=>∃c:Bool,(c=true->xk=14/\m=1)/\vs=[.sc (.bool c)]) ?_ ?_
   ·repeat' (first|(with_reducible first|refine am ?_|refine aj (by assumption) rfl ?_|refine ap (λhbr=>?_) λhbr=>?_)|simp(disch:=first|omega|(simp only[ak];omega)|simp only[al,Nat.reduceAdd]) only[go_sem,true_and])
    all_goals first|(exfalso;omega)|exact⟨_,λhc=>by simp at hc;omega,rfl⟩|exact⟨false,by simp,rfl⟩
   rintro vs - ⟨c,hc3,rfl⟩;simp only[gl];cases c
   ·clear hc3;by_cases h9:xk=9/\m=2
    ·obtain⟨rfl,rfl⟩:=h9;have hix1:=hix 1 (by omega);rw[hget _ (by omega)]at hix1;have h1s:=he.2 _ (bK (l:=e) (i:=1) (by omega))
     have hL2:(e.getD 1 default).kids=0->Ld e 2=2:=λhk=>by
      obtain⟨k,q1,q2,q3⟩:=hL.2 1 (by omega);show Ld e (1+1)=2;omega
     have E6:(o.length:Int)+1=((o.length+1:Nat):Int):=by omega
     have hnm:=eq (ys++⟨#[60,45]⟩) (by have:=hys.2.2.2.1;simp only at this;rw[ByteArray.size_append];show _+2<=_;omega);have hcat:bE .add false (some (.sc (.string ys))) (some (.sc (.string ⟨#[60,45]⟩)))=some [.sc (.string (ys++⟨#[60,45]⟩))]:=bD (by have:=hys.2.2.2.1;simp only at this;show _+2<=_;unfold maxLen;omega);generalize e.getD 1 default=y1 at *;obtain⟨zk,zn,zs,zl,zc⟩:=y1;simp only[aB,bo]at hix1 hL2 h1s;by_cases h71:zk=7
     ·have hz:=h1s.1 h71;simp only at hz;have hk9:=hxn.2.2.1 rfl;simp only at hk9;have hL2:=hL2 hz;have hxl:xl.length=1:=by omega
      have his:=BE (t:=9) (l:=xl) (kd:=.i64) (z:=0) (by omega) (by omega)
      repeat' (first|(with_reducible first|refine am ?_|refine aj (by assumption) rfl ?_|refine ap (λhbr=>?_) λhbr=>?_)|simp(disch:=first|omega|(simp only[ak];omega)|simp only[al,Nat.reduceAdd]) only[go_sem,E6,hix1,his,hcat])
      all_goals first|contradiction|(exfalso;omega)|exact no|skip
      refine⟨((o,⟨27,0,zs,[ys],1⟩),true),?_,bx (by rw[List.take_left]) rfl⟩;simp only[if_true];exact⟨[],0,by simp,Tf.nil,rfl,NS.mk' (by simp) (by simp) (by simp) h1s.2.2.2.1 (by simp) (by intro z hz;rw[List.mem_singleton.1 hz];exact hys.2.2.2.1),Nat.zero_le _⟩
     ·repeat' (first|(with_reducible first|refine am ?_|refine aj (by assumption) rfl ?_|refine ap (λhbr=>?_) λhbr=>?_)|simp(disch:=first|omega|(simp only[ak];omega)|simp only[al,Nat.reduceAdd]) only[go_sem,E6,hix1])
      all_goals first|contradiction|(exfalso;omega)|exact no
    ·repeat' (first|(with_reducible first|refine am ?_|refine aj (by assumption) rfl ?_|refine ap (λhbr=>?_) λhbr=>?_)|simp(disch:=first|omega|(simp only[ak];omega)|simp only[al,Nat.reduceAdd]) only[go_sem,true_and])
     all_goals first|contradiction|(exfalso;omega)|exact no
   ·obtain⟨rfl,rfl⟩:=hc3 rfl;simp(disch:=first|omega|(simp only[ak];omega)|simp only[al,Nat.reduceAdd]) only[go_sem,true_and];refine⟨((o,⟨26,0,ys,[xs],1⟩),true),?_,bx (by rw[List.take_left]) rfl⟩;simp only[if_true];exact⟨[],0,by simp,Tf.nil,rfl,NS.mk' (by simp) (by simp) (by simp) hys.2.2.2.1 (by simp) (by intro z hz;rw[List.mem_singleton.1 hz];exact hxn.2.2.2.1),Nat.zero_le _⟩
  ·obtain⟨h12,hk2l,hk20⟩:=hcc2 rfl;obtain⟨m,rfl⟩:∃m',m=m'+1:=⟨m-1,by omega⟩;have EA:List.take o.length (o++e)=o:=List.take_left;have EB:List.drop (o.length+1) (o++e)=e.drop 1:=by simp[List.drop_append]
   have E7:(o.length:Int)+1=((o.length+1:Nat):Int):=by omega
   have E8:((m+1:Nat):Int)-1=(m:Nat):=by omega
   have hdl:(List.take m (List.drop 1 e)).length=m:=by simp[hm]
   have hcj:=Tx o.length m;simp(disch:=first|omega|(simp only[ak];omega)|simp only[al,Nat.reduceAdd]) only[go_sem,OT,E2,E7,E8,EA,EB,Int.toNat_natCast,List.drop_zero,List.nil_append,Lr,hcj];have hL2:Ld e (m+1)=2:=by omega
   have hst:=hk1' hk2l;rw[hk20,hL2,Nat.add_sub_cancel]at hst;have hst':sA (Ld e) 2 m=1:=by omega
   have hmid:=Jm hL (s:=1) (m:=m) (by omega) (λp h1 h2=>by
    rw[hL1];obtain⟨q,rfl⟩:=Nat.exists_eq_succ_of_ne_zero (show p≠0 by omega);have hq:=hL.pos (j:=q) (by omega);simp only[Nat.succ_eq_add_one]at *;rcases Nat.lt_or_ge m (q+1)with h3|h3
    ·obtain rfl:q=m:=by omega
     omega
    ·have:=DK (L:=Ld e) (c:=2) (j:=m) (p:=q+1) (by omega) h3
     omega)
   rw[show 1+m=m+1 by omega,hL2,hL1]at hmid;refine⟨((o++(e.drop 1).take m,⟨24+xk-12,0,ys,[],2⟩),true),?_,bx rfl rfl⟩;simp only[if_true];exact⟨_,1,rfl,⟨hmid,λz hz=>he.2 z (List.mem_of_mem_drop (List.mem_of_mem_take hz))⟩,rfl,NS.mk' (by omega) (by omega) (by omega) hys.2.2.2.1 (by simp) (by simp),by rw[List.length_take,List.length_drop];omega⟩
 ·have hcc:=hcc.1 rfl;have E5:(o.length:Int)+((m+1:Nat):Int)-1=((o.length+m:Nat):Int):=by omega
  simp(disch:=first|omega|(simp only[ak];omega)|simp only[al,Nat.reduceAdd]) only[go_sem,E1,E2,E3,E5];refine jn (λvs=>∃kd:Int,(kd=22\/kd=23)/\vs=[.sc (.int .i64 kd)]) ?_ ?_
  ·refine ap (λh0=>?_) (λh0=>?_)
   ·simp(disch:=first|omega|(simp only[ak];omega)|simp only[al,Nat.reduceAdd]) only[go_sem,true_and];exact⟨_,.inr rfl,rfl⟩
   ·simp(disch:=first|omega|(simp only[ak];omega)|simp only[al,Nat.reduceAdd]) only[go_sem,true_and];exact⟨_,.inl rfl,rfl⟩
  rintro vs - ⟨kd,hkd,rfl⟩;simp only[gC];by_cases h7:xk=7
  ·have hk0:=hxn.1 h7;simp only at hk0
   have hm0:m=0:=by
    rcases Nat.eq_zero_or_pos m with h|h
    ·exact h
    ·obtain⟨m',rfl⟩:=Nat.exists_eq_succ_of_ne_zero (Nat.pos_iff_ne_zero.1 h);have:=hL.pos (j:=m') (by omega);simp only[Nat.succ_eq_add_one]at hk0;omega
   subst hm0 h7
   repeat' (first|(with_reducible first|refine am ?_|refine aj (by assumption) rfl ?_|refine ap (λhbr=>?_) λhbr=>?_)|simp(disch:=first|omega|(simp only[ak];omega)|simp only[al,Nat.reduceAdd]) only[go_sem,E5,dY])
   refine⟨((o,⟨kd,0,xs,[],1⟩),true),?_,bx (by rw[List.take_left]) rfl⟩;simp only[if_true];exact⟨[],0,by simp,Tf.nil,rfl,NS.mk' (by omega) (by omega) (by omega) hxn.2.2.2.1 (by simp) (by simp),Nat.zero_le _⟩
  ·repeat' (first|(with_reducible first|refine am ?_|refine aj (by assumption) rfl ?_|refine ap (λhbr=>?_) λhbr=>?_)|simp(disch:=first|omega|(simp only[ak];omega)|simp only[al,Nat.reduceAdd]) only[go_sem,E5,dY])
   all_goals first|contradiction|skip
   refine⟨((o++e,⟨kd,0,xs,[],1⟩),false),by simp,bx (by rw[K3,hO]) (by simp[aB,bo,h7])⟩
set_option maxHeartbeats 4000000 in
theorem Qh(k:Int)(s:ByteArray):∃a:Int×Int×Int,True/\aW Try.prog 70 [(true,[.sc (.int .i64 k),.sc (.string s)])] [(false,[.sc (.int .i64 a.1)],true),(false,[.sc (.int .i64 a.2.1)],true),(false,[.sc (.int .i64 a.2.2)],true)]:=by
 refine iF Try.func70 pw rfl (by kernel_rfl) ?_;simp only[iq]
 repeat' (first|(with_reducible first|refine am ?_|refine aj (by assumption) rfl ?_|refine ap (λhbr=>?_) λhbr=>?_)|simp(disch:=first|omega|(simp only[ak];omega)|simp only[al,Nat.reduceAdd]) only[go_sem,gu])
 all_goals first|contradiction|exact⟨(_,_,_),rfl⟩
set_option maxHeartbeats 16000000 in
theorem Ph(T:List eD)(i:Nat)(o:List bj)(b:Bool)(least:Int)(hT:T.length<=1000)(hi:i<=T.length)(hs:∀x∈T,x.text.size<=1000)(hE:MB T (i+1))(hB:o.length+2*(T.length-i)<=300000+10*i):
 ∃a:Nat×List bj×Bool,(i<=a.1/\a.1<=T.length/\a.2.1.length+2*i<=o.length+2*a.1/\(b=true->a.2.2=true)/\(a.2.2=false->i<a.1/\∃e,a.2.1=o++e/\Tf 0 1 e))/\PV 56 T i o b [(false,[.sc (.int .i64 least)])] a.1 a.2.1 a.2.2 []:=by
 obtain⟨⟨⟨ip,op,bp⟩,lv⟩,hp,hpc⟩:=NN T i o b least hT hi hs hE hB;simp only at hp hpc;refine eF Try.func56 l5 rfl (fE ..) (by kernel_rfl) ?_;simp only[eZ];simp only[bR,ao,ae];simp(disch:=first|omega|(simp only[ak];omega)|simp only[al,Nat.reduceAdd]) only[go_sem,true_and];refine aC hpc rfl ?_;simp(disch:=first|omega|(simp only[ak];omega)|simp only[al,Nat.reduceAdd]) only[go_sem,bR,ao,ae]
 refine lp (λs:Int×Nat×Bool×List bj=>[.sc (.int .i64 s.1),.sl 77 2 (T.map aS),.sc (.int .i64 s.2.1),.sc (.bool s.2.2.1),.sl 37 5 (s.2.2.2.map aB)])
  (λs=>i<=s.2.1/\s.2.1<=T.length/\s.2.2.2.length+2*i<=o.length+2*s.2.1/\(b=true->s.2.2.1=true)/\(s.2.2.1=false->i<s.2.1/\∃e,s.2.2.2=o++e/\Tf 0 1 e)) (λs=>T.length-s.2.1) (lv,ip,bp,op) rfl hp ?_
 rintro⟨lev,i2,b2,o2⟩ ⟨g1,g2,g3,g4,g5⟩;simp only at g1 g2 g3 g4 g5 ⊢;simp only[eH];simp(disch:=first|omega|(simp only[ak];omega)|simp only[al,Nat.reduceAdd]) only[go_sem,true_and];refine jn (λvs=>∃c:Bool,(c=true->b2=false/\i2<T.length)/\vs=[.sc (.bool c)]) ?_ ?_
 ·cases b2
  ·by_cases hlt:i2<T.length
   ·repeat' (first|(with_reducible first|refine am ?_|refine aj (by assumption) rfl ?_|refine ap (λhbr=>?_) λhbr=>?_)|simp(disch:=first|omega|(simp only[ak];omega)|simp only[al,Nat.reduceAdd]) only[go_sem,true_and])
    all_goals first|contradiction|(exfalso;omega)|exact⟨_,by first|exact λ_=>⟨rfl,hlt⟩|exact λ_=>hlt,rfl⟩
   ·repeat' (first|(with_reducible first|refine am ?_|refine aj (by assumption) rfl ?_|refine ap (λhbr=>?_) λhbr=>?_)|simp(disch:=first|omega|(simp only[ak];omega)|simp only[al,Nat.reduceAdd]) only[go_sem,true_and])
    all_goals first|contradiction|(exfalso;omega)|exact⟨_,λh=>by simp at h;omega,rfl⟩
  ·repeat' (first|(with_reducible first|refine am ?_|refine aj (by assumption) rfl ?_|refine ap (λhbr=>?_) λhbr=>?_)|simp(disch:=first|omega|(simp only[ak];omega)|simp only[al,Nat.reduceAdd]) only[go_sem,true_and])
   all_goals first|contradiction|exact⟨false,by simp,rfl⟩
 rintro vs - ⟨c,hc,rfl⟩;simp only[eJ];cases c
 ·simp(disch:=first|omega|(simp only[ak];omega)|simp only[al,Nat.reduceAdd]) only[go_sem,true_and];exact⟨(i2,o2,b2),⟨g1,g2,g3,g4,g5⟩,bx rfl rfl⟩
 obtain⟨rfl,hlt⟩:=hc rfl;obtain⟨g6,e1,rfl,t1⟩:=g5 rfl;have hx:=kt (t:=77) (l:=T) (kd:=.i64) (z:=(i2:Int)) (by omega) (by omega);rw[Int.toNat_natCast]at hx;have hsz:=hs _ (bK hlt);generalize T.getD i2 default=x at *;obtain⟨kd,tx⟩:=x;simp only[aS]at hx hsz;obtain⟨⟨own,left,right⟩,-,hlv⟩:=Qh kd tx;simp only at hlv
 have stop:∃a:Nat×List bj×Bool,(i<=a.1/\a.1<=T.length/\a.2.1.length+2*i<=o.length+2*a.1/\(b=true->a.2.2=true)/\(a.2.2=false->i<a.1/\∃e,a.2.1=o++e/\Tf 0 1 e))/\MM (gO Try.prog 9 66).length [] [.sl 77 2 (T.map aS),.sc (.int .i64 a.1),.sl 37 5 (a.2.1.map aB),.sc (.bool a.2.2)]
  [(true,[.sl 77 2 (T.map aS),.sc (.int .i64 i2),.sl 37 5 ((o++e1).map aB),.sc (.bool false)])]:=⟨(i2,o++e1,false),⟨g1,g2,g3,λh=>absurd (g4 h) (by simp),λ_=>⟨g6,e1,rfl,t1⟩⟩,bx rfl rfl⟩
 simp(disch:=first|omega|(simp only[ak];omega)|simp only[al,Nat.reduceAdd]) only[go_sem,hx];refine aj hlv rfl ?_;simp(disch:=first|omega|(simp only[ak];omega)|simp only[al,Nat.reduceAdd]) only[go_sem,true_and];refine ap (λh0=>?_) (λh0=>?_)
 ·simp(disch:=first|omega|(simp only[ak];omega)|simp only[al,Nat.reduceAdd]) only[go_sem,true_and];exact stop
 simp(disch:=first|omega|(simp only[ak];omega)|simp only[al,Nat.reduceAdd]) only[go_sem,true_and];refine ap (λh0=>?_) (λh0=>?_)
 ·simp(disch:=first|omega|(simp only[ak];omega)|simp only[al,Nat.reduceAdd]) only[go_sem,true_and];exact stop
 simp(disch:=first|omega|(simp only[ak];omega)|simp only[al,Nat.reduceAdd]) only[go_sem,true_and];refine ap (λh0=>?_) (λh0=>?_)
 ·simp(disch:=first|omega|(simp only[ak];omega)|simp only[al,Nat.reduceAdd]) only[go_sem,true_and];exact stop
 simp(disch:=first|omega|(simp only[ak];omega)|simp only[al,Nat.reduceAdd]) only[go_sem,true_and];refine jn (λvs=>∃(e2:List bj) (c:Nat) (y:bj),(Tf 0 c e2/\y.kids=((c+1:Nat):Int)/\NS y/\e2.length<=e1.length)/\vs=[.sl 77 2 (T.map aS),.sc (.int .i64 i2),.sc (.bool false),.sl 37 5 ((o++e2).map aB)]++aB y) ?_ ?_
 ·refine ap (λh1=>?_) (λh1=>?_)
  ·obtain⟨⟨⟨o',y⟩,is⟩,hq,hcb⟩:=Nf T i2 o e1 tx hT g2 t1 (by omega);simp only at hq hcb;simp(disch:=first|omega|(simp only[ak];omega)|simp only[al,Nat.reduceAdd]) only[go_sem,true_and];refine aC hcb rfl ?_;obtain⟨yk,yn,ys,yl,yc⟩:=y;cases is
   ·simp only[Bool.false_eq_true,if_false]at hq;subst hq;simp(disch:=first|omega|(simp only[ak];omega)|simp only[al,Nat.reduceAdd]) only[go_sem,bR,ao,ae,aB,bo];exact stop
   ·simp only[if_true]at hq;obtain⟨e2,c,rfl,q1,q2,q3,q4⟩:=hq;simp(disch:=first|omega|(simp only[ak];omega)|simp only[al,Nat.reduceAdd]) only[go_sem,bR,ao,ae,aB,bo];exact⟨e2,c,⟨yk,yn,ys,yl,yc⟩,⟨q1,q2,q3,q4⟩,rfl⟩
  ·simp(disch:=first|omega|(simp only[ak];omega)|simp only[al,Nat.reduceAdd]) only[go_sem,true_and];exact⟨e1,1,⟨11,0,tx,[],2⟩,⟨t1,rfl,NS.mk' (by simp) (by simp) (by simp) hsz (by simp) (by simp),Nat.le_refl _⟩,rfl⟩
 rintro vs - ⟨e2,c,y,⟨t2,hy,ny,hl⟩,rfl⟩;simp only[eG];obtain⟨yk,yn,ys,yl,yc⟩:=y;simp only at hy;subst hy;simp only[aB,bo];have hl2:(o++e2).length<=(o++e1).length:=by simp;omega
 simp(disch:=first|omega|(simp only[ak];omega)|simp only[al,Nat.reduceAdd]) only[go_sem,true_and];obtain⟨i6,o6,b6,h6,hcb⟩:=hE (i2+1) (o++e2) false right (by omega) (by omega) (by omega);refine aC hcb rfl ?_;clear hcb;simp(disch:=first|omega|(simp only[ak];omega)|simp only[al,Nat.reduceAdd]) only[go_sem,bR,ao,ae];refine⟨(_,i6,b6,o6++[⟨yk,yn,ys,yl,((c+1:Nat):Int)⟩]),by rw[K3],⟨by simp only;omega,by simp only;omega,by simp only[d8];omega,λh=>absurd (g4 h) (by simp),λhb=>⟨by simp only;omega,?_⟩⟩,by simp only;omega⟩;obtain⟨-,e3,rfl,t3⟩:=h6.2.2.2.2 hb;refine⟨_,G1 ..,(t2.app (t3.up c)).app ?_⟩;have:=Tf.one (a:=c+1) (x:=⟨yk,yn,ys,yl,((c+1:Nat):Int)⟩) (c+1) rfl (Nat.le_refl _) ny
 rwa [show c+1+1-(c+1)=1 by omega]at this
theorem H6(T:List eD)(hT:T.length<=1000)(hs:∀x∈T,x.text.size<=1000):∀m k,T.length+1-k<=m->MB T k:=by
 intro m
 induction m with
 |zero=>
  intro k hk i o b least h1 h2 h3
  omega
 |succ m ih=>
  intro k hk i o b least h1 h2 h3;obtain⟨⟨i',o',b'⟩,hq,hc⟩:=Ph T i o b least hT h2 hs (ih (i+1) (by omega)) h3;exact⟨i',o',b',hq,hc⟩
def ri:List aY:=[]
def rN:List (Nat×Nat×Bool×List Nat):=[]
def jZ:UP:=.i 0<|.i 0<|.s #[]<|.i 0<|.sel [4,5,6,7,8]<|.cl 45 [(false,[1])] Fr<|.c 5<|.c 4<|.c 3<|.c 1<|.ret [(true,[5,4,3,0,1])]
theorem rE:bk Try.prog 33 Try.f33 di ri rN=some ([(true,5)],jZ):=by kernel_rfl
def pm:List aY:=[⟨3000003,2,⟨[co 3 0 0,aa 8 4,aa 7 1,aa 6 0,(2,.p false [.nil]),aa 0 0],[(0,.row 0 37 5 5)],1,1,6,[]⟩,[⟨true,3,0,37,5⟩]⟩]
def pK:List (Nat×Nat×Bool×List Nat):=[]
def gJ:UP:=.b .lss 1 4<|.ite 0 (.z 2<|.x 5 6 2<|.i 0<|.i 0<|.s #[]<|.i 0<|.sel [4,5,6,7,8,10,11]<|.cl 33 [(true,[4,3,2,1,0])] [(true,[none,none,none,some (9,1),none],true)]<|.c 4<|.c 3<|.c 2<|.c 0<|.po (.mk 37 5 [[4,3,2,1,0]])<|.po (.app 37 5 64 11 0)<|.i 1<|.a 14 0<|.jump 0 [0,2])<|.r 1
def iH:UP:=.l 0<|.i 0<|.po (.e 37 5)<|.loop [1,0] gJ
theorem qA:bk Try.prog 16 Try.f16 di pm pK=some ([(false,1)],iH):=by kernel_rfl
def qC:List aY:=[]
def pi:List (Nat×Nat×Bool×List Nat):=[]
def iC:UP:=.po (.mk 9 1 [])<|.po (.flat 1)<|.po (.app 9 1 16 0 1)<|.r 0
theorem qJ:bk Try.prog 45 Try.f45 di qC pi=some ([(false,1)],iC):=by kernel_rfl
def sT:List aY:=[⟨3000004,2,⟨[aa 6 4,aa 5 5,aa 4 2,aa 0 0,aa 1 1],[],0,0,6,[]⟩,[]⟩]
def tZ:List (Nat×Nat×Bool×List Nat):=[]
def jR:UP:=.i 1<|.b .sub 1 0<|.z 3<|.x 5 7 3<|.a 5 0<|.i 0<|.e 1 0<|.ite 0 (.c 11<|.r 11)<|.i 1<|.b .sub 12 0<|.jump 0 [0,4]
def kD:UP:=.i 0<|.i 1<|.loop [2,0] jR
theorem tF:bk Try.prog 23 Try.f23 di sT tZ=some ([(false,1),(false,1)],kD):=by kernel_rfl
def sw:List aY:=[⟨3000003,2,⟨[aa 4 3,co 3 0 0,(2,.p false [.nil]),aa 0 0],[(0,.row 0 37 5 4)],1,1,5,[]⟩,[]⟩]
def sm:List (Nat×Nat×Bool×List Nat):=[]
def jC:UP:=.l 4<|.b .lss 2 0<|.ite 0 (.z 3<|.x 5 6 3<|.i 0<|.i 0<|.s #[]<|.i 0<|.po (.mk 9 1 [])<|.z 13<|.x 5 16 13<|.po (.flat 1)<|.po (.app 9 1 16 5 1)<|.c 15<|.c 14<|.c 13<|.c 11<|.po (.mk 37 5 [[15,14,13,0,11]])<|.po (.app 37 5 64 19 0)<|.i 1<|.a 22 0<|.jump 0 [0,2])<|.r 2
def la:UP:=.po (.mk 37 5 [])<|.i 0<|.loop [0,1] jC
theorem tI:bk Try.prog 20 Try.f20 di sw sm=some ([(false,1)],la):=by kernel_rfl
def u7:List aY:=[⟨2000003,2,⟨[aa 77 31,aa 8 32,aa 7 29,aa 56 30,aa 55 29,aa 54 27,(53,.p false [.sub 0 0 1 26 27]),(6,.p false [.sub 0 0 1 26 27]),aa 45 23,aa 4 11,bh 5 1 1 0,aa 20 13,co 3 0 0,aa 19 11,aa 18 8,aa 17 0,aa 16 7,aa 2 1,aa 0 0],[(0,.row 0 3 1 12),(1,.var 1 37 [.d 14,.d 15,.d 16,.d 17,.d 18])],2,2,33,[(30,true),(23,false),(13,true),(7,false),(4,false),(1,false)]⟩,[]⟩,⟨3000011,1,⟨[aa 55 29,aa 54 27,(53,.p false [.sub 0 0 1 26 27]),(6,.p false [.sub 0 0 1 26 27]),aa 45 23,aa 4 11,bh 5 1 1 0,aa 20 13,co 3 0 0,aa 19 11,aa 18 8,aa 17 0,aa 16 7,aa 2 1,aa 0 0],[(0,.row 0 3 1 12),(1,.var 1 37 [.d 14,.d 15,.d 16,.d 17,.d 18])],2,2,30,[(23,false),(13,true),(7,false),(4,false),(1,false)]⟩,[]⟩,⟨7,1,⟨[aa 45 23,aa 4 11,bh 5 1 1 0,aa 20 13,co 3 0 0,aa 19 11,aa 18 8,aa 17 0,aa 16 7,aa 2 1,aa 0 0],[(0,.row 0 3 1 12),(1,.var 1 37 [.d 14,.d 15,.d 16,.d 17,.d 18])],2,2,24,[(13,true),(7,false),(4,false),(1,false)]⟩,[]⟩,⟨3000005,2,⟨[co 3 0 0,aa 19 11,aa 18 8,aa 17 0,aa 16 7,aa 2 1,aa 0 0],[(0,.row 0 3 1 12)],1,1,13,[(7,false),(4,false),(1,false)]⟩,[⟨true,3,0,3,1⟩]⟩]
def vn:List (Nat×Nat×Bool×List Nat):=[]
def kS:UP:=.i 1<|.a 3 0<|.jump 1 [0]
def kM:UP:=.b .lss 0 2<|.ite 0 (.sel [1,3,4,6,7,9]<|.join 2 kS<|.z 0<|.po (.atJ 2 1 0)<|.x 1 5 0<|.z 0<|.x 5 7 0<|.i 1<|.e 5 0<|.ite 0 (.i 8<|.b .neq 13 0<|.ite 0 (.t<|.f<|.c 0<|.r 0)<|.i 1<|.b .sub 13 0<|.e 13 0<|.ite 0 (.f<|.c 0<|.r 0)<|.jump 2 [0,12])<|.f<|.jump 2 [0,8])<|.l 7<|.b .sub 0 6<|.po (.cutI 9 none (some 0))<|.c 12<|.po (.mk 3 1 [[12]])<|.po (.cutP 12 2 1)<|.po (.flat 1)<|.po (.app 3 1 8 0 1)<|.i 1<|.a 16 0<|.jump 0 [0,2]
def lc:UP:=.ite 0 (.f<|.c 0<|.r 0)<|.l 6<|.b .sub 0 2<|.po (.cutI 8 (some 0) none)<|.i 0<|.sel [0,1,2,6,10,11,12,13]<|.loop [0] kM
def kW:UP:=.b .lss 1 4<|.ite 0 (.z 2<|.x 5 6 2<|.i 0<|.i 0<|.s #[]<|.i 0<|.sel [4,5,6,7,8,10,11,15]<|.join 1 lc<|.cl 32 [(true,[4,3,2,1,0])] aP<|.n 0<|.ite 0 (.t<|.t<|.jump 1 [0])<|.l 7<|.b .gtr 3 0<|.ite 0 (.t<|.jump 1 [0])<|.i 0<|.e 9 0<|.ite 0 (.l 13<|.i 1<|.b .sub 1 0<|.b .lss 15 0<|.jump 1 [0])<|.f<|.jump 1 [0])<|.l 1<|.i 1<|.e 1 0<|.ite 0 (.l 9<|.i 1<|.b .sub 1 0<|.z 0<|.x 5 12 0<|.i 1<|.b .neq 5 0<|.c 0<|.r 0)<|.f<|.c 0<|.r 0
def mB:UP:=.f<|.l 1<|.i 1<|.b .lss 1 0<|.ite 0 (.t<|.f<|.c 0<|.r 0)<|.l 4<|.i 200<|.b .gtr 1 0<|.ite 0 (.f<|.c 0<|.r 0)<|.l 7<|.i 0<|.po (.e 3 1)<|.sel [0,1,2,10]<|.loop [1,0] kW
theorem uJ:bk Try.prog 15 Try.f15 di u7 vn=some ([(false,1)],mB):=by kernel_rfl
set_option maxHeartbeats 4000000 in
theorem lR(t:List bj)(ht:t.length<=1048576)(hx:∀x∈t,x.text.size<=1048576/\x.labels.length<=1048576/\∀y∈x.labels,y.size<=1048576):aW Try.prog 15 [(false,[ae t])] [(false,[.sc (.bool (bc t))],true)]:=by
 have b1:∀{a b:Bool},a=b->[DV.sc (.bool a)]=[.sc (.bool b)]:=λh=>by rw[h]
 refine ax Try.func15 uJ rfl ?_;simp only[mB];simp only[ae];simp(disch:=first|omega|(simp only[ak];omega)|simp only[al,Nat.reduceAdd]) only[go_sem,true_and];refine bI (λhn1=>?_) (λhn1=>?_)
 ·repeat' (first|(with_reducible first|refine am ?_|refine aj (by assumption) rfl ?_|refine ap (λhbr=>?_) λhbr=>?_)|simp(disch:=first|omega|(simp only[ak];omega)|simp only[al,Nat.reduceAdd]) only[go_sem,true_and])
  exact aU (by unfold bc;rw[decide_eq_false (by omega)];rfl)
 simp(disch:=first|omega|(simp only[ak];omega)|simp only[al,Nat.reduceAdd]) only[go_sem,true_and];refine bI (λhn2=>?_) (λhn2=>?_)
 ·repeat' (first|(with_reducible first|refine am ?_|refine aj (by assumption) rfl ?_|refine ap (λhbr=>?_) λhbr=>?_)|simp(disch:=first|omega|(simp only[ak];omega)|simp only[al,Nat.reduceAdd]) only[go_sem,true_and])
  exact aU (by unfold bc;rw[decide_eq_false (by omega)];rfl)
 have hn:1<=(t.length:Int)/\(t.length:Int)<=200:=by omega
 simp(disch:=first|omega|(simp only[ak];omega)|simp only[al,Nat.reduceAdd]) only[go_sem,true_and];refine lp (λs:Nat×List Int=>[.sc (.int .i64 (s.1:Nat)),.sl 3 1 (s.2.map mL)]) (λs=>s.1<=t.length/\fM t s.1=some s.2) (λs=>t.length-s.1) (0,[]) rfl ⟨by simp,rfl⟩ ?_;rintro⟨i,s⟩ ⟨g1,g2⟩;simp only at g1 g2 ⊢;obtain⟨v1,v2⟩:=nU g2;simp only[kW];by_cases hlt:i<t.length
 ·have hno:=Fq hlt g2;have hst:fM t (i+1)=oX t i s:=by simp only[fM,g2]
  unfold oX at hno hst;obtain⟨z1,z2,z3⟩:=hx _ (bK hlt);have hS:=GR (t.getD i default).kind (t.getD i default).num (t.getD i default).kids (t.getD i default).text (t.getD i default).labels z1 z2 z3;simp only[aB,bo]at hS;simp(disch:=first|omega|(simp only[ak];omega)|simp only[al,Nat.reduceAdd]) only[go_sem,cG,aB,bo];refine bI (λhbr=>?_) (λhbr=>absurd hbr (by omega));simp(disch:=first|omega|(simp only[ak];omega)|simp only[al,Nat.reduceAdd]) only[go_sem,cG,aB,bo];refine yT [.sc (.bool (vr t i s))] ?_ ?_
  ·refine aj hS rfl ?_;unfold vr nB;cases hnb:qe (t.getD i default).kind (t.getD i default).num (t.getD i default).text (t.getD i default).labels (t.getD i default).kids
   ·repeat' (first|(with_reducible first|refine am ?_|refine aj (by assumption) rfl ?_|refine ap (λhbr=>?_) λhbr=>?_)|simp(disch:=first|omega|(simp only[ak];omega)|simp only[al,Nat.reduceAdd]) only[go_sem,Bool.false_and])
    all_goals first|exact b1 (by simp[*];done)|skip
   ·repeat' (first|(with_reducible first|refine am ?_|refine aj (by assumption) rfl ?_|refine ap (λhbr=>?_) λhbr=>?_)|simp(disch:=first|omega|(simp only[ak];omega)|simp only[al,Nat.reduceAdd]) only[go_sem,true_and])
    all_goals first
     |omega
     |exact b1 (by simp[-List.getD_eq_getElem?_getD, *];done)
     |skip
  simp only[lc];cases hbad:vr t i s;rotate_left
  ·rw[hbad]at hno;have hno:=hno rfl
   repeat' (first|(with_reducible first|refine am ?_|refine aj (by assumption) rfl ?_|refine ap (λhbr=>?_) λhbr=>?_)|simp(disch:=first|omega|(simp only[ak];omega)|simp only[al,Nat.reduceAdd]) only[go_sem,true_and])
   exact aU hno
  rw[hbad]at hno hst;simp only[Bool.false_eq_true,if_false]at hno hst;unfold vr at hbad;simp only[Bool.or_eq_false_iff,Bool.not_eq_false',decide_eq_false_iff_not]at hbad;obtain⟨hb1,hb2,-⟩:=hbad;have hk0:=vT hb1;generalize hxx:t.getD i default=x at *;obtain⟨kN,hkN⟩:=Int.eq_ofNat_of_zero_le hk0;rw[hkN,Int.toNat_natCast]at hst hno;rw[hkN]at hb2;have e1:(s.length:Int)-(kN:Int)=((s.length-kN:Nat):Int):=by omega
  have e3:(s.length:Int)-((s.length-kN:Nat):Int)=(kN:Int):=by omega
  simp(disch:=first|omega|(simp only[ak];omega)|simp only[al,Nat.reduceAdd]) only[go_sem,hkN,e1,e3];refine lp (λj:Nat=>[.sc (.int .i64 (j:Int))]) (λj=>j<=kN/\cJ (xS t x s) j=true) (λj=>kN-j) 0 rfl ⟨by omega,rfl⟩ ?_;rintro j ⟨w1,w2⟩;simp only[kM];by_cases hj:j<kN
  ·obtain⟨m1,m2⟩:=v2 _ (Cm (l:=s) (i:=s.length-kN+j) (by omega));have hEj:xS t x s j= !(decide (EX t s (s.length-kN+j)=1)&&(decide (x.kind≠8)||decide (j+1=kN))):=by unfold xS;rw[hkN];rfl
   have hkd:(t.getD (s.getD (s.length-kN+j) default).toNat default).kind=EX t s (s.length-kN+j):=rfl;have ret0:xS t x s j=false->bc t=false:=λh=>hno (by rw[gP hj h];rfl)
   have e4:((s.length-kN:Nat):Int)+(j:Int)=((s.length-kN+j:Nat):Int):=rfl
   repeat' (first|(with_reducible first|refine am ?_|refine aj (by assumption) rfl ?_|refine ap (λhbr=>?_) λhbr=>?_)|simp(disch:=first|omega|(simp only[ak];omega)|simp only[al,Nat.reduceAdd]) only[go_sem,BO,cG,aB,bo,hkd,kS,e4])
   all_goals first
    |(exfalso;omega)
    |exact aU (ret0 (by rw[hEj,decide_eq_true ‹EX t s (s.length-kN+j)=1›,decide_eq_false (p:=x.kind≠8) (λh=>h ‹x.kind=8›),decide_eq_true (p:=j+1=kN) (by omega)];rfl))
    |exact aU (ret0 (by rw[hEj,decide_eq_true ‹EX t s (s.length-kN+j)=1›,decide_eq_true (p:=x.kind≠8) ‹¬x.kind=8›];rfl))
    |exact⟨j+1,rfl,⟨hj,bW w2 (by rw[hEj,decide_eq_true ‹EX t s (s.length-kN+j)=1›,decide_eq_false (p:=x.kind≠8) (λh=>h ‹x.kind=8›),decide_eq_false (p:=j+1=kN) (by omega)];rfl)⟩,by omega⟩
    |exact⟨j+1,rfl,⟨hj,bW w2 (by rw[hEj,decide_eq_false (p:=EX t s (s.length-kN+j)=1) ‹_›];rfl)⟩,by omega⟩
    |skip
  ·obtain rfl:kN=j:=by omega
   rw[if_pos w2]at hst;have hsl:(s.take (s.length-kN)).length<=1048576:=by rw[List.length_take];omega
   repeat' (first|(with_reducible first|refine am ?_|refine aj (by assumption) rfl ?_|refine ap (λhbr=>?_) λhbr=>?_)|simp(disch:=first|omega|(simp only[ak];omega)|simp only[al,Nat.reduceAdd]) only[go_sem,hkN,e1])
   all_goals first
    |(exfalso;omega)
    |exact⟨(i+1,s.take (s.length-kN)++[(i:Int)]),rfl,⟨hlt,hst⟩,by simp only;omega⟩
    |trace_state
 ·obtain rfl:i=t.length:=by omega
  have hT:bc t=(decide (s.length=1)&& !decide ((t.getD (t.length-1) default).kind=1)):=by unfold bc;rw[decide_eq_true (by omega),g2];rfl
  rw[hT];have e2:((t.length:Int)-1).toNat=t.length-1:=by omega
  repeat' (first|(with_reducible first|refine am ?_|refine aj (by assumption) rfl ?_|refine ap (λhbr=>?_) λhbr=>?_)|simp(disch:=first|omega|(simp only[ak];omega)|simp only[al,Nat.reduceAdd]) only[go_sem,cG,aB,bo,e2])
  all_goals first
   |omega
   |exact aU (by rw[decide_eq_true (p:=s.length=1) (by omega),Bool.true_and])
   |exact aU (by rw[decide_eq_false (p:=s.length=1) (by omega),Bool.false_and])
   |trace_state
theorem ur(t:List bj)(h:bc t=true)(i:Nat)(hi:i<t.length):aW Try.prog 23 [(false,[ae t]),(false,[.sc (.int .i64 i)])] [(false,[.sc (.int .i64 (aL t i:Nat))],true)]:=by
 refine ax Try.func23 tF rfl ?_;simp only[kD];simp only[ae];simp(disch:=first|omega|(simp only[ak];omega)|simp only[al,Nat.reduceAdd]) only[go_sem,true_and];refine lp (λj:Nat=>[.sc (.int .i64 (j:Int)),.sc (.int .i64 ((cH t (j+1):Int)+1-cH t (i+1)))]) (λj=>j<=i/\cH t (i+1)<=cH t (j+1)/\sA (cH t) (cH t (i+1)) j=aL t i) (λj=>j) i (by simp[gL];omega) ⟨Nat.le_refl _,Nat.le_refl _,rfl⟩ ?_;rintro j ⟨g1,g2,g3⟩;simp only[jR];obtain⟨k,k1,k2,k3,-⟩:=dE h (j:=j) (by omega);have h1:=xb h hi;have hl:=cO h;have b1:=AD t (i+1);have b2:=AD t (j+1);have b3:=AD t j
 repeat' (first|(with_reducible first|refine am ?_|refine aj (by assumption) rfl ?_|refine ap (λhbr=>?_) λhbr=>?_)|simp(disch:=first|omega|(simp only[ak];omega)|simp only[al,Nat.reduceAdd]) only[go_sem,cG,aB,bo,k1])
 all_goals first
  |(exfalso;omega)
  |exact yR (by rw[<-g3,se (by omega)])
  |skip
 have h2:cH t j+1≠cH t (i+1):=by omega
 have h3:j≠0:=by rintro rfl;rw[xB]at k2 k3 h2;omega
 obtain⟨j,rfl⟩:=Nat.exists_eq_succ_of_ne_zero h3;refine⟨j,?_,⟨by omega,by simp only[Nat.succ_eq_add_one]at *;omega,by rw[<-g3,lm h2];rfl⟩,by omega⟩;simp only[Nat.succ_eq_add_one]at *;congr 4<;>omega
theorem uv(t:List bj)(h:bc t=true)(i:Nat)(hi:i<t.length):aW Try.prog 21 [(false,[ae t]),(false,[.sc (.int .i64 i)])] [(false,[.sc (.int .i64 (aL t i:Nat))],true)]:=Bx (Lp h) (by have:=cO h;omega) i hi
theorem AI(l:List ByteArray)(hl:l.length<=100000000000):aW Try.prog 45 [(false,[bo l])] [(false,[bo l],true)]:=by
 refine ax Try.func45 qJ rfl ?_;simp only[iC];simp only[bo]
 repeat' (first|(with_reducible first|refine am ?_|refine aj (by assumption) rfl ?_|refine ap (λhbr=>?_) λhbr=>?_)|simp(disch:=first|omega|(simp only[ak];omega)|simp only[al,Nat.reduceAdd]) only[go_sem,true_and])
 rfl
theorem Dp(x:bj)(hl:x.labels.length<=100000000000):aW Try.prog 33 [(true,aB x)] [(true,aB x,true)]:=by
 have h:=AI x.labels hl;refine ax Try.func33 rE rfl ?_;simp only[jZ];simp only[aB,bo]at h ⊢
 repeat' (first|(with_reducible first|refine am ?_|refine aj (by assumption) rfl ?_|refine ap (λhbr=>?_) λhbr=>?_)|simp(disch:=first|omega|(simp only[ak];omega)|simp only[al,Nat.reduceAdd]) only[go_sem,true_and])
 rfl
theorem lL(t:List bj)(ht:t.length<=1048576)(hx:∀x∈t,x.labels.length<=1048576):aW Try.prog 16 [(false,[ae t])] [(false,[ae t],true)]:=by
 refine ax Try.func16 qA rfl ?_;simp only[iH];simp only[ae];simp(disch:=first|omega|(simp only[ak];omega)|simp only[al,Nat.reduceAdd]) only[go_sem,true_and];refine Dx t.length (λi=>[.sc (.int .i64 i),.sl 37 5 ((t.take i).map aB)]) rfl λi hi=>?_
 simp only[gJ];by_cases hlt:i<t.length
 ·have hc:=Dp (t.getD i default) (by have:=hx _ (bK hlt);omega);have hix:rk 5 (some (.sl 37 5 (t.map aB))) (some (.sc (.int .i64 (i:Int))))=some (aB (t.getD i default)):=by rw[cG (by omega) (by omega),Int.toNat_natCast]
  have htk:(t.take (i+1)).map aB=(t.take i).map aB++[aB (t.getD i default)]:=by
   rw[List.take_succ_eq_append_getElem hlt,List.map_append,List.getD_eq_getElem?_getD,List.getElem?_eq_getElem hlt];rfl
  have hln:(t.take i).length<=1048576:=by rw[List.length_take];omega
  generalize t.getD i default=x at *;rw[htk];simp only[aB,bo]at hc hix
  repeat' (first|(with_reducible first|refine am ?_|refine aj (by assumption) rfl ?_|refine ap (λhbr=>?_) λhbr=>?_)|simp(disch:=first|omega|(simp only[ak];omega)|simp only[al,Nat.reduceAdd]) only[go_sem,hix])
  all_goals first|omega|exact⟨rfl,hlt⟩
 ·obtain rfl:i=t.length:=by omega
  repeat' (first|(with_reducible first|refine am ?_|refine aj (by assumption) rfl ?_|refine ap (λhbr=>?_) λhbr=>?_)|simp(disch:=first|omega|(simp only[ak];omega)|simp only[al,Nat.reduceAdd]) only[go_sem,List.take_length])
  all_goals first|omega|rfl
theorem il(t:List bj)(ht:t.length<=1048576)(hx:∀x∈t,x.labels.length<=1048576):aW Try.prog 20 [(false,[ae t])] [(false,[ae t],true)]:=by
 refine ax Try.func20 tI rfl ?_;simp only[la];simp only[ae];simp(disch:=first|omega|(simp only[ak];omega)|simp only[al,Nat.reduceAdd]) only[go_sem,true_and];refine Dx t.length (λi=>[.sc (.int .i64 i),.sl 37 5 ((t.take i).map aB)]) rfl λi hi=>?_
 simp only[jC];by_cases hlt:i<t.length
 ·have hc:(t.getD i default).labels.length<=1048576:=hx _ (bK hlt);have hix:rk 5 (some (.sl 37 5 (t.map aB))) (some (.sc (.int .i64 (i:Int))))=some (aB (t.getD i default)):=by rw[cG (by omega) (by omega),Int.toNat_natCast]
  have htk:(t.take (i+1)).map aB=(t.take i).map aB++[aB (t.getD i default)]:=by
   rw[List.take_succ_eq_append_getElem hlt,List.map_append,List.getD_eq_getElem?_getD,List.getElem?_eq_getElem hlt];rfl
  have hln:(t.take i).length<=1048576:=by rw[List.length_take];omega
  generalize t.getD i default=x at *;rw[htk];simp only[aB,bo]at hix
  repeat' (first|(with_reducible first|refine am ?_|refine aj (by assumption) rfl ?_|refine ap (λhbr=>?_) λhbr=>?_)|simp(disch:=first|omega|(simp only[ak];omega)|simp only[al,Nat.reduceAdd]) only[go_sem,hix])
  all_goals first|omega|exact⟨rfl,hlt⟩|exact⟨by unfold aB bo;rfl,hlt⟩
 ·obtain rfl:i=t.length:=by omega
  repeat' (first|(with_reducible first|refine am ?_|refine aj (by assumption) rfl ?_|refine ap (λhbr=>?_) λhbr=>?_)|simp(disch:=first|omega|(simp only[ak];omega)|simp only[al,Nat.reduceAdd]) only[go_sem,List.take_length])
  all_goals first|omega|rfl
theorem KM{s:ByteArray}(hs:s.size<=1000000){i:Nat}{out:List eD}{op:List Nat}{R:List eD×Int}(h:mJ s i out op R):i<=s.size->out.length<=i->(∀x∈out,x.text.size<=s.size)->R.1.length<=s.size/\(∀x∈R.1,x.text.size<=s.size)/\(R.2= -1\/R.1=[]):=by
 induction h with
 |done h=>intro h1 h2 h3;exact⟨by simp only;omega,h3,.inl rfl⟩
 |sp h1 h2 h3 ih=>intro a b c;exact ih (by omega) (by omega) c
 |@com i out op R h1 h2 h3 ih=>
  intro a b c;have q1:=lU (p:=pC s) (n:=s.size) h1 (by unfold pC;rw[h2];rfl);have q2:=gV (p:=pC s) (n:=s.size) (i:=i+1) (by omega)
  exact ih (by omega) (by omega) c
 |@nl i out op R h1 h2 h3 ih=>
  intro a b c;have:=Fu out op;refine ih (by omega) (by omega) λx hx=>?_
  unfold EW at hx;split at hx
  ·rcases List.mem_append.1 hx with hx|hx
   ·exact c x hx
   ·rw[List.mem_singleton.1 hx];show 1<=s.size;omega
  ·exact c x hx
 |bad h1 h2 h3=>intro a b c;exact⟨Nat.zero_le _,by simp,.inr rfl⟩
 |@tok i out op k e R h1 h2 h3 h4 ih=>
  intro a b c;obtain⟨q1,q2,q3⟩:=DI h1 hs h3;refine ih q2 (by rw[List.length_append,List.length_singleton];omega) λx hx=>?_
  rcases List.mem_append.1 hx with hx|hx
  ·exact c x hx
  ·rw[List.mem_singleton.1 hx];exact q3
def F2(t:List bj):Prop:=t.length<=200/\∀x∈t,NS x
theorem F2.nil:F2 []:=⟨by simp,by simp⟩
set_option maxHeartbeats 4000000 in
theorem Fl(s:ByteArray):∃a:List bj×Int×Int,(F2 a.1/\(a.2.1=0->a.1≠[]/\((a.1.getD (a.1.length-1) default).kids=1->2<=a.1.length)))/\aW Try.prog 31 [(false,[.sc (.string s)])] [(false,[ae a.1],true),(false,[.sc (.int .i64 a.2.1)],true),(false,[.sc (.int .i64 a.2.2)],true)]:=by
 by_cases hs:s.size<=600
 ·obtain⟨R,hR⟩:=KL (s:=s) (by omega) s.size 0 [] [] (by omega);have htk:=F4 s hs R hR;obtain⟨q1,q2,-⟩:=KM (by omega) hR (by omega) (by simp) (by simp);obtain⟨T,z⟩:=R;simp only at htk q1 q2;have hT:T.length<=1000:=by omega
  have hS:∀x∈T,x.text.size<=1000:=λx hx=>by have:=q2 x hx;omega
  obtain⟨⟨i,o,b,n⟩,hq,hli⟩:=HZ T 0 [] false false hT (by omega) hS (H6 T hT hS (T.length+1) 0 (by omega)) (by simp;omega);simp only at hq hli;have ho:o.length<=2*i:=by have:=hq.2.2.1;simp only[List.length_nil]at this;omega
  refine iF Try.func31 ft rfl (by kernel_rfl) ?_;simp only[dG];simp only[ao,ae]at htk ⊢;simp(disch:=first|omega|(simp only[ak];omega)|simp only[al,Nat.reduceAdd]) only[go_sem,true_and];refine aj htk rfl ?_;simp(disch:=first|omega|(simp only[ak];omega)|simp only[al,Nat.reduceAdd]) only[go_sem,true_and];refine ap (λh0=>?_) (λh0=>?_)
  ·simp(disch:=first|omega|(simp only[ak];omega)|simp only[al,Nat.reduceAdd]) only[go_sem,OT];exact⟨([],1,z),⟨F2.nil,by simp⟩,rfl⟩
  simp(disch:=first|omega|(simp only[ak];omega)|simp only[al,Nat.reduceAdd]) only[go_sem,true_and];refine aC hli rfl ?_;simp(disch:=first|omega|(simp only[ak];omega)|simp only[al,Nat.reduceAdd]) only[go_sem,bR,ao,ae];cases b
  ·obtain⟨e,he,te⟩:=hq.2.2.2.2 rfl;rw[List.nil_append]at he;subst he;simp(disch:=first|omega|(simp only[ak];omega)|simp only[al,Nat.reduceAdd]) only[go_sem,true_and];refine aC (dC T i o false 0 ⟨#[]⟩ n (by first|omega|(simp only[List.length_append,List.length_cons,List.length_nil];omega))) rfl ?_;simp(disch:=first|omega|(simp only[ak];omega)|simp only[al,Nat.reduceAdd]) only[go_sem,bR,ao,ae];have hns:∀x∈o++[(⟨0,0,⟨#[]⟩,[],n⟩:bj)],NS x:=λx hx=>(List.mem_append.1 hx).elim (te.2 x) λh=>by rw[List.mem_singleton.1 h];exact(NS.mk' (n:=0) (by simp) (by simp) (by simp) (by first|assumption|omega|decide) (by simp) (by simp))
   refine ap (λh1=>?_) (λh1=>?_)
   ·simp(disch:=first|omega|(simp only[ak];omega)|simp only[al,Nat.reduceAdd]) only[go_sem,OT];exact⟨([],3,0),⟨F2.nil,by simp⟩,rfl⟩
   ·have hcp:=il (o++[(⟨0,0,⟨#[]⟩,[],n⟩:bj)]) (by rw[d8];omega) (λx hx=>by have:=(hns x hx).2.2.2.2.1;omega);simp only[ae]at hcp;simp(disch:=first|omega|(simp only[ak];omega)|simp only[al,Nat.reduceAdd]) only[go_sem,true_and];refine aj hcp rfl ?_;simp(disch:=first|omega|(simp only[ak];omega)|simp only[al,Nat.reduceAdd]) only[go_sem,true_and];refine⟨(o++[(⟨0,0,⟨#[]⟩,[],n⟩:bj)],0,0),⟨⟨by simp only[d8]at h1 ⊢;omega,hns⟩,λ_=>⟨by simp,λhk=>?_⟩⟩,rfl⟩;simp only[d8,Nat.add_sub_cancel]at hk ⊢;rw[List.getD_eq_getElem?_getD,List.getElem?_append_right (Nat.le_refl _),Nat.sub_self]at hk;simp only[List.getElem?_cons_zero,Option.getD_some]at hk;rcases Nat.eq_zero_or_pos o.length with h|h
    ·rw[List.length_eq_zero_iff.1 h]at te;have:=te.1;simp[u9]at this;omega
    ·omega
  ·simp(disch:=first|omega|(simp only[ak];omega)|simp only[al,Nat.reduceAdd]) only[go_sem,OT];exact⟨([],2,i),⟨F2.nil,by simp⟩,rfl⟩
 ·have htk:=CK s hs;refine iF Try.func31 ft rfl (by kernel_rfl) ?_;simp only[dG];simp only[ao,ae]at htk ⊢;simp(disch:=first|omega|(simp only[ak];omega)|simp only[al,Nat.reduceAdd]) only[go_sem,true_and];refine aj htk rfl ?_;simp(disch:=first|omega|(simp only[ak];omega)|simp only[al,Nat.reduceAdd]) only[go_sem,OT];exact⟨([],1,600),⟨F2.nil,by simp⟩,rfl⟩
theorem Oa(s:ByteArray):∃a:List bj×Bool,(F2 a.1/\(a.2=true->a.1≠[]))/\aW Try.prog 29 [(false,[.sc (.string s)])] [(false,[ae a.1],true),(false,[.sc (.bool a.2)],true)]:=by
 obtain⟨⟨t,k,z⟩,⟨h1,h2⟩,hp⟩:=Fl s;simp only at h1 h2 hp;refine iF Try.func29 kl rfl (by kernel_rfl) ?_;simp only[ec];simp only[ae]at hp ⊢;simp(disch:=first|omega|(simp only[ak];omega)|simp only[al,Nat.reduceAdd]) only[go_sem,true_and];refine aj hp rfl ?_;simp(disch:=first|omega|(simp only[ak];omega)|simp only[al,Nat.reduceAdd]) only[go_sem,true_and];refine ap (λh0=>?_) (λh0=>?_)
 ·obtain⟨hne,hk1⟩:=h2 h0;have hpos:=List.length_pos_iff.2 hne;have hlen:=h1.1;have hix:=cG (t:=37) (l:=t) (kd:=.i64) (z:=((t.length-1:Nat):Int)) (by omega) (by omega);rw[Int.toNat_natCast]at hix;have E1:(t.length:Int)-1=((t.length-1:Nat):Int):=by omega
  generalize t.getD (t.length-1) default=x at *;obtain⟨xk,xn,xs,xl,xc⟩:=x;simp only[aB,bo]at hix hk1;simp(disch:=first|omega|(simp only[ak];omega)|simp only[al,Nat.reduceAdd]) only[go_sem,E1,hix];refine ap (λh3=>?_) (λh3=>?_)
  ·have:=hk1 h3;simp(disch:=first|omega|(simp only[ak];omega)|simp only[al,Nat.reduceAdd]) only[go_sem,E1,Int.toNat_natCast];refine⟨(t.take (t.length-1),true),⟨⟨by rw[List.length_take];have:=h1.1;omega,λx hx=>h1.2 x (List.mem_of_mem_take hx)⟩,λ_ hn=>?_⟩,rfl⟩;have:=congrArg List.length hn;simp only[List.length_take,List.length_nil]at this;omega
  ·simp(disch:=first|omega|(simp only[ak];omega)|simp only[al,Nat.reduceAdd]) only[go_sem,OT];exact⟨([],false),⟨F2.nil,by simp⟩,rfl⟩
 ·simp(disch:=first|omega|(simp only[ak];omega)|simp only[al,Nat.reduceAdd]) only[go_sem,OT];exact⟨([],false),⟨F2.nil,by simp⟩,rfl⟩
def SQ:List DV->Bool
 |[.sc (.string s)]=>decide (s.size<=200)
 |_=>false
theorem NH{e:List DV}(h:SQ e=true):∃s:ByteArray,e=[.sc (.string s)]/\s.size<=200:=by
 unfold SQ at h;split at h
 ·exact⟨_,rfl,of_decide_eq_true h⟩
 ·cases h
theorem Nm:∃es:List (List DV),(es.length<=100/\es.all SQ=true)/\aW Try.prog 50 [] [(false,[.sl 9 1 es],true)]:=by
 refine iF Try.func50 nS rfl (by kernel_rfl) ?_;simp only[fQ];simp(disch:=first|omega|(simp only[ak];omega)|simp only[al,Nat.reduceAdd]) only[go_sem,true_and];exact⟨_,⟨by decide,by decide⟩,rfl⟩
def PI:List DV->ByteArray
 |[.sc (.string s)]=>s
 |_=>⟨#[]⟩
theorem B1:∀{es:List (List DV)},es.all SQ=true->(es.map PI).map dc=es/\∀x∈es.map PI,x.size<=200
 |[],_=>⟨rfl,by simp⟩
 |e::es,h=>by
  rw[List.all_cons,Bool.and_eq_true]at h;obtain⟨s,rfl,hs⟩:=NH h.1;obtain⟨h1,h2⟩:=B1 h.2;refine⟨by rw[List.map_cons,List.map_cons,h1];rfl,λx hx=>?_⟩;rw[List.map_cons]at hx;rcases List.mem_cons.1 hx with rfl|hx
  ·exact hs
  ·exact h2 x hx
theorem Lj:∃L:List ByteArray,(L.length<=100/\∀x∈L,x.size<=200)/\aW Try.prog 50 [] [(false,[.sl 9 1 (L.map dc)],true)]:=by
 obtain⟨es,⟨h1,h2⟩,h3⟩:=Nm;obtain⟨g1,g2⟩:=B1 h2;exact⟨es.map PI,⟨by simpa using h1,g2⟩,by rw[g1];exact h3⟩
set_option maxHeartbeats 4000000 in
theorem OI(l:List Int)(hl:l.length<=1048576)(c:Cu)(hc:0<=c.i)(s:ByteArray)(hs:s.size<=200):∃a:ByteArray×Cu,(a.1.size<=60000/\0<=a.2.i)/\cr Try.prog 51 45 (bw l) c.cs [(false,[.sc (.string s)])] [(false,[.sc (.string a.1)],true)] a.2.cs:=by
 refine fB Try.func51 tf rfl (by intro a;simp) (by kernel_rfl) ?_;simp only[ll];simp(disch:=first|omega|(simp only[ak];omega)|simp only[al,Nat.reduceAdd]) only[go_sem,true_and];refine lp (λa:Nat×ByteArray×Cu=>[.sc (.int .i64 (a.1:Nat)),.sc (.string a.2.1),ky 45 (bw l) a.2.2.cs]) (λa=>a.1<=s.size/\a.2.1.size<=300*a.1/\0<=a.2.2.i) (λa=>s.size-a.1) (0,⟨#[]⟩,c) rfl ⟨Nat.zero_le _,Nat.zero_le _,hc⟩ ?_;rintro⟨i,out,c1⟩ ⟨g1,g2,g3⟩;simp only at g1 g2 g3 ⊢;simp only[jS];simp(disch:=first|omega|(simp only[ak];omega)|simp only[al,Nat.reduceAdd]) only[go_sem,true_and];refine ap (λh0=>?_) (λh0=>?_)
 ·simp(disch:=first|omega|(simp only[ak];omega)|simp only[al,Nat.reduceAdd]) only[go_sem,true_and];refine am ?_;simp(disch:=first|omega|(simp only[ak];omega)|simp only[al,Nat.reduceAdd]) only[go_sem,true_and];refine ap (λh1=>?_) (λh1=>?_)
  ·obtain⟨⟨x,c2⟩,⟨z1,h2⟩,hcb⟩:=DP l hl 1 (by decide) c1 g3;simp only at z1 h2 hcb;have z1:x.size<=240:=z1;simp(disch:=first|omega|(simp only[ak];omega)|simp only[al,Nat.reduceAdd]) only[go_sem,true_and];refine aR hcb rfl ?_;clear hcb;simp(disch:=first|omega|(simp only[ak];omega)|simp only[al,Nat.reduceAdd]|(simp only[ByteArray.size_append,jp,List.size_toArray,List.length_cons,List.length_nil,Nat.zero_add,Nat.reduceAdd,aX];omega)) only[go_sem,bD,eN];exact⟨(i+1,out++x,c2),rfl,⟨by simp only;omega,by simp only[ByteArray.size_append];omega,h2⟩,by simp only;omega⟩
  ·have z2:=v6 s i (i+1);have z3:(s.extract i (i+1)).size<=1:=by rw[ByteArray.size_extract];omega
   simp(disch:=first|omega|(simp only[ak];omega)|simp only[al,Nat.reduceAdd]|(simp only[ByteArray.size_append,jp,List.size_toArray,List.length_cons,List.length_nil,Nat.zero_add,Nat.reduceAdd,aX];omega)) only[go_sem,bD,eN,Int.toNat_natCast];exact⟨(i+1,out++s.extract i (i+1),c1),rfl,⟨by simp only;omega,by simp only[ByteArray.size_append];omega,g3⟩,by simp only;omega⟩
 ·simp(disch:=first|omega|(simp only[ak];omega)|simp only[al,Nat.reduceAdd]) only[go_sem,true_and];exact⟨(out,c1),⟨by simp only;omega,g3⟩,_,_,rfl,rfl⟩
set_option maxHeartbeats 8000000 in
theorem Rp(l:List Int)(hl:l.length<=1048576)(c:Cu)(hc:0<=c.i):∃a:ByteArray×Cu,(a.1.size<=600/\0<=a.2.i)/\cr Try.prog 35 45 (bw l) c.cs [(false,[.sc (.int .i64 6)])] [(false,[.sc (.string a.1)],true)] a.2.cs:=by
 obtain⟨L,⟨e1,e2⟩,hsn⟩:=Lj;refine fB Try.func35 qI rfl (by intro a;simp) (by kernel_rfl) ?_;simp only[jd];simp(disch:=first|omega|(simp only[ak];omega)|simp only[al,Nat.reduceAdd]) only[go_sem,true_and];refine aj hsn rfl ?_;simp(disch:=first|omega|(simp only[ak];omega)|simp only[al,Nat.reduceAdd]) only[go_sem,true_and];obtain⟨i0,c1,hi0,h1,hcb⟩:=gc l c 12 (by first|assumption|omega) (by omega) (by omega) (by omega);refine aR hcb rfl ?_;clear hcb;simp(disch:=first|omega|(simp only[ak];omega)|simp only[al,Nat.reduceAdd]) only[go_sem,true_and];obtain⟨n0,c2,hn0,h2,hcb⟩:=gc l c1 6 (by first|assumption|omega) (by omega) (by omega) (by omega);refine aR hcb rfl ?_;clear hcb;simp(disch:=first|omega|(simp only[ak];omega)|simp only[al,Nat.reduceAdd]) only[go_sem,true_and];refine lp (λa:Int×Int×ByteArray×Cu=>[.sc (.int .i64 a.1),.sc (.int .i64 a.2.1),.sc (.string a.2.2.1),ky 45 (bw l) a.2.2.2.cs]) (λa=>0<=a.1/\a.1<=6/\0<=a.2.1/\a.2.1+24*a.1<=160/\a.2.2.1.size<=600/\0<=a.2.2.2.i) (λa=>a.1.toNat) (1+n0,i0,⟨#[]⟩,c2) rfl ⟨by simp only;omega,by simp only;omega,hi0.1,by simp only;omega,Nat.zero_le _,h2⟩ ?_;rintro⟨n,i,s,c3⟩ ⟨g1,g2,g3,g4,g5,g6⟩;simp only at g1 g2 g3 g4 g5 g6 ⊢;simp only[gk];simp(disch:=first|omega|(simp only[ak];omega)|simp only[al,Nat.reduceAdd]) only[go_sem,true_and];refine ap (λh3=>?_) (λh3=>?_)
 ·simp(disch:=first|omega|(simp only[ak];omega)|simp only[al,Nat.reduceAdd]) only[go_sem,true_and];refine ap (λh4=>?_) (λh4=>?_)
  ·simp(disch:=first|omega|(simp only[ak];omega)|simp only[al,Nat.reduceAdd]) only[go_sem,true_and];refine am ?_;have hx:=BE (t:=9) (l:=L) (kd:=.i64) (z:=i) g3 (by omega);have hxs:=e2 _ (bK (l:=L) (i:=i.toNat) (by omega));simp(disch:=first|omega|(simp only[ak];omega)|simp only[al,Nat.reduceAdd]) only[go_sem,hx];generalize L.getD i.toNat default=x0 at *;obtain⟨⟨x,c4⟩,⟨z1,z2⟩,hcb⟩:=OI l hl c3 g6 x0 hxs;simp only at z1 z2 hcb;refine aR hcb rfl ?_;clear hcb;simp(disch:=first|omega|(simp only[ak];omega)|simp only[al,Nat.reduceAdd]) only[go_sem,true_and];refine ap (λh5=>?_) (λh5=>?_)
   ·simp(disch:=first|omega|(simp only[ak];omega)|simp only[al,Nat.reduceAdd]|(simp only[ByteArray.size_append,jp,List.size_toArray,List.length_cons,List.length_nil,Nat.zero_add,Nat.reduceAdd,aX];omega)) only[go_sem,bD,true_and];obtain⟨k1,c5,hk1,h5',hcb⟩:=gc l c4 5 (by first|assumption|omega) (by omega) (by omega) (by omega);refine aR hcb rfl ?_;clear hcb;simp(disch:=first|omega|(simp only[ak];omega)|simp only[al,Nat.reduceAdd]) only[go_sem,true_and];obtain⟨b,c6,h6,hcb⟩:=FA l c5 4 (by first|assumption|omega) (by omega) (by omega);refine aR hcb rfl ?_;clear hcb;simp(disch:=first|omega|(simp only[ak];omega)|simp only[al,Nat.reduceAdd]) only[go_sem,true_and];cases b;rotate_left
    ·simp(disch:=first|omega|(simp only[ak];omega)|simp only[al,Nat.reduceAdd]) only[go_sem,true_and];obtain⟨k2,c7,hk2,h7,hcb⟩:=gc l c6 20 (by first|assumption|omega) (by omega) (by omega) (by omega);refine aR hcb rfl ?_;clear hcb;simp(disch:=first|omega|(simp only[ak];omega)|simp only[al,Nat.reduceAdd]) only[go_sem,true_and];simp(disch:=first|omega|(simp only[ak];omega)|simp only[al,Nat.reduceAdd]) only[go_sem,cw];exact⟨(n-1,i+1+k1+k2,s++x++⟨#[10]⟩,c7),rfl,⟨by simp only;omega,by simp only;omega,by simp only;omega,by simp only;omega,by simp only[ByteArray.size_append,jp,List.size_toArray,List.length_cons,List.length_nil];omega,h7⟩,by simp only;omega⟩
    ·simp(disch:=first|omega|(simp only[ak];omega)|simp only[al,Nat.reduceAdd]) only[go_sem,cw];exact⟨(n-1,i+1+k1,s++x++⟨#[10]⟩,c6),rfl,⟨by simp only;omega,by simp only;omega,by simp only;omega,by simp only;omega,by simp only[ByteArray.size_append,jp,List.size_toArray,List.length_cons,List.length_nil];omega,h6⟩,by simp only;omega⟩
   ·simp(disch:=first|omega|(simp only[ak];omega)|simp only[al,Nat.reduceAdd]|(simp only[ByteArray.size_append,jp,List.size_toArray,List.length_cons,List.length_nil,Nat.zero_add,Nat.reduceAdd,aX];omega)) only[go_sem,bD,true_and];obtain⟨k1,c5,hk1,h5',hcb⟩:=gc l c4 5 (by first|assumption|omega) (by omega) (by omega) (by omega);refine aR hcb rfl ?_;clear hcb;simp(disch:=first|omega|(simp only[ak];omega)|simp only[al,Nat.reduceAdd]) only[go_sem,true_and];obtain⟨b,c6,h6,hcb⟩:=FA l c5 4 (by first|assumption|omega) (by omega) (by omega);refine aR hcb rfl ?_;clear hcb;simp(disch:=first|omega|(simp only[ak];omega)|simp only[al,Nat.reduceAdd]) only[go_sem,true_and];cases b;rotate_left
    ·simp(disch:=first|omega|(simp only[ak];omega)|simp only[al,Nat.reduceAdd]) only[go_sem,true_and];obtain⟨k2,c7,hk2,h7,hcb⟩:=gc l c6 20 (by first|assumption|omega) (by omega) (by omega) (by omega);refine aR hcb rfl ?_;clear hcb;simp(disch:=first|omega|(simp only[ak];omega)|simp only[al,Nat.reduceAdd]) only[go_sem,true_and];simp(disch:=first|omega|(simp only[ak];omega)|simp only[al,Nat.reduceAdd]) only[go_sem,cw];exact⟨(n-1,i+1+k1+k2,s,c7),rfl,⟨by simp only;omega,by simp only;omega,by simp only;omega,by simp only;omega,g5,h7⟩,by simp only;omega⟩
    ·simp(disch:=first|omega|(simp only[ak];omega)|simp only[al,Nat.reduceAdd]) only[go_sem,cw];exact⟨(n-1,i+1+k1,s,c6),rfl,⟨by simp only;omega,by simp only;omega,by simp only;omega,by simp only;omega,g5,h6⟩,by simp only;omega⟩
  ·simp(disch:=first|omega|(simp only[ak];omega)|simp only[al,Nat.reduceAdd]) only[go_sem,true_and];exact⟨(s,c3),⟨g5,g6⟩,_,_,rfl,rfl⟩
 ·simp(disch:=first|omega|(simp only[ak];omega)|simp only[al,Nat.reduceAdd]) only[go_sem,true_and];exact⟨(s,c3),⟨g5,g6⟩,_,_,rfl,rfl⟩
theorem RW(l:List Int)(hl:l.length<=1048576)(c:Cu)(hc:0<=c.i):∃a:ByteArray×Cu,0<=a.2.i/\cr Try.prog 28 45 (bw l) c.cs [] [(false,[.sc (.string a.1)],true)] a.2.cs:=by
 refine fB Try.func28 uN rfl (by intro a;simp) (by kernel_rfl) ?_;simp only[mI];simp(disch:=first|omega|(simp only[ak];omega)|simp only[al,Nat.reduceAdd]) only[go_sem,true_and];obtain⟨⟨s,c1⟩,⟨z1,h1⟩,hcb⟩:=Rp l hl c hc;simp only at z1 h1 hcb;refine aR hcb rfl ?_;clear hcb;simp(disch:=first|omega|(simp only[ak];omega)|simp only[al,Nat.reduceAdd]) only[go_sem,true_and];obtain⟨k,c2,hk,h2,hcb⟩:=gc l c1 8 (by first|assumption|omega) (by omega) (by omega) (by omega);refine aR hcb rfl ?_;clear hcb;simp(disch:=first|omega|(simp only[ak];omega)|simp only[al,Nat.reduceAdd]) only[go_sem,true_and];refine ap (λh3=>?_) (λh3=>?_)
 ·simp(disch:=first|omega|(simp only[ak];omega)|simp only[al,Nat.reduceAdd]) only[go_sem,true_and];obtain⟨⟨s2,c3⟩,⟨z2,h3⟩,hcb⟩:=FJ l c2 s (by omega) h2 hl;simp only at z2 h3 hcb;refine aR hcb rfl ?_;simp(disch:=first|omega|(simp only[ak];omega)|simp only[al,Nat.reduceAdd]) only[go_sem,true_and];exact⟨(s2,c3),h3,_,_,rfl,rfl⟩
 simp(disch:=first|omega|(simp only[ak];omega)|simp only[al,Nat.reduceAdd]) only[go_sem,true_and];refine ap (λh3=>?_) (λh3=>?_)
 ·simp(disch:=first|omega|(simp only[ak];omega)|simp only[al,Nat.reduceAdd]) only[go_sem,true_and];obtain⟨⟨s2,c3⟩,⟨z2,h3⟩,hcb⟩:=DP l hl 4 (by decide) c2 h2;simp only at z2 h3 hcb;refine aR hcb rfl ?_;simp(disch:=first|omega|(simp only[ak];omega)|simp only[al,Nat.reduceAdd]) only[go_sem,true_and];exact⟨(s2,c3),h3,_,_,rfl,rfl⟩
 ·simp(disch:=first|omega|(simp only[ak];omega)|simp only[al,Nat.reduceAdd]) only[go_sem,true_and];exact⟨(s,c2),h2,_,_,rfl,rfl⟩
theorem J8(l:List Int)(hl:l.length<=1048576)(c:Cu)(hc:0<=c.i):∃a:List bj×Cu,((F2 a.1/\a.1≠[])/\0<=a.2.i)/\cr Try.prog 14 45 (bw l) c.cs [] [(false,[ae a.1],true)] a.2.cs:=by
 refine fB Try.func14 s8 rfl (by intro a;simp) (by kernel_rfl) ?_;simp only[kO];simp(disch:=first|omega|(simp only[ak];omega)|simp only[al,Nat.reduceAdd]) only[go_sem,true_and];obtain⟨⟨s,c1⟩,h1,hcb⟩:=RW l hl c hc;simp only at h1 hcb;refine aR hcb rfl ?_;clear hcb;simp(disch:=first|omega|(simp only[ak];omega)|simp only[al,Nat.reduceAdd]) only[go_sem,true_and];obtain⟨b,c2,h2,hcb⟩:=FA l c1 3 (by first|assumption|omega) (by omega) (by omega);refine aR hcb rfl ?_;clear hcb;simp(disch:=first|omega|(simp only[ak];omega)|simp only[al,Nat.reduceAdd]) only[go_sem,true_and];refine jn (λvs=>∃c3:Cu,0<=c3.i/\vs=[ky 45 (bw l) c3.cs]) ?_ ?_
 ·cases b
  ·simp(disch:=first|omega|(simp only[ak];omega)|simp only[al,Nat.reduceAdd]) only[go_sem,true_and];exact⟨c2,h2,rfl⟩
  ·simp(disch:=first|omega|(simp only[ak];omega)|simp only[al,Nat.reduceAdd]) only[go_sem,true_and];obtain⟨⟨x,c3⟩,⟨z2,h3⟩,hcb⟩:=DP l hl 3 (by decide) c2 h2;simp only at z2 h3 hcb;refine aR hcb rfl ?_;clear hcb;simp(disch:=first|omega|(simp only[ak];omega)|simp only[al,Nat.reduceAdd]) only[go_sem,true_and];obtain⟨⟨u,is⟩,⟨r1,r2⟩,hp⟩:=Oa x;simp only at r1 r2 hp;simp only[ae]at hp ⊢;refine aj hp rfl ?_;cases is
   ·simp(disch:=first|omega|(simp only[ak];omega)|simp only[al,Nat.reduceAdd]) only[go_sem,true_and];exact⟨c3,h3,rfl⟩
   ·simp(disch:=first|omega|(simp only[ak];omega)|simp only[al,Nat.reduceAdd]) only[go_sem,true_and];exact⟨(u,c3),⟨⟨r1,r2 rfl⟩,h3⟩,_,_,rfl,rfl⟩
 rintro vs - ⟨c3,h3,rfl⟩;simp only[jB];obtain⟨⟨t,k,z⟩,⟨r1,r2⟩,hp⟩:=Fl s;simp only at r1 r2 hp;simp only[ae]at hp ⊢;simp(disch:=first|omega|(simp only[ak];omega)|simp only[al,Nat.reduceAdd]) only[go_sem,true_and];refine aj hp rfl ?_;simp(disch:=first|omega|(simp only[ak];omega)|simp only[al,Nat.reduceAdd]) only[go_sem,true_and];refine ap (λh4=>?_) (λh4=>?_)
 ·simp(disch:=first|omega|(simp only[ak];omega)|simp only[al,Nat.reduceAdd]) only[go_sem,true_and];exact⟨(t,c3),⟨⟨r1,(r2 h4).1⟩,h3⟩,_,_,rfl,rfl⟩
 ·simp(disch:=first|omega|(simp only[ak];omega)|simp only[al,Nat.reduceAdd]) only[go_sem,true_and];exact⟨([⟨7,0,⟨#[120]⟩,[],0⟩],c3),⟨⟨⟨by simp,λx hx=>by rw[List.mem_singleton.1 hx];exact(NS.mk' (n:=0) (by simp) (by simp) (by simp) (by first|assumption|omega|decide) (by simp) (by simp))⟩,by simp⟩,h3⟩,_,_,rfl,rfl⟩
def DQ(t:List bj):Prop:=t.length<=200/\∀x∈t,x.text.size<=1000/\x.labels.length<=3001/\∀y∈x.labels,y.size<=1000
theorem F2.bd{t:List bj}(h:F2 t):DQ t:=⟨h.1,λx hx=>by obtain⟨-,-,-,h1,h2,h3⟩:=h.2 x hx;exact⟨h1,by omega,h3⟩⟩
theorem DQ.take{t:List bj}(h:DQ t)(n:Nat):DQ (t.take n):=⟨by rw[List.length_take];have:=h.1;omega,λx hx=>h.2 x (List.mem_of_mem_take hx)⟩
theorem DQ.set{t:List bj}(h:DQ t)(i:Nat){x:bj}(hx:x.text.size<=1000/\x.labels.length<=3001/\∀y∈x.labels,y.size<=1000):DQ (t.set i x):=
 ⟨by rw[List.length_set];exact h.1,λy hy=>(List.mem_or_eq_of_mem_set hy).elim (h.2 y) λe=>by rw[e];exact hx⟩
theorem Tb(l:List ByteArray):(l.map dc).flatten.all ka=true:=by
 induction l with
 |nil=>rfl
 |cons y ys ih=>rw[List.map_cons,List.flatten_cons,List.all_append,ih,Bool.and_true];rfl
def Un:List Int:=[0,1,3,-1,9223372036854775807]
def Uo:List Int:=[-1,36,1,0,9,15]
def Uv:List Int:=[-1,3,1,9223372036854775807]
def T9:List ByteArray:=[⟨#[]⟩,⟨#[120]⟩,⟨#[43]⟩,⟨#[97,32,98]⟩]
theorem SB:∀x∈T9,x.size<=20:=by decide
theorem OS{t:List bj}{i off:Nat}{x:bj}{v:DV}(ho:off<5)(h:i<t.length)(hx:plug off [v] (aB (t.getD i default))=aB x):Bg 5 off (some (.sl 37 5 (t.map aB))) (some (.sc (.int .i64 (i:Int)))) (some [v])=some [.sl 37 5 ((t.set i x).map aB)]:=by
 rw[M4 (e:=aB (t.getD i default)) (by omega) (by simp;omega) (by rw[Int.toNat_natCast,List.getElem?_map,List.getElem?_eq_getElem h,List.getD_eq_getElem?_getD,List.getElem?_eq_getElem h];rfl),Int.toNat_natCast,hx,List.map_set]
set_option maxHeartbeats 8000000 in
theorem QT(l:List Int)(hl:l.length<=1048576)(c:Cu)(hc:0<=c.i):∃a:List bj×Cu,(DQ a.1/\0<=a.2.i)/\cr Try.prog 12 45 (bw l) c.cs [] [(false,[ae a.1],true)] a.2.cs:=by
 refine fB Try.func12 vu rfl (by intro a;simp) (by kernel_rfl) ?_;simp only[mh];simp(disch:=first|omega|(simp only[ak];omega)|simp only[al,Nat.reduceAdd]) only[go_sem,true_and];obtain⟨⟨t,c1⟩,⟨⟨r1,r2⟩,h1⟩,hcb⟩:=J8 l hl c hc;simp only at r1 r2 h1 hcb;simp only[ae]at hcb ⊢;refine aR hcb rfl ?_;clear hcb;simp(disch:=first|omega|(simp only[ak];omega)|simp only[al,Nat.reduceAdd]) only[go_sem,true_and];obtain⟨b,c2,h2,hcb⟩:=FA l c1 5 (by first|assumption|omega) (by omega) (by omega);refine aR hcb rfl ?_;clear hcb;simp(disch:=first|omega|(simp only[ak];omega)|simp only[al,Nat.reduceAdd]) only[go_sem,true_and];have hpos:=List.length_pos_iff.2 r2;have hlen:=r1.1;have hbd:=r1.bd;cases b
 ·simp(disch:=first|omega|(simp only[ak];omega)|simp only[al,Nat.reduceAdd]) only[go_sem,true_and];exact⟨(t,c2),⟨hbd,h2⟩,_,_,rfl,rfl⟩
 simp(disch:=first|omega|(simp only[ak];omega)|simp only[al,Nat.reduceAdd]) only[go_sem,true_and];obtain⟨i,c3,hi,h3,hcb⟩:=gc l c2 t.length (by first|assumption|omega) (by omega) (by omega) (by omega);refine aR hcb rfl ?_;clear hcb;simp(disch:=first|omega|(simp only[ak];omega)|simp only[al,Nat.reduceAdd]) only[go_sem,true_and];obtain⟨k,c4,hk,h4,hcb⟩:=gc l c3 6 (by first|assumption|omega) (by omega) (by omega) (by omega);refine aR hcb rfl ?_;clear hcb;simp(disch:=first|omega|(simp only[ak];omega)|simp only[al,Nat.reduceAdd]) only[go_sem,true_and];obtain⟨i,rfl⟩:=Int.eq_ofNat_of_zero_le hi.1;have hix:=cG (t:=37) (l:=t) (kd:=.i64) (z:=(i:Int)) (by omega) (by omega);rw[Int.toNat_natCast]at hix;have hbx:=hbd.2 _ (bK (l:=t) (i:=i) (by omega));have hl3:(t.getD i default).labels.length<=3000:=(r1.2 _ (bK (l:=t) (i:=i) (by omega))).2.2.2.2.1;have hst:=λ(off:Nat) (x:bj) (v:DV) (ho:off<5)=>OS (t:=t) (i:=i) (off:=off) (x:=x) (v:=v) ho (by omega)
 generalize t.getD i default=x at *;obtain⟨xk,xn,xs,xl,xc⟩:=x;simp only[aB,bo]at hix hbx hl3;refine jn (λvs=>∃(d:DV) (c':Cu) (t':List bj),(0<=c'.i/\DQ t')/\vs=[d,ky 45 (bw l) c'.cs,.sl 37 5 (t'.map aB)]) ?_ ?_
 ·refine ap (λh0=>?_) (λh0=>?_)
  ·simp(disch:=first|omega|(simp only[ak];omega)|simp only[al,Nat.reduceAdd]) only[go_sem,true_and];obtain⟨v,c5,hv,h5,hcb⟩:=IS 3 l c4 Un h4 hl (by decide) (by decide);refine aR hcb rfl ?_;clear hcb;have hs:=hst 4 ⟨xk,xn,xs,xl,v⟩ (.sc (.int .i64 v)) (by decide) rfl;simp(disch:=first|omega|(simp only[ak];omega)|simp only[al,Nat.reduceAdd]) only[go_sem,hix,hs];exact⟨_,c5,t.set i ⟨xk,xn,xs,xl,v⟩,⟨h5,hbd.set i hbx⟩,rfl⟩
  simp(disch:=first|omega|(simp only[ak];omega)|simp only[al,Nat.reduceAdd]) only[go_sem,true_and];refine ap (λh0=>?_) (λh0=>?_)
  ·simp(disch:=first|omega|(simp only[ak];omega)|simp only[al,Nat.reduceAdd]) only[go_sem,true_and];obtain⟨v,c5,hv,h5,hcb⟩:=IS 3 l c4 Uo h4 hl (by decide) (by decide);refine aR hcb rfl ?_;clear hcb;have hs:=hst 0 ⟨v,xn,xs,xl,xc⟩ (.sc (.int .i64 v)) (by decide) rfl;simp(disch:=first|omega|(simp only[ak];omega)|simp only[al,Nat.reduceAdd]) only[go_sem,hix,hs];exact⟨_,c5,t.set i ⟨v,xn,xs,xl,xc⟩,⟨h5,hbd.set i hbx⟩,rfl⟩
  simp(disch:=first|omega|(simp only[ak];omega)|simp only[al,Nat.reduceAdd]) only[go_sem,true_and];refine ap (λh0=>?_) (λh0=>?_)
  ·simp(disch:=first|omega|(simp only[ak];omega)|simp only[al,Nat.reduceAdd]) only[go_sem,true_and];obtain⟨v,c5,hv,h5,hcb⟩:=uk 9 l c4 T9 h4 hl (by decide) (by decide);have hv:=SB v hv;refine aR hcb rfl ?_;clear hcb;have hs:=hst 2 ⟨xk,xn,v,xl,xc⟩ (.sc (.string v)) (by decide) rfl;simp(disch:=first|omega|(simp only[ak];omega)|simp only[al,Nat.reduceAdd]) only[go_sem,hix,hs];exact⟨_,c5,t.set i ⟨xk,xn,v,xl,xc⟩,⟨h5,hbd.set i ⟨by simp only;omega,hbx.2⟩⟩,rfl⟩
  simp(disch:=first|omega|(simp only[ak];omega)|simp only[al,Nat.reduceAdd]) only[go_sem,true_and];refine ap (λh0=>?_) (λh0=>?_)
  ·simp(disch:=first|omega|(simp only[ak];omega)|simp only[al,Nat.reduceAdd]) only[go_sem,true_and];obtain⟨v,c5,hv,h5,hcb⟩:=IS 3 l c4 Uv h4 hl (by decide) (by decide);refine aR hcb rfl ?_;clear hcb;have hs:=hst 1 ⟨xk,v,xs,xl,xc⟩ (.sc (.int .i64 v)) (by decide) rfl;simp(disch:=first|omega|(simp only[ak];omega)|simp only[al,Nat.reduceAdd]) only[go_sem,hix,hs];exact⟨_,c5,t.set i ⟨xk,v,xs,xl,xc⟩,⟨h5,hbd.set i hbx⟩,rfl⟩
  simp(disch:=first|omega|(simp only[ak];omega)|simp only[al,Nat.reduceAdd]) only[go_sem,true_and];refine ap (λh0=>?_) (λh0=>?_)
  ·have hs:=hst 3 ⟨xk,xn,xs,xl++[⟨#[120]⟩],xc⟩ (.sl 9 1 ((xl++[(⟨#[120]⟩:ByteArray)]).map dc)) (by decide) rfl;have hL:Hj 9 1 (some (.sl 9 1 (xl.map dc)))=some []:=Qm (Tb xl);simp(disch:=first|omega|(simp only[ak];omega)|simp only[al,Nat.reduceAdd]) only[go_sem,hix,hs,hL];refine⟨_,c4,t.set i ⟨xk,xn,xs,xl++[⟨#[120]⟩],xc⟩,⟨h4,hbd.set i ⟨hbx.1,by rw[List.length_append];exact Nat.succ_le_succ hl3,λy hy=>(List.mem_append.1 hy).elim (hbx.2.2 y) λe=>?_⟩⟩,rfl⟩;rw[List.mem_singleton.1 e];decide
  ·have hE:vz 37 5 0 (some (.sl 37 5 (t.map aB))) (some (.sl 37 5 []))=some [.sl 37 5 (t.map aB)]:=by
    rw[ul (by simp;omega) (by omega),List.append_nil]
   simp(disch:=first|omega|(simp only[ak];omega)|simp only[al,Nat.reduceAdd]) only[go_sem,hE,Int.toNat_natCast];exact⟨(t.take i,c4),⟨hbd.take i,h4⟩,_,_,rfl,rfl⟩
 rintro vs - ⟨d,c5,t',⟨h5,b5⟩,rfl⟩;simp only[kR];simp(disch:=first|omega|(simp only[ak];omega)|simp only[al,Nat.reduceAdd]) only[go_sem,true_and];exact⟨(t',c5),⟨b5,h5⟩,_,_,rfl,rfl⟩
theorem EK{α:Type}[Inhabited α]{a b:List α}{i:Nat}(ha:i<a.length)(hb:i<b.length)(h:a.take i=b.take i)(he:a.getD i default=b.getD i default):a.take (i+1)=b.take (i+1):=by
 rw[List.getD_eq_getElem?_getD,List.getD_eq_getElem?_getD,List.getElem?_eq_getElem ha,List.getElem?_eq_getElem hb]at he;rw[List.take_succ_eq_append_getElem ha,List.take_succ_eq_append_getElem hb,h];exact congrArg _ (congrArg (λx=>[x]) he)
theorem Rh(t t2:Nat)(a b:List ByteArray)(hl:a.length<=1048576):aW Try.prog 22 [(false,[.sl t 1 (a.map dc)]),(false,[.sl t2 1 (b.map dc)])] [(false,[.sc (.bool (decide (a=b)))],true)]:=by
 refine ax Try.func22 qx rfl ?_;simp only[jf];simp(disch:=first|omega|(simp only[ak];omega)|simp only[al,Nat.reduceAdd]) only[go_sem,true_and];refine ap (λhbr=>?_) (λhbr=>?_);rotate_left
 ·simp(disch:=first|omega|(simp only[ak];omega)|simp only[al,Nat.reduceAdd]) only[go_sem,true_and];exact aU (decide_eq_false (λh=>hbr (by rw[h])))
 simp(disch:=first|omega|(simp only[ak];omega)|simp only[al,Nat.reduceAdd]) only[go_sem,true_and];refine lp (λi:Nat=>[.sc (.int .i64 i)]) (λi=>i<=a.length/\a.take i=b.take i) (λi=>a.length-i) 0 rfl ⟨Nat.zero_le _,rfl⟩ ?_;rintro i ⟨h1,h2⟩;simp only[gA];simp(disch:=first|omega|(simp only[ak];omega)|simp only[al,Nat.reduceAdd]) only[go_sem,true_and];refine ap (λhlt=>?_) (λhlt=>?_)
 ·simp(disch:=first|omega|(simp only[ak];omega)|simp only[al,Nat.reduceAdd]) only[go_sem,BE,Int.toNat_natCast];refine ap (λhb2=>?_) (λhb2=>?_);rotate_left
  ·simp(disch:=first|omega|(simp only[ak];omega)|simp only[al,Nat.reduceAdd]) only[go_sem,true_and];exact aU (decide_eq_false (λh=>hb2 (by rw[h])))
  ·simp(disch:=first|omega|(simp only[ak];omega)|simp only[al,Nat.reduceAdd]) only[go_sem,true_and];exact⟨i+1,rfl,⟨by omega,EK (by omega) (by omega) h2 (by simpa using hb2)⟩,by omega⟩
 ·simp(disch:=first|omega|(simp only[ak];omega)|simp only[al,Nat.reduceAdd]) only[go_sem,true_and];obtain rfl:i=a.length:=by omega
  rw[List.take_length,List.take_of_length_le (by omega)]at h2;exact aU (decide_eq_true h2)
theorem Ij(a b:List bj)(hl:a.length<=1048576)(hx:∀x∈a,x.labels.length<=1048576):aW Try.prog 8 [(false,[ae a]),(false,[ae b])] [(false,[.sc (.bool (decide (a=b)))],true)]:=by
 refine ax Try.func8 oJ rfl ?_;simp only[gj];simp only[ae];simp(disch:=first|omega|(simp only[ak];omega)|simp only[al,Nat.reduceAdd]) only[go_sem,true_and];refine ap (λhbr=>?_) (λhbr=>?_);rotate_left
 ·simp(disch:=first|omega|(simp only[ak];omega)|simp only[al,Nat.reduceAdd]) only[go_sem,true_and];exact aU (decide_eq_false (λh=>hbr (by rw[h])))
 simp(disch:=first|omega|(simp only[ak];omega)|simp only[al,Nat.reduceAdd]) only[go_sem,true_and];refine lp (λi:Nat=>[.sc (.int .i64 i)]) (λi=>i<=a.length/\a.take i=b.take i) (λi=>a.length-i) 0 rfl ⟨Nat.zero_le _,rfl⟩ ?_;rintro i ⟨h1,h2⟩;simp only[fZ];simp(disch:=first|omega|(simp only[ak];omega)|simp only[al,Nat.reduceAdd]) only[go_sem,true_and];refine ap (λhlt=>?_) (λhlt=>?_)
 ·have ia:=cG (t:=37) (l:=a) (kd:=.i64) (z:=(i:Int)) (by omega) (by omega);have ib:=cG (t:=37) (l:=b) (kd:=.i64) (z:=(i:Int)) (by omega) (by omega);rw[Int.toNat_natCast]at ia ib;have hL:=hx _ (bK (l:=a) (i:=i) (by omega));have hup:=EK (a:=a) (b:=b) (i:=i) (by omega) (by omega) h2;have hne:a.getD i default≠b.getD i default->a≠b:=λh e=>h (by rw[e])
  generalize a.getD i default=x at *;generalize b.getD i default=y at *;obtain⟨k,n,s,L,c⟩:=x;obtain⟨k',n',s',L',c'⟩:=y;simp only[aB,bo]at ia ib hL;have h4:=Rh 9 9 L L' hL
  repeat' (first|(with_reducible first|refine am ?_|refine aj (by assumption) rfl ?_|refine ap (λhbr=>?_) λhbr=>?_)|simp(disch:=first|omega|(simp only[ak];omega)|simp only[al,Nat.reduceAdd]) only[go_sem,ia,ib,fS])
  all_goals first
   |exact⟨i+1,rfl,⟨by omega,hup (by simp_all)⟩,by omega⟩
   |exact aU (decide_eq_false (hne (λh=>by injection h with e1 e2 e3 e4 e5;contradiction)))
 ·simp(disch:=first|omega|(simp only[ak];omega)|simp only[al,Nat.reduceAdd]) only[go_sem,true_and];obtain rfl:i=a.length:=by omega
  rw[List.take_length,List.take_of_length_le (by omega)]at h2;exact aU (decide_eq_true h2)
theorem LK(l:List Int)(hl:l.length<=1048576):∃a:List bj×Int×List bj,(DQ a.1/\(-1<=a.2.1/\a.2.1<=300)/\DQ a.2.2)/\aW Try.prog 5 [(false,[bw l])] [(false,[ae a.1],true),(false,[.sc (.int .i64 a.2.1)],true),(false,[ae a.2.2],true)]:=by
 refine iF Try.func5 gU rfl (by kernel_rfl) ?_;simp only[dK];simp(disch:=first|omega|(simp only[ak];omega)|simp only[al,Nat.reduceAdd]) only[go_sem,true_and];obtain⟨c,hc,hcb⟩:=Qz l hl;refine N2 hcb rfl ?_;clear hcb;simp(disch:=first|omega|(simp only[ak];omega)|simp only[al,Nat.reduceAdd]) only[go_sem,true_and];obtain⟨⟨t,c1⟩,⟨h1,h2⟩,hcb⟩:=QT l hl c hc;simp only at h1 h2 hcb;simp only[ae]at hcb ⊢;refine aR hcb rfl ?_;clear hcb;have hlen:=h1.1;simp(disch:=first|omega|(simp only[ak];omega)|simp only[al,Nat.reduceAdd]) only[go_sem,true_and];obtain⟨k,c2,hk,h3,hcb⟩:=gc l c1 (t.length+2) (by first|assumption|omega) (by omega) (by omega) (by omega);refine aR hcb rfl ?_;clear hcb;simp(disch:=first|omega|(simp only[ak];omega)|simp only[al,Nat.reduceAdd]) only[go_sem,true_and];obtain⟨⟨v,c3⟩,⟨⟨g1,g2⟩,g3⟩,hcb⟩:=J8 l hl c2 h3;simp only at g1 g2 g3 hcb;simp only[ae]at hcb ⊢;refine aR hcb rfl ?_;clear hcb;have hv:=g1.1;have hbv:=g1.bd;have hpos:=List.length_pos_iff.2 g2;simp(disch:=first|omega|(simp only[ak];omega)|simp only[al,Nat.reduceAdd]) only[go_sem,true_and];refine ap (λh5=>?_) (λh5=>?_)
 ·have ia:=cG (t:=37) (l:=v) (kd:=.i64) (z:=((v.length-1:Nat):Int)) (by omega) (by omega);rw[Int.toNat_natCast]at ia;generalize v.getD (v.length-1) default=x at *;obtain⟨xk,xn,xs,xl,xc⟩:=x;simp only[aB,bo]at ia;rw[show((v.length-1:Nat):Int)=(v.length:Int)-1 from by omega]at ia;simp(disch:=first|omega|(simp only[ak];omega)|simp only[al,Nat.reduceAdd]) only[go_sem,ia];refine ap (λh6=>?_) (λh6=>?_)
  ·simp(disch:=first|omega|(simp only[ak];omega)|simp only[al,Nat.reduceAdd]) only[go_sem,true_and];exact⟨(t,k-1,v.take (v.length-1)),⟨h1,by simp only;omega,hbv.take _⟩,rfl⟩
  ·simp(disch:=first|omega|(simp only[ak];omega)|simp only[al,Nat.reduceAdd]) only[go_sem,true_and];exact⟨(t,k-1,v),⟨h1,by simp only;omega,hbv⟩,rfl⟩
 ·simp(disch:=first|omega|(simp only[ak];omega)|simp only[al,Nat.reduceAdd]) only[go_sem,true_and];exact⟨(t,k-1,v),⟨h1,by simp only;omega,hbv⟩,rfl⟩
def qt:List aY:=[]
def qk:List (Nat×Nat×Bool×List Nat):=[]
def cD:UP:=.f<|.cl 15 [(false,[2])] aP<|.n 0<|.ite 0 (.t<|.t<|.t<|.f<|.po (.e 37 5)<|.c 1<|.ret [(false,[0]),(false,[1])])<|.i 0<|.b .lss 4 0<|.ite 0 (.t<|.t<|.f<|.po (.e 37 5)<|.c 1<|.ret [(false,[0]),(false,[1])])<|.l 6<|.b .geq 6 0<|.ite 0 (.t<|.f<|.po (.e 37 5)<|.c 1<|.ret [(false,[0]),(false,[1])])<|.z 7<|.x 5 8 7<|.i 1<|.e 5 0<|.ite 0 (.f<|.po (.e 37 5)<|.c 1<|.ret [(false,[0]),(false,[1])])<|.sel [14,15]<|.cl 17 [(false,[1]),(false,[0])] [(false,[some (37,5)],false)]<|.cl 16 [(false,[0])] qY<|.t<|.c 0<|.ret [(false,[1]),(false,[0])]
theorem dv:bk Try.prog 6 Try.f6 di qt qk=some ([(false,1),(false,1)],cD):=by kernel_rfl
def uh:List aY:=[]
def tj:List (Nat×Nat×Bool×List Nat):=[]
def lG:UP:=.cl 23 [(false,[1]),(false,[0])] aP<|.i 1<|.a 2 0<|.po (.cutL 5 4 (some 2) (some 0))<|.r 0
theorem tH:DM Try.prog 17 Try.f17 di uh tj=some ([(false,1),(false,1)],lG):=by kernel_rfl
def pp:List aY:=[]
def qB:List (Nat×Nat×Bool×List Nat):=[]
def cF:UP:=.f<|.cl 18 [(false,[2])] aP<|.n 0<|.ite 0 (.t<|.t<|.po (.mk 37 5 [])<|.f<|.c 0<|.ret [(false,[1]),(false,[0])])<|.l 4<|.i 1<|.b .sub 1 0<|.i 0<|.sel [0,1,7,8]<|.cl 19 [(false,[2]),(false,[0]),(false,[1])] aP<|.n 0<|.ite 0 (.t<|.po (.mk 37 5 [])<|.f<|.c 0<|.ret [(false,[1]),(false,[0])])<|.z 4<|.x 5 5 4<|.i 1<|.e 5 0<|.ite 0 (.po (.mk 37 5 [])<|.f<|.c 0<|.ret [(false,[1]),(false,[0])])<|.sel [11,12]<|.cl 21 [(false,[1]),(false,[0])] aP<|.i 1<|.a 2 0<|.po (.cutL 5 4 (some 2) (some 0))<|.sel [0]<|.cl 20 [(false,[0])] qY<|.t<|.c 0<|.ret [(false,[1]),(false,[0])]
theorem dg:bk Try.prog 7 Try.f7 di pp qB=some ([(false,1),(false,1)],cF):=by kernel_rfl
def lH:List aY:=[]
def lk:List (Nat×Nat×Bool×List Nat):=[]
def bA:UP:=.f<|.cl 15 [(false,[3])] aP<|.n 0<|.ite 0 (.t<|.t<|.t<|.f<|.po (.e 37 5)<|.c 1<|.ret [(false,[0]),(false,[1])])<|.cl 15 [(false,[3])] aP<|.n 0<|.ite 0 (.t<|.t<|.f<|.po (.e 37 5)<|.c 1<|.ret [(false,[0]),(false,[1])])<|.i 0<|.b .lss 7 0<|.ite 0 (.t<|.f<|.po (.e 37 5)<|.c 1<|.ret [(false,[0]),(false,[1])])<|.l 9<|.b .geq 9 0<|.ite 0 (.f<|.po (.e 37 5)<|.c 1<|.ret [(false,[0]),(false,[1])])<|.sel [9,10,11]<|.cl 23 [(false,[2]),(false,[1])] aP<|.po (.cutL 5 3 none (some 0))<|.cl 16 [(false,[0])] qY<|.cl 16 [(false,[3])] qY<|.po (.app 37 5 64 1 0)<|.i 1<|.a 7 0<|.po (.cutL 5 9 (some 0) none)<|.sel [0,3]<|.cl 16 [(false,[0])] qY<|.po (.app 37 5 64 2 0)<|.cl 15 [(false,[0])] aP<|.n 0<|.ite 0 (.f<|.po (.e 37 5)<|.c 1<|.ret [(false,[0]),(false,[1])])<|.t<|.c 0<|.ret [(false,[3]),(false,[0])]
theorem bL:bk Try.prog 9 Try.f9 di lH lk=some ([(false,1),(false,1),(false,1)],bA):=by kernel_rfl
def k9:List aY:=[]
def lB:List (Nat×Nat×Bool×List Nat):=[]
def bB:UP:=.f<|.cl 18 [(false,[3])] aP<|.n 0<|.ite 0 (.t<|.t<|.po (.mk 37 5 [])<|.f<|.c 0<|.ret [(false,[1]),(false,[0])])<|.cl 18 [(false,[3])] aP<|.n 0<|.ite 0 (.t<|.po (.mk 37 5 [])<|.f<|.c 0<|.ret [(false,[1]),(false,[0])])<|.l 7<|.i 1<|.b .sub 1 0<|.i 0<|.sel [0,1,9,10,11]<|.cl 19 [(false,[3]),(false,[0]),(false,[1])] aP<|.n 0<|.ite 0 (.po (.mk 37 5 [])<|.f<|.c 0<|.ret [(false,[1]),(false,[0])])<|.sel [4,5,6]<|.cl 21 [(false,[2]),(false,[1])] aP<|.po (.cutL 5 3 none (some 0))<|.cl 20 [(false,[0])] qY<|.cl 20 [(false,[3])] qY<|.po (.app 37 5 64 1 0)<|.i 1<|.a 7 0<|.po (.cutL 5 9 (some 0) none)<|.sel [0,3]<|.cl 20 [(false,[0])] qY<|.po (.app 37 5 64 2 0)<|.cl 18 [(false,[0])] aP<|.n 0<|.ite 0 (.po (.mk 37 5 [])<|.f<|.c 0<|.ret [(false,[1]),(false,[0])])<|.t<|.c 0<|.ret [(false,[3]),(false,[0])]
theorem bJ:bk Try.prog 10 Try.f10 di k9 lB=some ([(false,1),(false,1),(false,1)],bB):=by kernel_rfl
def vw(t:List bj):Prop:=t.length<=1048576/\∀x∈t,x.text.size<=1048576/\x.labels.length<=1048576/\∀y∈x.labels,y.size<=1048576
theorem vw.take{t:List bj}(h:vw t)(n:Nat):vw (t.take n):=⟨by rw[List.length_take];have:=h.1;omega,λx hx=>h.2 x (List.mem_of_mem_take hx)⟩
theorem vw.drop{t:List bj}(h:vw t)(n:Nat):vw (t.drop n):=⟨by rw[List.length_drop];have:=h.1;omega,λx hx=>h.2 x (List.mem_of_mem_drop hx)⟩
theorem vw.app{t u:List bj}(h:vw t)(k:vw u)(hl:t.length+u.length<=1048576):vw (t++u):=⟨by rw[List.length_append];omega,λx hx=>(List.mem_append.1 hx).elim (h.2 x) (k.2 x)⟩
def fj(t:List bj)(i:Nat)(u:List bj):List bj:=t.take (aL t i)++u++t.drop (i+1)
def l9(t:List bj)(i:Int)(u:List bj):List bj×Bool:=
 if bc t=true/\bc u=true/\0<=i/\i<t.length then(if bc (fj t i.toNat u)=true then(fj t i.toNat u,true)else([],false))else([],false)
theorem EY{t u:List bj}{i:Int}(h:¬(bc t=true/\bc u=true/\0<=i/\i<t.length)):l9 t i u=([],false):=by unfold l9;rw[if_neg h]
set_option maxHeartbeats 2000000 in
theorem yA(t u:List bj)(i:Int)(ht:vw t)(hu:vw u):aW Try.prog 9 [(false,[ae t]),(false,[.sc (.int .i64 i)]),(false,[ae u])] [(false,[ae (l9 t i u).1],true),(false,[.sc (.bool (l9 t i u).2)],true)]:=by
 have h1:=lR t ht.1 ht.2;have h2:=lR u hu.1 hu.2;by_cases hc:bc t=true/\bc u=true/\0<=i/\i<t.length
 ·obtain⟨c1,c2,c3,c4⟩:=hc;have hT:=cO c1;have hU:=cO c2;obtain⟨i,rfl⟩:=Int.eq_ofNat_of_zero_le c3;have hi:i<t.length:=by omega
  have h3:=ur t c1 i hi;have hs:=cg t i;have h4:=lL (t.take (aL t i)) (ht.take _).1 λx hx=>((ht.take _).2 x hx).2.1
  have h5:=lL u hu.1 λx hx=>(hu.2 x hx).2.1
  have h6:=lL (t.drop (i+1)) (ht.drop _).1 λx hx=>((ht.drop _).2 x hx).2.1
  have hl1:(t.take (aL t i)).length<=200:=by rw[List.length_take];omega
  have hl2:(t.drop (i+1)).length<=200:=by rw[List.length_drop];omega
  have hP:vw (fj t i u):=((ht.take _).app hu (by omega)).app (ht.drop _) (by rw[List.length_append];omega);have h7:=lR (fj t i u) hP.1 hP.2;have hr:l9 t i u=if bc (fj t i u)=true then(fj t i u,true)else([],false):=by unfold l9;rw[if_pos ⟨c1,c2,c3,c4⟩];rfl
  rw[hr];rw[c1]at h1;rw[c2]at h2;have e1:((i:Int)+1).toNat=i+1:=by omega
  have hla:(t.take (aL t i)++u).length<=400:=by rw[List.length_append];omega
  unfold fj at h7 ⊢;cases hb:bc (t.take (aL t i)++u++t.drop (i+1))
  ·rw[hb]at h7;refine ax Try.func9 bL rfl ?_;simp only[bA];simp only[ae]at h1 h2 h3 h4 h5 h6 h7 ⊢
   repeat' (first|(with_reducible first|refine am ?_|refine aj (by assumption) rfl ?_|refine ap (λhbr=>?_) λhbr=>?_)|simp(disch:=first|omega|(simp only[ak];omega)|simp only[al,Nat.reduceAdd]) only[go_sem,Cg,Bk,e1,Int.toNat_natCast,we])
   all_goals first|omega|rfl
  ·rw[hb]at h7;refine ax Try.func9 bL rfl ?_;simp only[bA];simp only[ae]at h1 h2 h3 h4 h5 h6 h7 ⊢
   repeat' (first|(with_reducible first|refine am ?_|refine aj (by assumption) rfl ?_|refine ap (λhbr=>?_) λhbr=>?_)|simp(disch:=first|omega|(simp only[ak];omega)|simp only[al,Nat.reduceAdd]) only[go_sem,Cg,Bk,e1,Int.toNat_natCast,we])
   all_goals first|omega|rfl
 ·rw[EY hc];cases c1:bc t
  ·rw[c1]at h1;refine ax Try.func9 bL rfl ?_;simp only[bA];simp only[ae]at h1 h2 ⊢
   repeat' (first|(with_reducible first|refine am ?_|refine aj (by assumption) rfl ?_|refine ap (λhbr=>?_) λhbr=>?_)|simp(disch:=first|omega|(simp only[ak];omega)|simp only[al,Nat.reduceAdd]) only[go_sem,true_and])
   all_goals first|omega|rfl
  ·cases c2:bc u
   ·rw[c1]at h1;rw[c2]at h2;refine ax Try.func9 bL rfl ?_;simp only[bA];simp only[ae]at h1 h2 ⊢
    repeat' (first|(with_reducible first|refine am ?_|refine aj (by assumption) rfl ?_|refine ap (λhbr=>?_) λhbr=>?_)|simp(disch:=first|omega|(simp only[ak];omega)|simp only[al,Nat.reduceAdd]) only[go_sem,true_and])
    all_goals first|omega|rfl
   ·have hi:i<0\/(t.length:Int)<=i:=by
     rcases Int.lt_or_le i 0 with h|h
     ·exact .inl h
     ·exact .inr (by rcases Int.lt_or_le i t.length with h'|h';exact absurd ⟨c1,c2,h,h'⟩ hc;exact h')
    rw[c1]at h1;rw[c2]at h2;refine ax Try.func9 bL rfl ?_;simp only[bA];simp only[ae]at h1 h2 ⊢;simp(disch:=first|omega|(simp only[ak];omega)|simp only[al,Nat.reduceAdd]) only[go_sem,true_and];refine aj h1 rfl ?_;simp(disch:=first|omega|(simp only[ak];omega)|simp only[al,Nat.reduceAdd]) only[go_sem,true_and];refine aj h2 rfl ?_;simp(disch:=first|omega|(simp only[ak];omega)|simp only[al,Nat.reduceAdd]) only[go_sem,true_and];refine bI (λhbr=>?_) (λhbr=>?_)
    ·repeat' (first|(with_reducible first|refine am ?_|refine aj (by assumption) rfl ?_|refine ap (λhbr=>?_) λhbr=>?_)|simp(disch:=first|omega|(simp only[ak];omega)|simp only[al,Nat.reduceAdd]) only[go_sem,true_and])
     rfl
    ·simp(disch:=first|omega|(simp only[ak];omega)|simp only[al,Nat.reduceAdd]) only[go_sem,true_and];refine bI (λhbr=>?_) (λhbr=>?_)
     ·repeat' (first|(with_reducible first|refine am ?_|refine aj (by assumption) rfl ?_|refine ap (λhbr=>?_) λhbr=>?_)|simp(disch:=first|omega|(simp only[ak];omega)|simp only[al,Nat.reduceAdd]) only[go_sem,true_and])
      rfl
     ·exfalso;omega
set_option maxHeartbeats 2000000 in
theorem GE(t u:List bj)(i:Int)(ht:vw t)(hu:vw u):aW Try.prog 10 [(false,[ae t]),(false,[.sc (.int .i64 i)]),(false,[ae u])] [(false,[ae (l9 t i u).1],true),(false,[.sc (.bool (l9 t i u).2)],true)]:=by
 have h1:=lX t ht.1 ht.2;have h2:=lX u hu.1 hu.2;have h0:=kf i 0 ((t.length:Int)-1);by_cases hc:bc t=true/\bc u=true/\0<=i/\i<t.length
 ·obtain⟨c1,c2,c3,c4⟩:=hc;have hT:=cO c1;have hU:=cO c2;rw[decide_eq_true (p:=0<=i/\i<=(t.length:Int)-1) (by omega)]at h0;obtain⟨i,rfl⟩:=Int.eq_ofNat_of_zero_le c3;have hi:i<t.length:=by omega
  have h3:=uv t c1 i hi;have hs:=cg t i;have h4:=il (t.take (aL t i)) (ht.take _).1 λx hx=>((ht.take _).2 x hx).2.1
  have h5:=il u hu.1 λx hx=>(hu.2 x hx).2.1
  have h6:=il (t.drop (i+1)) (ht.drop _).1 λx hx=>((ht.drop _).2 x hx).2.1
  have hl1:(t.take (aL t i)).length<=200:=by rw[List.length_take];omega
  have hl2:(t.drop (i+1)).length<=200:=by rw[List.length_drop];omega
  have hP:vw (fj t i u):=((ht.take _).app hu (by omega)).app (ht.drop _) (by rw[List.length_append];omega);have h7:=lX (fj t i u) hP.1 hP.2;have hr:l9 t i u=if bc (fj t i u)=true then(fj t i u,true)else([],false):=by unfold l9;rw[if_pos ⟨c1,c2,c3,c4⟩];rfl
  rw[hr];rw[c1]at h1;rw[c2]at h2;have e1:((i:Int)+1).toNat=i+1:=by omega
  have hla:(t.take (aL t i)++u).length<=400:=by rw[List.length_append];omega
  unfold fj at h7 ⊢;cases hb:bc (t.take (aL t i)++u++t.drop (i+1))
  ·rw[hb]at h7;refine ax Try.func10 bJ rfl ?_;simp only[bB];simp only[ae]at h0 h1 h2 h3 h4 h5 h6 h7 ⊢
   repeat' (first|(with_reducible first|refine am ?_|refine aj (by assumption) rfl ?_|refine ap (λhbr=>?_) λhbr=>?_)|simp(disch:=first|omega|(simp only[ak];omega)|simp only[al,Nat.reduceAdd]) only[go_sem,Cg,Bk,e1,Int.toNat_natCast,we])
   all_goals first|omega|rfl
  ·rw[hb]at h7;refine ax Try.func10 bJ rfl ?_;simp only[bB];simp only[ae]at h0 h1 h2 h3 h4 h5 h6 h7 ⊢
   repeat' (first|(with_reducible first|refine am ?_|refine aj (by assumption) rfl ?_|refine ap (λhbr=>?_) λhbr=>?_)|simp(disch:=first|omega|(simp only[ak];omega)|simp only[al,Nat.reduceAdd]) only[go_sem,Cg,Bk,e1,Int.toNat_natCast,we])
   all_goals first|omega|rfl
 ·rw[EY hc];cases c1:bc t
  ·rw[c1]at h1;refine ax Try.func10 bJ rfl ?_;simp only[bB];simp only[ae]at h1 h2 ⊢
   repeat' (first|(with_reducible first|refine am ?_|refine aj (by assumption) rfl ?_|refine ap (λhbr=>?_) λhbr=>?_)|simp(disch:=first|omega|(simp only[ak];omega)|simp only[al,Nat.reduceAdd]) only[go_sem,true_and])
   all_goals first|omega|rfl
  ·have hT:=cO c1;cases c2:bc u
   ·rw[c1]at h1;rw[c2]at h2;refine ax Try.func10 bJ rfl ?_;simp only[bB];simp only[ae]at h1 h2 ⊢
    repeat' (first|(with_reducible first|refine am ?_|refine aj (by assumption) rfl ?_|refine ap (λhbr=>?_) λhbr=>?_)|simp(disch:=first|omega|(simp only[ak];omega)|simp only[al,Nat.reduceAdd]) only[go_sem,true_and])
    all_goals first|omega|rfl
   ·rw[decide_eq_false (p:=0<=i/\i<=(t.length:Int)-1) (λh=>hc ⟨c1,c2,by omega,by omega⟩)]at h0;rw[c1]at h1;rw[c2]at h2;refine ax Try.func10 bJ rfl ?_;simp only[bB];simp only[ae]at h0 h1 h2 ⊢
    repeat' (first|(with_reducible first|refine am ?_|refine aj (by assumption) rfl ?_|refine ap (λhbr=>?_) λhbr=>?_)|simp(disch:=first|omega|(simp only[ak];omega)|simp only[al,Nat.reduceAdd]) only[go_sem,true_and])
    all_goals first|omega|rfl
theorem FS(t:List bj)(h:bc t=true)(i:Nat)(hi:i<t.length):aW Try.prog 17 [(false,[ae t]),(false,[.sc (.int .i64 i)])] [(false,[ae (kJ t i)],false)]:=by
 have h1:=ur t h i hi;have hs:=cg t i;have hl:=cO h;have e1:((i:Int)+1).toNat=i+1:=by omega
 refine Dj Try.func17 tH rfl ?_;simp only[lG];unfold kJ;simp only[ae]at h1 ⊢
 repeat' (first|(with_reducible first|refine am ?_|refine aj (by assumption) rfl ?_|refine ap (λhbr=>?_) λhbr=>?_)|simp(disch:=first|omega|(simp only[ak];omega)|simp only[al,Nat.reduceAdd]) only[go_sem,OH,e1,Int.toNat_natCast])
 rfl
def fH(t:List bj)(i:Int):List bj×Bool:=if bc t=true/\0<=i/\i<t.length/\(t.getD i.toNat default).kind≠1 then(kJ t i.toNat,true)else([],false)
theorem vS{t:List bj}{i:Int}(h:¬(bc t=true/\0<=i/\i<t.length/\(t.getD i.toNat default).kind≠1)):fH t i=([],false):=by unfold fH;rw[if_neg h]
theorem rK{t:List bj}(h:vw t)(i:Nat):vw (kJ t i):=(h.drop _).take _
set_option maxHeartbeats 2000000 in
theorem Ck(t:List bj)(i:Int)(ht:vw t):aW Try.prog 6 [(false,[ae t]),(false,[.sc (.int .i64 i)])] [(false,[ae (fH t i).1],true),(false,[.sc (.bool (fH t i).2)],true)]:=by
 have h1:=lR t ht.1 ht.2;by_cases hc:bc t=true/\0<=i/\i<t.length
 ·obtain⟨c1,c3,c4⟩:=hc;have hT:=cO c1;obtain⟨i,rfl⟩:=Int.eq_ofNat_of_zero_le c3;have hi:i<t.length:=by omega
  have h3:=FS t c1 i hi;have h4:=lL (kJ t i) (rK ht i).1 λx hx=>((rK ht i).2 x hx).2.1
  rw[c1]at h1;have hix:rk 5 (some (.sl 37 5 (t.map aB))) (some (.sc (.int .i64 (i:Int))))=some (aB (t.getD i default)):=by rw[cG (by omega) (by omega),Int.toNat_natCast]
  by_cases c5:(t.getD i default).kind=1
  ·rw[vS (by rw[Int.toNat_natCast];exact λh=>h.2.2.2 c5)];refine ax Try.func6 dv rfl ?_;simp only[cD];simp only[ae,aB,bo]at h1 h3 h4 hix ⊢
   repeat' (first|(with_reducible first|refine am ?_|refine aj (by assumption) rfl ?_|refine ap (λhbr=>?_) λhbr=>?_)|simp(disch:=first|omega|(simp only[ak];omega)|simp only[al,Nat.reduceAdd]) only[go_sem,hix,c5])
   all_goals first|omega|rfl
  ·have hr:fH t i=(kJ t i,true):=by unfold fH;rw[if_pos ⟨c1,c3,c4,by rw[Int.toNat_natCast];exact c5⟩,Int.toNat_natCast]
   rw[hr];refine ax Try.func6 dv rfl ?_;simp only[cD];simp only[ae,aB,bo]at h1 h3 h4 hix ⊢
   repeat' (first|(with_reducible first|refine am ?_|refine aj (by assumption) rfl ?_|refine ap (λhbr=>?_) λhbr=>?_)|simp(disch:=first|omega|(simp only[ak];omega)|simp only[al,Nat.reduceAdd]) only[go_sem,hix,c5])
   all_goals first|omega|rfl
 ·rw[vS (λh=>hc ⟨h.1,h.2.1,h.2.2.1⟩)];cases c1:bc t
  ·rw[c1]at h1;refine ax Try.func6 dv rfl ?_;simp only[cD];simp only[ae]at h1 ⊢
   repeat' (first|(with_reducible first|refine am ?_|refine aj (by assumption) rfl ?_|refine ap (λhbr=>?_) λhbr=>?_)|simp(disch:=first|omega|(simp only[ak];omega)|simp only[al,Nat.reduceAdd]) only[go_sem,true_and])
   all_goals first|omega|rfl
  ·have hi:i<0\/(t.length:Int)<=i:=by
    rcases Int.lt_or_le i 0 with h|h
    ·exact .inl h
    ·exact .inr (by rcases Int.lt_or_le i t.length with h'|h';exact absurd ⟨c1,h,h'⟩ hc;exact h')
   rw[c1]at h1;refine ax Try.func6 dv rfl ?_;simp only[cD];simp only[ae]at h1 ⊢;simp(disch:=first|omega|(simp only[ak];omega)|simp only[al,Nat.reduceAdd]) only[go_sem,true_and];refine aj h1 rfl ?_;simp(disch:=first|omega|(simp only[ak];omega)|simp only[al,Nat.reduceAdd]) only[go_sem,true_and];refine bI (λhbr=>?_) (λhbr=>?_)
   ·repeat' (first|(with_reducible first|refine am ?_|refine aj (by assumption) rfl ?_|refine ap (λhbr=>?_) λhbr=>?_)|simp(disch:=first|omega|(simp only[ak];omega)|simp only[al,Nat.reduceAdd]) only[go_sem,true_and])
    rfl
   ·simp(disch:=first|omega|(simp only[ak];omega)|simp only[al,Nat.reduceAdd]) only[go_sem,true_and];refine bI (λhbr=>?_) (λhbr=>?_)
    ·repeat' (first|(with_reducible first|refine am ?_|refine aj (by assumption) rfl ?_|refine ap (λhbr=>?_) λhbr=>?_)|simp(disch:=first|omega|(simp only[ak];omega)|simp only[al,Nat.reduceAdd]) only[go_sem,true_and])
     rfl
    ·exfalso;omega
set_option maxHeartbeats 2000000 in
theorem Iy(t:List bj)(i:Int)(ht:vw t):aW Try.prog 7 [(false,[ae t]),(false,[.sc (.int .i64 i)])] [(false,[ae (fH t i).1],true),(false,[.sc (.bool (fH t i).2)],true)]:=by
 have h1:=lX t ht.1 ht.2;have h0:=kf i 0 ((t.length:Int)-1);by_cases hc:bc t=true/\0<=i/\i<t.length
 ·obtain⟨c1,c3,c4⟩:=hc;have hT:=cO c1;rw[decide_eq_true (p:=0<=i/\i<=(t.length:Int)-1) (by omega)]at h0;obtain⟨i,rfl⟩:=Int.eq_ofNat_of_zero_le c3;have hi:i<t.length:=by omega
  have h3:=uv t c1 i hi;have hs:=cg t i;have h4:=il (kJ t i) (rK ht i).1 λx hx=>((rK ht i).2 x hx).2.1
  rw[c1]at h1;have e1:((i:Int)+1).toNat=i+1:=by omega
  have hix:rk 5 (some (.sl 37 5 (t.map aB))) (some (.sc (.int .i64 (i:Int))))=some (aB (t.getD i default)):=by rw[cG (by omega) (by omega),Int.toNat_natCast]
  by_cases c5:(t.getD i default).kind=1
  ·rw[vS (by rw[Int.toNat_natCast];exact λh=>h.2.2.2 c5)];refine ax Try.func7 dg rfl ?_;simp only[cF];simp only[ae,aB,bo]at h0 h1 h3 h4 hix ⊢
   repeat' (first|(with_reducible first|refine am ?_|refine aj (by assumption) rfl ?_|refine ap (λhbr=>?_) λhbr=>?_)|simp(disch:=first|omega|(simp only[ak];omega)|simp only[al,Nat.reduceAdd]) only[go_sem,hix,c5])
   all_goals first|omega|rfl
  ·have hr:fH t i=(kJ t i,true):=by unfold fH;rw[if_pos ⟨c1,c3,c4,by rw[Int.toNat_natCast];exact c5⟩,Int.toNat_natCast]
   rw[hr];unfold kJ at h4 ⊢;refine ax Try.func7 dg rfl ?_;simp only[cF];simp only[ae,aB,bo]at h0 h1 h3 h4 hix ⊢
   repeat' (first|(with_reducible first|refine am ?_|refine aj (by assumption) rfl ?_|refine ap (λhbr=>?_) λhbr=>?_)|simp(disch:=first|omega|(simp only[ak];omega)|simp only[al,Nat.reduceAdd]) only[go_sem,hix,c5,OH,e1,Int.toNat_natCast])
   all_goals first|omega|rfl
 ·rw[vS (λh=>hc ⟨h.1,h.2.1,h.2.2.1⟩)];cases c1:bc t
  ·rw[c1]at h1;refine ax Try.func7 dg rfl ?_;simp only[cF];simp only[ae]at h1 ⊢
   repeat' (first|(with_reducible first|refine am ?_|refine aj (by assumption) rfl ?_|refine ap (λhbr=>?_) λhbr=>?_)|simp(disch:=first|omega|(simp only[ak];omega)|simp only[al,Nat.reduceAdd]) only[go_sem,true_and])
   all_goals first|omega|rfl
  ·have hT:=cO c1;rw[decide_eq_false (p:=0<=i/\i<=(t.length:Int)-1) (λh=>hc ⟨c1,by omega,by omega⟩)]at h0;rw[c1]at h1;refine ax Try.func7 dg rfl ?_;simp only[cF];simp only[ae]at h0 h1 ⊢
   repeat' (first|(with_reducible first|refine am ?_|refine aj (by assumption) rfl ?_|refine ap (λhbr=>?_) λhbr=>?_)|simp(disch:=first|omega|(simp only[ak];omega)|simp only[al,Nat.reduceAdd]) only[go_sem,true_and])
   all_goals first|omega|rfl
theorem KQ(t:List bj)(i:Nat):fj t i (kJ t i)=t:=by
 unfold fj kJ;have h:=cg t i;have e:t.drop (i+1)=(t.drop (aL t i)).drop (i+1-aL t i):=by rw[List.drop_drop];congr 1;omega
 rw[e,List.append_assoc,List.take_append_drop,List.take_append_drop]
theorem IA{t:List bj}(h:bc t=true){c:Nat}:∀{j p:Nat},j<t.length->c<=cH t (j+1)->sA (cH t) c j<p->p<=j+1->c<=cH t p
 |j,p,hj,hc,h1,h2=>by
  rcases Nat.lt_or_ge j p with h3|h3
  ·obtain rfl:p=j+1:=by omega
   exact hc
  ·have hn:=DK (L:=cH t) (c:=c) (j:=j) (p:=j) (by omega) (Nat.le_refl _);obtain⟨k,-,k2,k3,-⟩:=dE h hj
   cases j with
   |zero=>omega
   |succ j=>
    rw[lm hn]at h1;exact IA h (j:=j) (by omega) (by omega) h1 h3
theorem Aj{t:List bj}{i:Nat}(hi:i<t.length):(kJ t i).length=i+1-aL t i:=by
 unfold kJ;rw[List.length_take,List.length_drop];have:=cg t i;omega
theorem zj{t:List bj}{i j:Nat}(hi:i<t.length)(hj:j<i+1-aL t i):(kJ t i).getD j default=t.getD (aL t i+j) default:=by
 unfold kJ;rw[List.getD_eq_getElem?_getD,List.getD_eq_getElem?_getD,List.getElem?_take_of_lt hj,List.getElem?_drop]
theorem FM{s0 s':List Int}{a k m:Nat}(hk:k<=s'.length)(hm:m<k):(s0++s'.map (λx=>(a:Int)+x)).getD ((s0++s'.map (λx=>(a:Int)+x)).length-k+m) default=a+s'.getD (s'.length-k+m) default:=by
 rw[List.length_append,List.length_map,List.getD_eq_getElem?_getD,List.getD_eq_getElem?_getD,List.getElem?_append_right (by omega),List.getElem?_map,show s0.length+s'.length-k+m-s0.length=s'.length-k+m from by omega,List.getElem?_eq_getElem (by omega)];rfl
theorem Mo{p q:Nat->Bool}{n:Nat}(h:∀j,j<n->p j=q j)(hp:cJ p n=true):cJ q n=true:=nC.2 λj hj=>by rw[<-h j hj];exact nC.1 hp j hj
theorem EL{t:List bj}(h:bc t=true){i:Nat}(hi:i<t.length){s0:List Int}(h0:fM t (aL t i)=some s0):∀{j:Nat},j<=i+1-aL t i->∃s':List Int,fM (kJ t i) j=some s'/\fM t (aL t i+j)=some (s0++s'.map (λx=>(aL t i:Int)+x))
 |0,_=>⟨[],rfl,by rw[Nat.add_zero,h0,List.map_nil,List.append_nil]⟩
 |j+1,hj=>by
  obtain⟨s',e1,e2⟩:=EL h hi h0 (j:=j) (by omega);have hsl:=Aj hi;have hg:=zj hi (j:=j) (by omega);have hst:=xI h hi;have hge:=IA h (c:=cH t (i+1)) hi (Nat.le_refl _) (p:=aL t i+j+1) (by show aL t i<_;omega) (by omega);obtain⟨S,hS⟩:=mW h (j:=aL t i+j+1) (by omega);have hinv:=nU e1;have hS2:=hS;have hL:cH t (aL t i+j+1)=S.length:=by unfold cH;rw[hS]
  have hL0:cH t (aL t i)=s0.length:=by unfold cH;rw[h0]
  simp only[fM,e2]at hS2;unfold oX at hS2;split at hS2
  ·cases hS2
  rename_i hb;split at hS2;rotate_left
  ·cases hS2
  rename_i ha;injection hS2 with hS2;unfold vr at hb;simp only[Bool.not_eq_true,Bool.or_eq_false_iff,Bool.not_eq_false',decide_eq_false_iff_not,Bool.and_eq_false_iff]at hb;obtain⟨hb1,hb2,hb3⟩:=hb;rw[<-hg]at hb1 hb2 hb3 ha hS2;generalize hx:(kJ t i).getD j default=x at *;obtain⟨k,hk⟩:=Int.eq_ofNat_of_zero_le (vT hb1);rw[hk,Int.toNat_natCast]at ha hS2;rw[hk]at hb2
  have hkl:k<=s'.length:=by
   have:=congrArg List.length hS2;rw[List.length_append,List.length_take,List.length_append,List.length_map]at this;simp only[List.length_append,List.length_map,List.length_cons,List.length_nil]at this hb2;omega
  refine⟨s'.take (s'.length-k)++[(j:Int)],?_,?_⟩
  ·simp only[fM,e1];unfold oX;rw[hx,hk,Int.toNat_natCast,if_neg,if_pos]
   ·refine Mo (λm hm=>?_) ha;unfold xS EX;rw[hk,Int.toNat_natCast,FM hkl hm];have hm2:s'.getD (s'.length-k+m) default∈s':=bK (by omega);have hm3:=hinv.2 _ hm2;generalize s'.getD (s'.length-k+m) default=e at *;obtain⟨e,rfl⟩:=Int.eq_ofNat_of_zero_le hm3.1;rw[zj hi (j:=((e:Nat):Int).toNat) (by omega),show((aL t i:Int)+((e:Nat):Int)).toNat=aL t i+((e:Nat):Int).toNat from by omega]
   ·unfold vr;rw[hx,hb1,hk,decide_eq_false (by omega)];simp only[Bool.not_true,Bool.false_or,Bool.and_eq_true,decide_eq_true_eq,not_and];intro hz;rcases hb3 with hb3|hb3
    ·exact absurd hz hb3
    ·omega
  ·rw[show aL t i+(j+1)=aL t i+j+1 from rfl,hS,<-hS2,List.map_append,List.map_take,List.length_append,List.length_map,List.take_append,List.take_of_length_le (by omega),<-List.append_assoc];congr 2
   ·congr 2;omega
theorem IL{t:List bj}(h:bc t=true){i:Nat}(hi:i<t.length)(hk:(t.getD i default).kind≠1):bc (kJ t i)=true:=by
 have hT:=cO h;have hsl:=Aj hi;have hsi:=cg t i;obtain⟨s0,h0⟩:=mW h (j:=aL t i) (by omega);obtain⟨s',e1,e2⟩:=EL h hi h0 (Nat.le_refl _);have hst:=xI h hi;have h3:cH t (aL t i+(i+1-aL t i))=(s0++s'.map (λx=>(aL t i:Int)+x)).length:=by unfold cH;rw[e2]
 have hL0:cH t (aL t i)=s0.length:=by unfold cH;rw[h0]
 rw[show aL t i+(i+1-aL t i)=i+1 from by omega,List.length_append,List.length_map]at h3;unfold bc;rw[hsl,e1,zj hi (by omega),show aL t i+(i+1-aL t i-1)=i from by omega,decide_eq_true (by omega)];simp only[Bool.true_and,Bool.and_eq_true,decide_eq_true_eq,Bool.not_eq_true',decide_eq_false_iff_not];exact⟨by omega,hk⟩
theorem vU{t v:List bj}{i:Nat}(hi:i<t.length):(fj t i v).length=aL t i+v.length+(t.length-(i+1)):=by
 unfold fj;have:=cg t i;simp only[List.length_append,List.length_take,List.length_drop];omega
theorem QG{t v:List bj}{i:Nat}(hi:i<t.length){j:Nat}(hj:j<aL t i):(fj t i v).getD j default=t.getD j default:=by
 unfold fj;have:=cg t i;rw[List.getD_eq_getElem?_getD,List.getD_eq_getElem?_getD,List.append_assoc,List.getElem?_append_left (by rw[List.length_take];omega),List.getElem?_take_of_lt hj]
theorem MQ{t v:List bj}{i:Nat}(hi:i<t.length){j:Nat}(hj:j<v.length):(fj t i v).getD (aL t i+j) default=v.getD j default:=by
 unfold fj;have:=cg t i;have hl:(t.take (aL t i)).length=aL t i:=by rw[List.length_take];omega
 rw[List.getD_eq_getElem?_getD,List.getD_eq_getElem?_getD,List.append_assoc,List.getElem?_append_right (by omega),hl,Nat.add_sub_cancel_left,List.getElem?_append_left hj]
theorem HF{t v:List bj}{i:Nat}(h:bc t=true)(hy:bc (fj t i v)=true)(hi:i<t.length):∀{j:Nat},j<=aL t i->cH (fj t i v) j=cH t j
 |0,_=>rfl
 |j+1,hj=>by
  have hsi:=cg t i;have hpl:=vU (v:=v) hi;have ih:=HF h hy hi (j:=j) (by omega);obtain⟨k,a1,a2,a3,-⟩:=dE h (j:=j) (by omega);obtain⟨k',b1,b2,b3,-⟩:=dE hy (j:=j) (by omega);rw[QG hi (by omega),a1]at b1;omega
theorem I0{t v:List bj}{i:Nat}(h:bc t=true)(hv:bc v=true)(hy:bc (fj t i v)=true)(hi:i<t.length):∀{j:Nat},j<=v.length->cH (fj t i v) (aL t i+j)=cH t (aL t i)+cH v j
 |0,_=>by rw[Nat.add_zero,xB,HF h hy hi (Nat.le_refl _)];rfl
 |j+1,hj=>by
  have hsi:=cg t i;have hpl:=vU (v:=v) hi;have ih:=I0 h hv hy hi (j:=j) (by omega);obtain⟨k,a1,a2,a3,-⟩:=dE hv (j:=j) (by omega);obtain⟨k',b1,b2,b3,-⟩:=dE hy (j:=aL t i+j) (by omega);rw[MQ hi (by omega),a1]at b1;rw[show aL t i+(j+1)=aL t i+j+1 from rfl];omega
theorem BN{v:List bj}(hv:bc v=true):cH v v.length=1/\(v.getD (v.length-1) default).kind≠1:=by
 obtain⟨s,hs⟩:=mW hv (Nat.le_refl _);unfold bc at hv;rw[hs]at hv;simp only[Bool.and_eq_true,decide_eq_true_eq,Bool.not_eq_true',decide_eq_false_iff_not]at hv;exact⟨by unfold cH;rw[hs];exact hv.2.1,hv.2.2⟩
theorem HY{L:Nat->Nat}{c a:Nat}(h1:L a+1=c):∀{j:Nat},a<=j->(∀p,a<p->p<=j->L p+1≠c)->sA L c j=a
 |j,h2,h3=>by
  by_cases he:a=j
  ·subst he;exact se h1
  ·rw[lm (h3 j (by omega) (Nat.le_refl _))]
   cases j with
   |zero=>omega
   |succ j=>exact HY h1 (j:=j) (by omega) λp a b=>h3 p a (by omega)
theorem Lb{t v:List bj}{i:Nat}(h:bc t=true)(hv:bc v=true)(hy:bc (fj t i v)=true)(hi:i<t.length):kJ (fj t i v) (aL t i+(v.length-1))=v:=by
 have hsi:=cg t i;have hpl:=vU (v:=v) hi;have hV:=cO hv;obtain⟨e1,-⟩:=BN hv;have hb:=λj hj=>I0 h hv hy hi (j:=j) hj
 have h0:=hb 0 (by omega);have h9:=hb v.length (Nat.le_refl _);rw[xB,Nat.add_zero,Nat.add_zero]at h0
 have hs:aL (fj t i v) (aL t i+(v.length-1))=aL t i:=by
  show sA _ _ _=_;rw[show aL t i+(v.length-1)+1=aL t i+v.length from by omega,h9,e1];refine HY (by rw[h0]) (by omega) λp p1 p2=>?_
  have h5:=hb (p-aL t i) (by omega);rw[show aL t i+(p-aL t i)=p from by omega]at h5;have h6:=xb hv (j:=p-aL t i-1) (by omega);rw[show p-aL t i-1+1=p-aL t i from by omega]at h6;omega
 unfold kJ;rw[hs,show aL t i+(v.length-1)+1-aL t i=v.length from by omega];unfold fj;rw[List.append_assoc,List.drop_append_of_le_length (by rw[List.length_take];omega),List.drop_eq_nil_of_le (by rw[List.length_take];omega),List.nil_append,List.take_left]
theorem CI{t:List bj}{i:Int}{x:List bj}(h:fH t i=(x,true)):l9 t i x=(t,true):=by
 unfold fH at h;split at h;rotate_left
 ·cases h
 rename_i hc;obtain⟨c1,c2,c3,c4⟩:=hc;injection h with h _;subst h;obtain⟨i,rfl⟩:=Int.eq_ofNat_of_zero_le c2;rw[Int.toNat_natCast]at c4 ⊢;have hi:i<t.length:=by omega
 unfold l9;rw[if_pos ⟨c1,IL c1 hi c4,c2,c3⟩,Int.toNat_natCast,KQ,if_pos c1]
theorem I4{t v y:List bj}{i:Int}{x:List bj}(h:fH t i=(x,true))(hr:l9 t i v=(y,true)):fH y (i-x.length+v.length)=(v,true):=by
 unfold fH at h;split at h;rotate_left
 ·cases h
 rename_i hc;obtain⟨c1,c2,c3,c4⟩:=hc;injection h with h _;subst h;obtain⟨i,rfl⟩:=Int.eq_ofNat_of_zero_le c2;rw[Int.toNat_natCast]at c4 ⊢;have hi:i<t.length:=by omega
 unfold l9 at hr;split at hr;rotate_left
 ·cases hr
 rename_i hd;obtain⟨-,d1,-,-⟩:=hd;rw[Int.toNat_natCast]at hr;split at hr;rotate_left
 ·cases hr
 rename_i d2;injection hr with hr _;subst hr;have hsi:=cg t i;have hpl:=vU (v:=v) hi;have hV:=cO d1;rw[Aj hi,show(i:Int)-((i+1-aL t i:Nat):Int)+(v.length:Int)=((aL t i+(v.length-1):Nat):Int)from by omega];unfold fH;rw[Int.toNat_natCast,if_pos ⟨d2,by omega,by omega,by rw[MQ hi (by omega)];exact(BN d1).2⟩,Lb c1 d1 d2 hi]
theorem Ll:Qb (λl=>[bw l]) (λl=>l.length<=9223372036854775807/\∀n∈l,0<=n/\n<256) Try.prog 22:=G0 (e:=IY) 5 Try.underlying22 (by kernel_rfl) (by decide) (λ_=>rfl) (Ps Try.underlying5)
theorem R8(l:List Int)(hl:l.length<=9223372036854775807):aW Try.prog 4 [(false,[bw l])] [(false,[.sc (.bool (decide (1048576<l.length)))],true)]:=by
 refine ax Try.func4 Av rfl ?_;simp only[qU];simp only[bw];simp(disch:=first|omega|(simp only[ak];omega)|simp only[al,Nat.reduceAdd]) only[go_sem,true_and];exact aU (by rw[decide_eq_decide];omega)
theorem DQ.bdN{t:List bj}(h:DQ t):vw t:=⟨by have:=h.1;omega,λx hx=>by obtain⟨h1,h2,h3⟩:=h.2 x hx;exact⟨by omega,by omega,λy hy=>by have:=h3 y hy;omega⟩⟩
theorem Nu{t v:List bj}{i:Int}(ht:DQ t)(hv:DQ v):vw (l9 t i v).1:=by
 have h0:vw ([]:List bj):=⟨by simp,λx hx=>by cases hx⟩;unfold l9;split
 ·split
  ·have h1:=ht.1;have h2:=hv.1;exact(((ht.bdN.take _).app hv.bdN (by rw[List.length_take];omega)).app (ht.bdN.drop _) (by simp only[List.length_append,List.length_take,List.length_drop];omega))
  ·exact h0
 ·exact h0
theorem Da(l:List Int)(hlen:l.length<=9223372036854775807):aW Try.prog 3 [(false,[bw l])] [(false,[.sc (.bool true)],true)]:=by
 have hb:=R8 l hlen;by_cases hbig:1048576<l.length
 ·refine ax Try.func3 dU rfl ?_;simp only[db];simp only[bw]at hb ⊢;rw[decide_eq_true hbig]at hb
  repeat' (first|(with_reducible first|refine am ?_|refine aj (by assumption) rfl ?_|refine ap (λhbr=>?_) λhbr=>?_)|simp(disch:=first|omega|(simp only[ak];omega)|simp only[al,Nat.reduceAdd]) only[go_sem,true_and])
  all_goals first|omega|rfl
 rw[decide_eq_false hbig]at hb;obtain⟨⟨t,i,v⟩,⟨h1,⟨hi1,hi2⟩,h2⟩,hd⟩:=LK l (by omega);simp only at h1 h2 hi1 hi2 hd;have ct:=h1.bdN;have cv:=h2.bdN;have a1:=Ck t i ct;have a2:=Iy t i ct
 have hxl:(fH t i).1.length<=1048576/\vw (fH t i).1:=by
  have:vw (fH t i).1:=by
   unfold fH;split
   ·exact rK ct _
   ·exact⟨by simp,λx hx=>by cases hx⟩
  exact⟨this.1,this⟩
 have a3:=Ij (fH t i).1 (fH t i).1 hxl.1 λx hx=>(hxl.2.2 x hx).2.1
 have a4:=yA t (fH t i).1 i ct hxl.2;have a5:=yA t v i ct cv;have a6:=GE t v i ct cv;have hy:=Nu (i:=i) h1 h2;have hg1:∀x,fH t i=(x,true)->l9 t i x=(t,true):=λx h=>CI h
 have hg2:∀x y,fH t i=(x,true)->l9 t i v=(y,true)->fH y (i-x.length+v.length)=(v,true):=λx y=>I4
 have a7:=Ij t t ct.1 λx hx=>(ct.2 x hx).2.1
 have a8:=Ij v v cv.1 λx hx=>(cv.2 x hx).2.1
 have hvl:=h2.1;have htl:=h1.1;generalize hc:fH t i=C at *;obtain⟨x,told⟩:=C;simp only at a1 a2 a3 a4 hxl;have hr1:=hg1 x;generalize hR:l9 t i v=R at *;obtain⟨y,three⟩:=R;have hr2:=hg2 x y;simp only at a5 a6 hy;have a9:=Ck y (i-x.length+v.length) hy;cases told
 ·refine ax Try.func3 dU rfl ?_;simp only[db];simp only[bw,ae]at hb hd a1 a2 a3 ⊢
  repeat' (first|(with_reducible first|refine am ?_|refine aj (by assumption) rfl ?_|refine ap (λhbr=>?_) λhbr=>?_)|simp(disch:=first|omega|(simp only[ak];omega)|simp only[al,Nat.reduceAdd]) only[go_sem,eq_self])
  all_goals first|omega|rfl|skip
 rw[hr1 rfl]at a4;cases three
 ·refine ax Try.func3 dU rfl ?_;simp only[db];simp only[bw,ae]at hb hd a1 a2 a3 a4 a5 a6 a7 ⊢
  repeat' (first|(with_reducible first|refine am ?_|refine aj (by assumption) rfl ?_|refine ap (λhbr=>?_) λhbr=>?_)|simp(disch:=first|omega|(simp only[ak];omega)|simp only[al,Nat.reduceAdd]) only[go_sem,eq_self,eR])
  all_goals first|omega|rfl|skip
 rw[hr2 rfl rfl]at a9;refine ax Try.func3 dU rfl ?_;simp only[db];simp only[bw,ae]at hb hd a1 a2 a3 a4 a5 a6 a7 a8 a9 ⊢
 repeat' (first|(with_reducible first|refine am ?_|refine aj (by assumption) rfl ?_|refine ap (λhbr=>?_) λhbr=>?_)|simp(disch:=first|omega|(simp only[ak];omega)|simp only[al,Nat.reduceAdd]) only[go_sem,eq_self,eR])
 all_goals first|omega|rfl|skip
end Go.Proofs.Ytngaddcgmnonbaa
namespace Go.Proofs.Ytngaddcgmnonbaa.fnGraft
open Go.ChangeShapes Go.WideShapes Go.ChangeAt Go.RowKit
open Go.ChangeMaps (open_string shut_string)
theorem own:ownKnob Try.prog.godebug=none:=by kernel_rfl
theorem Kl:laidOutB Try.prog=true:=by kernel_rfl
set_option maxRecDepth 100000 in
set_option maxHeartbeats 2000000 in
theorem TR{H:Type}(enc:TypeId×Value->H)(v0:Value)(d0:DataW H)(p0:List MemPlace)(base:Nat)(w:World)
 (ok0:Value.okWide Try.prog w .any base 22 v0) (h0:DataW.Trod enc Try.prog w 0 (λ_=>true) true 22 v0 d0 p0)
 (sz:(DataW.weightsEach Try.prog [22] [d0]).all (·<=reachBytes)=true):
 Calls Try.prog 3 #[v0] w λe w'=>e=.returned (.bool true)/\Below w.heap.size w w':=by
 obtain⟨a0,r0,i0⟩:=KA (base:=base) Ll Try.underlying22 h0 ok0;exact Lh (Da a0 i0.1) (cL.cons r0 cL.nil)
set_option maxRecDepth 100000 in
theorem Pj(os:Os)(started:os.Started)(H:Type)(enc:TypeId×Value->H):
 ReturnsInHanded {} Try.checked os 3 .any (Rows.fnGraftSpec.pre6 enc Try.prog Try.f3 Rows.fnGraftRow.domain false) (Rows.fnGraftSpec.post enc Try.prog Try.f3 false true false false):=by
 refine returnsInHanded_of_change_sized (C:=Try.checked) own started (by kernel_rfl) Try.func3
  (ChangeSpec.witness6 (enc:=enc) (C:=Try.checked) false ⟨#[],#[.slice none 0 0],[]⟩ 8 (by kernel_rfl) (by kernel_rfl) (by kernel_rfl) (by kernel_rfl)) ?_
 intro W base args ds gs before hval0 hW hcnd0 hsz0 hholds;have hval:∀(j:Nat) t v,Try.f3.params[j]? =some t->args[j]? =some v->Value.okWide Try.prog W .any base t v:=hval0
 have hsz:(DataW.weightsEach Try.prog (Try.f3.params.toList++Rows.fnGraftSpec.plain.varTypes Try.prog) (ds++gs)).all (·<=reachBytes)=true:=hsz0
 have hW':=hW;obtain⟨p,q,hA0,hV,rfl,hfz,hnd⟩:=hW;have hA:DataW.TrodAll enc Try.prog W 0 (λ_=>true) true Try.f3.params.toList args.toList ds p:=hA0;rw[Try.params3]at hA hval hsz;obtain⟨v0,vs0,d0,ds0,p0,q0,hargs,rfl,rfl,h0,r0⟩:=trodAll_cons hA;obtain⟨rfl,rfl,rfl⟩:=trodAll_nil r0;obtain rfl:args=#[v0]:=by cases args;simp_all
 obtain⟨rfl,rfl⟩:=trodVars_none hV;have lt0:∀x∈p0,x.block<W.heap.size:=by obtain⟨m,hm⟩:=h0;exact DataW.trod_lt m _ _ _ hm
 refine(TR enc v0 d0 p0 base W (hval 0 22 v0 rfl rfl) h0 hsz).mono λe W' ⟨he,bel⟩=>?_
 subst he;exact⟨_,rfl,_,_,_,[],_,[],hW',trodAll_mk1 (shut_bool Try.underlying4 _),(trodAll_cons_mk (Below.trod Kl (by kernel_rfl) (of_decide_eq_true (by kernel_rfl)) h0 bel lt0) trodAll_mk0),rfl,bel.frame _,λh=>by cases h⟩
theorem Te:Rows.fnGraftRow.holds Try.pinned (OpenSpec.ofChange Rows.fnGraftSpec):=
 OpenClaim.holds_of_wide 3 Try.f3 rfl rfl rfl rfl rfl rfl rfl ⟨rfl,rfl,rfl,rfl,rfl⟩ rfl rfl rfl rfl rfl (by kernel_rfl) Try.func3 (by kernel_rfl)
  (of_decide_eq_true (by kernel_rfl)) (by unfold Func.isWrapper;first|(rw[if_pos (by decide+kernel)];kernel_rfl)|(rw[if_neg (by decide+kernel)];exact⟨rfl,rfl⟩))
  (λos started H enc _=>Pj os started H enc)
theorem proved:Rows.FnGraftSaid:=Te
end Go.Proofs.Ytngaddcgmnonbaa.fnGraft
