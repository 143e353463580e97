/- Proved: for every input the law 'FnGetPut' returns true and its arguments read behind the call as before: part 6 of its proof. No condition. -/
import Derived.WalkKit
import Derived.Lib.Hide
import Derived.WalkSpells
import Derived.Laws.OwnMore
import Derived.Deep.AppendLies
import Derived.Deep.Draws
import Derived.Maps.AppendAt
import Derived.RegionTactic
import Derived.OwnWalk
import Derived.Below
import Derived.Laws.AppendOwnNone
import Derived.Deep.QuietTactic
import Derived.BigQuiet
import Derived.StillTailTactics
import Derived.Laws.Cells
import Derived.Laws.IdiomCopy
import Derived.ChangeKeysEq
import Derived.Laws.BytesArg
import Derived.Laws.StructEq
import Derived.Laws.Tables
import Derived.Great.BuildSlice
import Derived.StillTail
import Derived.OrdersHeld
import Derived.Test.YtgdbmcoamemmaaaProg
import Derived.Deep.Slices
import Derived.Deep.Fields
import Derived.ChangeSame
import Derived.OpenShut
import Derived.Laws.ResultCell
import Derived.Deep.RegionWith
import Derived.Test.YtgdbmcoamemmaaaRows
import Derived.ProofKit
import Derived.ShutString
import Derived.ChangeOld
import Derived.SizedLaws
import Derived.Test.YtgdbmcoamemmaaaFnGetPutQ5
set_option linter.unusedVariables false
set_option linter.unusedSimpArgs false
namespace Go.Proofs.Ytgdbmcoamemmaaa
open Go.RowKit
set_option maxRecDepth 100000
theorem Sv(k:Int):aI Try.prog 59 [(false,[.sc (.int .i64 k)])] [(false,[.sc (.int .i64 (if k=5 then 4 else k))],true)]:=by
 refine ah Try.func59 s5 rfl ?_;simp only[kg]
 repeat' (first|(with_reducible first|refine ac ?_|refine ab ‹_› rfl ?_|refine ai (λhbr=>?_) λhbr=>?_)|simp(disch:=first|omega|(simp only[aq];omega)|simp only[ap,Nat.reduceAdd]) only[go_sem,true_and])
 ·rw[if_pos ‹_›];rfl
 ·rw[if_neg ‹_›];rfl
def Ah(sk:Int)(N0:List ByteArray)(j:Nat):List ByteArray:=if sk=3\/N0≠[]then N0++List.replicate j ⟨#[]⟩else[]
theorem Nu{sk:Int}{ns:List ByteArray}{n tp:Nat}(hn:ns=[]\/ns.length=n):Ah sk (sN sk ns n) (tp-n)=sN sk (dQ (sN sk ns n) (tp-n)) tp:=by
 rw[Cs hn (by omega)];unfold Ah sN;by_cases h3:sk=3
 ·rw[if_pos h3,if_pos h3,if_pos (.inl h3)];unfold b9;rw[List.append_assoc,List.replicate_append_replicate];congr 2;rcases hn with rfl|h
  ·simp only[List.length_nil];omega
  ·omega
 ·rw[if_neg h3,if_neg h3];unfold dQ;by_cases h0:ns=[]
  ·rw[if_neg (by simp[h3,h0]),if_pos h0]
  ·rw[if_pos (.inr h0),if_neg h0]
theorem NG{sk:Int}{N0:List ByteArray}{j:Nat}:(Ah sk N0 j).length<=N0.length+j:=by unfold Ah;split<;>simp
set_option maxHeartbeats 8000000 in
theorem QJ{k:Int}{its:List It}{ps:List aX}{ns cl lv:List ByteArray}{c e:Int}{k2:Int}{its2:List It}{ps2:List aX}{ns2 cl2 lv2:List ByteArray}{c2 e2:Int}{k':Int}{its':List It}{ps':List aX}{ns' cl' lv':List ByteArray}{c' e':Int}(h:VW k its ps ns cl lv c e)(h5:¬k=5)(hH:VW k' its' ps' ns' cl' lv' c' e'){m:Nat}(hWl:fN (.mk k' its' ps' ns' cl' lv' c' e')=m)(cC:¬m=0)(l:List Int)(cB:¬l=[])(hr1:l.length<=40)(hr2:∀p∈l,0<=p/\p<=80)(hnin:¬(0:Int)∈l)(hsl:k2=3->l.length<=its2.length/\∀x∈its2,x.text.size<=60):
 ∀F,F=Fc (.mk k its ps ns cl lv c e) l (.mk k2 its2 ps2 ns2 cl2 lv2 c2 e2) (.mk k' its' ps' ns' cl' lv' c' e')->aI Try.prog 23 [(true,aj (.mk k its ps ns cl lv c e)),(false,[bC l]),(true,aj (.mk k2 its2 ps2 ns2 cl2 lv2 c2 e2)),(true,aj (.mk k' its' ps' ns' cl' lv' c' e')),(false,[.sc (.int .i64 (ru l))])] [(true,aj F.1,true),(false,[.sc (.string F.2)],true)]:=by
 intro F hF;have hk0:=h.k0;have hk5:=h.k5;have h40:=h.l40;have hnmn:=h.nmn;have hlk:=Sv k';have hk'1:=hH.k1 (by rw[hWl];exact cC);have hk'5:=hH.k5;have hln:fN (.mk k its ps ns cl lv c e)=its.length+ps.length:=by simp only[fN,dX];rw[if_neg h5];omega
 obtain⟨K,hK⟩:∃K,K=min 4 (max k k'):=⟨_,rfl⟩;have hKr:1<=K/\K<=4:=by omega
 have hKm:max k (if k'=5 then 4 else k')=K:=by split<;>omega
 have hv4:=BE hH (m:=K) (by omega) (by omega) (by omega) (λe=>by omega);have q1:=Jk h.toVF (by have:=h.wt;omega) (m:=K) (.inl (by omega)) (by omega) (λe=>absurd e h5);have q2:=Jk hH.toVF (by have:=hH.wt;omega) (m:=K) (by omega) (by omega) (λe=>by omega);obtain⟨xi,xp,ex,hX⟩:=wV h (m:=K) (λe=>absurd e h5) (.inl (by omega)) (by omega);obtain⟨yi,yp,ey,hY⟩:=wV hH (m:=K) (λe=>by omega) (by omega) (by omega);rw[ex]at q1;rw[ey]at q2 hv4;have hYv:=vw hv4;rw[hWl]at hY;rw[hln]at hX
 have hasn:D1 (.mk k its ps ns cl lv c e) l (.mk k2 its2 ps2 ns2 cl2 lv2 c2 e2) (.mk k' its' ps' ns' cl' lv' c' e')=L0 K l (max (its.length+ps.length) (ru l).toNat) (DU ns l (its.length+ps.length) (max (its.length+ps.length) (ru l).toNat) (decide (k2=3)) its2) cl lv (.mk K xi xp ns [] [] 0 0) (.mk K yi yp ns' [] [] 0 0):=by
  unfold D1;rw[show lY (.mk k its ps ns cl lv c e)=k from rfl,show lY (.mk k' its' ps' ns' cl' lv' c' e')=k' from rfl,<-hK,ex,ey];rfl
 unfold Fc at hF;rw[hasn]at hF;have hmn:=HY l;obtain⟨tp,htp⟩:=Int.eq_ofNat_of_zero_le hmn;have hge:=λp hp=>@yD l p hp
 rw[htp]at hF hge ⊢;have c1:=l8 cl (by have:=h.c3;omega);have c2':=l8 lv (by have:=h.l20;omega);by_cases cT:(tp:Int)<=40;rotate_left
 ·rw[if_neg cT]at hF;subst hF;simp only[aj,af,av,bC,fV,MP]at q1 q2 ⊢;refine ah Try.func23 lH rfl ?_;simp only[gk]
  repeat' (first|(with_reducible first|refine ac ?_|refine ab ‹_› rfl ?_|refine ai (λhbr=>?_) λhbr=>?_)|simp(disch:=first|omega|(simp only[aq];omega)|simp only[ap,Nat.reduceAdd]) only[go_sem,hKm])
  all_goals first|omega|rfl|(trace_state;sorry)
 rw[if_pos cT]at hF;have hfin:=@CN k2 ns (its.length+ps.length) tp hnmn its2 l;rw[Int.toNat_natCast,<-hfin]at hF;have hn80:ns.length<=40:=by rcases hnmn with e|e<;>simp[e]<;>omega
 have hnx:(sN k2 ns (its.length+ps.length)).length<=80:=by have:=@l7 k2 ns (its.length+ps.length);omega
 have hXi:=hX.i4;have hXp:=hX.p4;have hXl:=hX.len;have hYl:=hY.len;have hYi:=hY.i4;have hYp:=hY.p4;have hXw:∀p∈xp,ck p<=1000000000:=λp hp=>by have:=hX.wts p hp;omega
 have ecl:cl.length<=3:=h.c3;have elv:lv.length<=20:=h.l20
 have hpr:∀i,i<l.length->1<=l.getD i default/\l.getD i default<=tp:=λi hi=>by
  have hm:=aG hi;have h3:=hge _ hm;have h4:=hr2 _ hm;have h5:l.getD i default≠0:=λe=>hnin (e▸hm)
  omega
 have hwt:=λK1 K2 a1 a2 a3 b1 b2 b3 c1 e1 c2 e2=>@NS K k2 (its.length+ps.length) tp m xi yi xp yp ns cl lv a1 a2 a3 b1 b2 b3 its2 l K1 K2 c1 e1 c2 e2 hX hY cC (by omega) (λx hx=>l6 h.nm hx) hn80 (λx hx=>dN h.lc hx) (by omega) (λx hx=>dN h.lb hx) (by omega) hsl
 have hwt:=hwt K K ns [] [] ns' [] [] 0 0 0 0;have hxlen:K=4->xp.length=its.length+ps.length:=λe=>by rw[hXi e]at hXl;simpa using hXl
 have hxlen2:K≠4->xi.length=its.length+ps.length:=λe=>by rw[hXp e]at hXl;simpa using hXl
 have hylen:K=4->yp.length=m:=λe=>by rw[hYi e]at hYl;simpa using hYl
 have hylen2:K≠4->yi.length=m:=λe=>by rw[hYp e]at hYl;simpa using hYl
 have hyw:=hYv.wk;clear hYv h hH hX hY hv4 hWl ex ey hasn hfin;simp only[L0]at hwt hF;generalize its.length+ps.length=n at*
 have hcl:=AZ K (if K=4 then[]else jT yi l l.length (b9 xi bA (max n tp))) (if K=4 then jT yp l l.length (b9 xp (fV 0 []) (max n tp))else[]) (if k2=3 then nD its2 l n l.length (sN k2 (dQ (sN k2 ns n) (tp-n)) tp)else sN k2 (dQ (sN k2 ns n) (tp-n)) tp) cl lv 0 0 (by
  have l1:=@l7 k2 ns n;have l2:=@ox (sN k2 ns n) (tp-n);have l3:=@l7 k2 (dQ (sN k2 ns n) (tp-n)) tp;split
  ·rw[me];omega
  ·omega)
 have hft:=Kl _ hwt;rw[<-hF]at hft;have hl1:=jM K xi xp ns [] [] 0 0 (uJ (by omega) (by omega) (by omega) (by simp) (by simp) hXw);unfold dX at hl1;rw[if_neg (by omega),show(xi.length:Int)+xp.length=((n:Nat):Int) by omega]at hl1;have hl2:=jM K xi xp ns cl lv 0 0 (uJ (by omega) (by omega) (by omega) (by omega) (by omega) hXw);unfold dX at hl2;rw[if_neg (by omega),show(xi.length:Int)+xp.length=((n:Nat):Int) by omega]at hl2;simp only[aj,af,av,bC,List.map_nil]at q1 q2 c1 c2' hl1 hl2 hcl hft ⊢;refine ah Try.func23 lH rfl ?_;simp only[gk]
 repeat' (first|(with_reducible first|refine ab ‹_› rfl ?_|refine ai (λhbr=>?_) λhbr=>?_)|simp(disch:=first|omega|(simp only[aq];omega)|simp only[ap,Nat.reduceAdd]) only[go_sem,hKm])
 all_goals first|omega|skip
 have hN0:(k2=3/\ns=[]->List.replicate n (⟨#[]⟩:ByteArray)=sN k2 ns n)/\(¬(k2=3/\ns=[])->ns=sN k2 ns n):=⟨λhh=>by unfold sN;rw[if_pos hh.1,hh.2];simp[b9],λhh=>by
  unfold sN;split
  ·rename_i h3;rw[pc];have:=hnmn.resolve_left λh0=>hh ⟨h3,h0⟩
   omega
  ·rfl⟩
 refine jn (λvs=>vs=[.sc (.bool (decide (k2=3/\ns=[])))]) ?_ ?_
 ·have hns0:ns.length=0->ns=[]:=List.eq_nil_of_length_eq_zero;by_cases h3:k2=3
  ·by_cases h0:ns=[]
   ·have:ns.length=0:=by rw[h0];rfl
    rw[decide_eq_true ⟨h3,h0⟩]
    repeat' (first|(with_reducible first|refine ac ?_|refine ab ‹_› rfl ?_|refine ai (λhbr=>?_) λhbr=>?_)|simp(disch:=first|omega|(simp only[aq];omega)|simp only[ap,Nat.reduceAdd]) only[go_sem,true_and])
    all_goals first|omega|rfl|(rw[decide_eq_false (by omega)])|(rw[decide_eq_true (by omega)])|(trace_state;sorry)
   ·have:¬ns.length=0:=λhh=>h0 (hns0 hh)
    rw[decide_eq_false (λhh=>h0 hh.2)]
    repeat' (first|(with_reducible first|refine ac ?_|refine ab ‹_› rfl ?_|refine ai (λhbr=>?_) λhbr=>?_)|simp(disch:=first|omega|(simp only[aq];omega)|simp only[ap,Nat.reduceAdd]) only[go_sem,true_and])
    all_goals first|omega|rfl|(rw[decide_eq_false (by omega)])|(rw[decide_eq_true (by omega)])|(trace_state;sorry)
  ·rw[decide_eq_false (λhh=>h3 hh.1)]
   repeat' (first|(with_reducible first|refine ac ?_|refine ab ‹_› rfl ?_|refine ai (λhbr=>?_) λhbr=>?_)|simp(disch:=first|omega|(simp only[aq];omega)|simp only[ap,Nat.reduceAdd]) only[go_sem,true_and])
   all_goals first|omega|rfl|(trace_state;sorry)
 rintro vs-rfl;simp only[j9];refine jn (λvs=>vs=[.sl 9 1 ((sN k2 ns n).map bQ)]) ?_ ?_
 ·by_cases hc:k2=3/\ns=[]
  ·rw[decide_eq_true hc,<-hN0.1 hc,List.map_replicate];simp(disch:=first|omega|(simp only[aq];omega)|simp only[ap,Nat.reduceAdd]) only[go_sem,true_and]
   first|rfl|(trace_state;sorry)
  ·rw[decide_eq_false hc];simp(disch:=first|omega|(simp only[aq];omega)|simp only[ap,Nat.reduceAdd]) only[go_sem,true_and]
   all_goals first|(rw[<-hN0.2 hc];rfl)|(rw[<-hN0.2 hc])
 rintro vs-rfl;simp only[kF];simp(disch:=first|omega|(simp only[aq];omega)|simp only[ap,Nat.reduceAdd]) only[go_sem,true_and];have hnl0:=@l7 k2 ns n;rw[<-Nu hnmn]at hF hcl hft hwt;have hN0n:k2=3->n<=(sN k2 ns n).length:=λe=>by unfold sN;rw[if_pos e,eR];omega
 generalize sN k2 ns n=N0 at *;refine lp (λj:Nat=>[.sl 9 1 ((Ah k2 N0 j).map bQ),.sl 28 8 ((if K=4 then xp++List.replicate j (fV 0 [])else[]).map aj),.sl 42 3 ((if K=4 then[]else xi++List.replicate j bA).map au)]) (λj=>n+j<=max n tp) (λj=>tp-(n+j)) 0 ?_ (by omega) ?_
 ·have e1:Ah k2 N0 0=N0:=by
   unfold Ah;split
   ·simp
   ·rename_i hh;by_cases h0:N0=[]
    ·exact h0.symm
    ·exact absurd (.inr h0) hh
  rw[e1];by_cases hK4:K=4
  ·rw[if_pos hK4,if_pos hK4,hXi hK4];simp[gL]
  ·rw[if_neg hK4,if_neg hK4,hXp hK4];simp[gL]
 intro j hj;simp only[kI];have hxl:=NG (sk:=k2) (N0:=N0) (j:=j)
 have hb:=jM K (if K=4 then[]else xi++List.replicate j bA) (if K=4 then xp++List.replicate j (fV 0 [])else[]) (Ah k2 N0 j) cl lv 0 0 (uJ (by split<;>simp<;>omega) (by split<;>simp<;>omega) (by omega) (by omega) (by omega) (by
  split
  ·exact B4 hXw (by have:=@vj 0;omega)
  ·simp))
 have hb2:(((if K=4 then[]else xi++List.replicate j bA).length:Nat):Int)+((if K=4 then xp++List.replicate j (fV 0 [])else[]).length:Nat)=((n+j:Nat):Int):=by
  by_cases hK4:K=4
  ·have:=hxlen hK4;rw[if_pos hK4,if_pos hK4];simp;omega
  ·have:=hxlen2 hK4;rw[if_neg hK4,if_neg hK4];simp;omega
 unfold dX at hb;rw[if_neg (show¬K=5 by omega),hb2]at hb;simp only[aj,af,av]at hb;clear hb2;by_cases hlt:n+j<tp
 ·have hexs:(k2=3\/N0≠[]->Ah k2 N0 j++[⟨#[]⟩]=Ah k2 N0 (j+1)/\(Ah k2 N0 j).length=N0.length+j)/\(¬(k2=3\/N0≠[])->Ah k2 N0 j=[]/\Ah k2 N0 (j+1)=[]):=⟨λhh=>by unfold Ah;rw[if_pos hh,if_pos hh,fC];simp,λhh=>by unfold Ah;rw[if_neg hh,if_neg hh];simp⟩;have hN0l:N0≠[]->0<N0.length:=λhh=>List.length_pos_iff.2 hh
  have hapP:=lL (l:=xp++List.replicate j (fV 0 [])) (by simp;omega);rw[fC]at hapP;have hapX:=fC xi bA j;simp only[aj,eF,List.map_nil]at hapP;clear hF hwt hcl hft q1 q2 hnmn hK hXi hXp hYi hYp hsl hpr hylen hylen2 hj hN0;by_cases hK4:K=4
  ·simp only[if_pos hK4,List.map_nil]at hb ⊢;by_cases hx:k2=3\/N0≠[]
   ·obtain⟨x1,x2⟩:=hexs.1 hx;by_cases h3:k2=3
    ·repeat' (first|(with_reducible first|refine ac ?_|refine ab ‹_› rfl ?_|refine ai (λhbr=>?_) λhbr=>?_)|simp(disch:=first|omega|(simp only[aq];omega)|simp only[ap,Nat.reduceAdd]) only[go_sem,hapP,kP,x1,b7,bW])
     all_goals first|omega|exact⟨j+1,rfl,by omega,by omega⟩|(trace_state;sorry)
    ·have:=hN0l (hx.resolve_left h3)
     repeat' (first|(with_reducible first|refine ac ?_|refine ab ‹_› rfl ?_|refine ai (λhbr=>?_) λhbr=>?_)|simp(disch:=first|omega|(simp only[aq];omega)|simp only[ap,Nat.reduceAdd]) only[go_sem,hapP,kP,x1,b7,bW])
     all_goals first|omega|exact⟨j+1,rfl,by omega,by omega⟩|(trace_state;sorry)
   ·obtain⟨x1,x2⟩:=hexs.2 hx;have h3:¬k2=3:=λhh=>hx (.inl hh)
    have x3:(Ah k2 N0 j).length=0:=by rw[x1];rfl
    repeat' (first|(with_reducible first|refine ac ?_|refine ab ‹_› rfl ?_|refine ai (λhbr=>?_) λhbr=>?_)|simp(disch:=first|omega|(simp only[aq];omega)|simp only[ap,Nat.reduceAdd]) only[go_sem,hapP,b7,bW])
    all_goals first|omega|exact⟨j+1,by rw[x1,x2],by omega,by omega⟩|(trace_state;sorry)
  ·simp only[if_neg hK4,List.map_nil]at hb ⊢;by_cases hx:k2=3\/N0≠[]
   ·obtain⟨x1,x2⟩:=hexs.1 hx;by_cases h3:k2=3
    ·repeat' (first|(with_reducible first|refine ac ?_|refine ab ‹_› rfl ?_|refine ai (λhbr=>?_) λhbr=>?_)|simp(disch:=first|omega|(simp only[aq];omega)|simp only[ap,Nat.reduceAdd]) only[go_sem,gn,rT,hapX,kP,x1,b7,bW])
     all_goals first|omega|exact⟨j+1,rfl,by omega,by omega⟩|(trace_state;sorry)
    ·have:=hN0l (hx.resolve_left h3)
     repeat' (first|(with_reducible first|refine ac ?_|refine ab ‹_› rfl ?_|refine ai (λhbr=>?_) λhbr=>?_)|simp(disch:=first|omega|(simp only[aq];omega)|simp only[ap,Nat.reduceAdd]) only[go_sem,gn,rT,hapX,kP,x1,b7,bW])
     all_goals first|omega|exact⟨j+1,rfl,by omega,by omega⟩|(trace_state;sorry)
   ·obtain⟨x1,x2⟩:=hexs.2 hx;have h3:¬k2=3:=λhh=>hx (.inl hh)
    have x3:(Ah k2 N0 j).length=0:=by rw[x1];rfl
    repeat' (first|(with_reducible first|refine ac ?_|refine ab ‹_› rfl ?_|refine ai (λhbr=>?_) λhbr=>?_)|simp(disch:=first|omega|(simp only[aq];omega)|simp only[ap,Nat.reduceAdd]) only[go_sem,gn,rT,hapX,b7,bW])
    all_goals first|omega|exact⟨j+1,by rw[x1,x2],by omega,by omega⟩|(trace_state;sorry)
 have hjt:j=tp-n:=by omega
 have hxe:(if K=4 then[]else xi++List.replicate j bA)=(if K=4 then[]else b9 xi bA (max n tp)):=by
  by_cases hK4:K=4
  ·rw[if_pos hK4,if_pos hK4]
  ·have:=hxlen2 hK4;rw[if_neg hK4,if_neg hK4];exact xZ _ _ (by omega)
 have hpe:(if K=4 then xp++List.replicate j (fV 0 [])else[])=(if K=4 then b9 xp (fV 0 []) (max n tp)else[]):=by
  by_cases hK4:K=4
  ·have:=hxlen hK4;rw[if_pos hK4,if_pos hK4];exact xZ _ _ (by omega)
  ·rw[if_neg hK4,if_neg hK4]
 rw[hxe,hpe]at hb ⊢;subst hjt
 have hN2:k2=3->tp<=(Ah k2 N0 (tp-n)).length:=λe=>by
  unfold Ah;rw[if_pos (.inl e)];have:=hN0n e;simp;omega
 generalize Ah k2 N0 (tp-n)=N2 at *;have hPX:=λi=>gu yi l (b9 xi bA (max n tp)) i
 have hPP:=λi=>gu yp l (b9 xp (fV 0 []) (max n tp)) i
 have hPN:=λi=>me its2 l n N2 i
 rw[eR]at hPX hPP;generalize b9 xi bA (max n tp)=PX at *;generalize b9 xp (fV 0 []) (max n tp)=PP at*
 repeat' (first|(with_reducible first|refine ab ‹_› rfl ?_|refine ai (λhbr=>?_) λhbr=>?_)|simp(disch:=first|omega|(simp only[aq];omega)|simp only[ap,Nat.reduceAdd]) only[go_sem,true_and])
 all_goals first|omega|skip
 refine lp (λi:Nat=>[.sc (.int .i64 i),.sl 9 1 ((if k2=3 then nD its2 l n i N2 else N2).map bQ),.sl 28 8 ((if K=4 then jT yp l i PP else[]).map aj),.sl 42 3 ((if K=4 then[]else jT yi l i PX).map au)]) (λi=>i<=l.length) (λi=>l.length-i) 0 (by simp[gL,nD,jT]) (Nat.zero_le _) ?_;clear hK hKr hXi hXp hYi hYp hnmn hmn htp hk0 hk5 h5 hnin hln hnx hr2 hge hYl hXl hN0 hxe hpe hlt hj hb hwt c1 c2' q1 q2 hl1 hl2;intro i hi;simp only[ky];by_cases hlt:i<l.length
 ·have hz:=sC (t:=3) (l:=l) (kd:=.i64) (z:=(i:Int)) (by omega) (by omega);rw[Int.toNat_natCast]at hz;obtain⟨hp1,hp2⟩:=hpr i hlt;have hmod:(i:Int).tmod (m:Int)=((i % m:Nat):Int):=rfl;have him:i % m<m:=Nat.mod_lt _ (by omega);have hasn:((n:Int)<l.getD i default->nD its2 l n (i+1) N2=(nD its2 l n i N2).set (l.getD i default-1).toNat (its2.getD i default).text)/\(¬(n:Int)<l.getD i default->nD its2 l n (i+1) N2=nD its2 l n i N2):=⟨λhh=>by rw[nD,if_pos hh],λhh=>by rw[nD,if_neg hh]⟩;have hal:jT yp l (i+1) PP=(jT yp l i PP).set (l.getD i default-1).toNat (yp.getD (i % yp.length) default):=rfl;have hax:jT yi l (i+1) PX=(jT yi l i PX).set (l.getD i default-1).toNat (yi.getD (i % yi.length) default):=rfl;have hPPi:=hPP i;have hPXi:=hPX i;generalize l.getD i default=p at hz hp1 hp2 hasn hal hax;clear hF hcl hft;by_cases hK4:K=4
  ·have hyl:=hylen hK4;have hmod2:(i:Int).tmod ((yp.length:Nat):Int)=((i % m:Nat):Int):=by rw[hyl];rfl
   have hxl:=hxlen hK4;rw[hyl]at hal;have hyx:d6 8 (some (.sl 28 8 (yp.map aj))) (some (.sc (.int .i64 ((i % m:Nat):Int))))=some (aj (yp.getD (i % m) default)):=by rw[py (by omega) (by omega),Int.toNat_natCast]
   have hmem:=aG (l:=yp) (i:=i % m) (by omega);have hc:=vp (yp.getD (i % m) default) (by have:=hyw _ hmem;omega);have hst:=JW (l:=jT yp l i PP) (kd:=.i64) (z:=p-1) (y:=yp.getD (i % m) default) (by omega) (by omega);rw[<-hal]at hst;have hch:=aY (e:=aj) (k:=8) (t:=28) (l:=jT yp l i PP) (kd:=.i64) (z:=p-1) (by omega) (by omega);have hch2:=aY (e:=aj) (k:=8) (t:=28) (l:=yp) (kd:=.i64) (z:=((i % m:Nat):Int)) (by omega) (by omega);generalize yp.getD (i % m) default=y at hyx hc hst;obtain⟨y0,y1,y2,y3,y4,y5,y6,y7⟩:=y;simp only[aj,af,av]at hyx hc hst hch hch2;simp only[if_pos hK4,List.map_nil];clear hylen hylen2 hxlen hxlen2 hpr hal hax hmem hXw hyw;by_cases h3:k2=3
   ·obtain⟨hs1,hs2⟩:=hsl h3;have hs3:=cM (t:=42) (l:=its2) (kd:=.i64) (z:=(i:Int)) (by omega) (by omega);rw[Int.toNat_natCast]at hs3;have hNl:=hPN i;have hN2:=hN2 h3;have hns:=JU (t:=9) (l:=nD its2 l n i N2) (kd:=.i64) (z:=p-1) (s:=(its2.getD i default).text) (by omega) (by omega);have hchn:=aY (e:=bQ) (k:=1) (t:=9) (l:=nD its2 l n i N2) (kd:=.i64) (z:=p-1) (by omega) (by omega);generalize its2.getD i default=z2 at hs3 hns hasn;simp only[au]at hs3;simp only[if_pos h3];clear hsl hPN hPP hPX;by_cases ho:(n:Int)<p
    ·have hasn:=hasn.1 ho;rw[<-hasn]at hns
     repeat' (first|(with_reducible first|refine ac ?_|refine ab ‹_› rfl ?_|refine ai (λhbr=>?_) λhbr=>?_)|simp(disch:=first|omega|(simp only[aq];omega)|simp only[ap,Nat.reduceAdd]) only[go_sem,hz,hmod2,hyx,hst,hch,hch2,hs3,hns,hchn,bY,bZ])
     all_goals first|omega|exact⟨i+1,rfl,by omega,by omega⟩|(trace_state;sorry)
    ·have hasn:=hasn.2 ho
     repeat' (first|(with_reducible first|refine ac ?_|refine ab ‹_› rfl ?_|refine ai (λhbr=>?_) λhbr=>?_)|simp(disch:=first|omega|(simp only[aq];omega)|simp only[ap,Nat.reduceAdd]) only[go_sem,hz,hmod2,hyx,hst,hch,hch2,hs3,bY,bZ])
     all_goals first|omega|exact⟨i+1,by rw[hasn],by omega,by omega⟩|(trace_state;sorry)
   ·simp only[if_neg h3];clear hsl hPN hPP hPX hN2
    repeat' (first|(with_reducible first|refine ac ?_|refine ab ‹_› rfl ?_|refine ai (λhbr=>?_) λhbr=>?_)|simp(disch:=first|omega|(simp only[aq];omega)|simp only[ap,Nat.reduceAdd]) only[go_sem,hz,hmod2,hyx,hst,hch,hch2,bY,bZ])
    all_goals first|omega|exact⟨i+1,rfl,by omega,by omega⟩|(trace_state;sorry)
  ·have hyl:=hylen2 hK4;have hmod2:(i:Int).tmod ((yi.length:Nat):Int)=((i % m:Nat):Int):=by rw[hyl];rfl
   have hxl:=hxlen2 hK4;rw[hyl]at hax;have hyx:=cM (t:=42) (l:=yi) (kd:=.i64) (z:=((i % m:Nat):Int)) (by omega) (by omega);rw[Int.toNat_natCast]at hyx;have hst:=BK (t:=42) (l:=jT yi l i PX) (kd:=.i64) (z:=p-1) (y:=yi.getD (i % m) default) (by omega) (by omega);rw[<-hax]at hst;have hch:=aY (e:=au) (k:=3) (t:=42) (l:=jT yi l i PX) (kd:=.i64) (z:=p-1) (by omega) (by omega);have hch2:=aY (e:=au) (k:=3) (t:=42) (l:=yi) (kd:=.i64) (z:=((i % m:Nat):Int)) (by omega) (by omega);generalize yi.getD (i % m) default=y at hyx hst;simp only[au]at hyx hst;simp only[if_neg hK4,List.map_nil];clear hylen hylen2 hxlen hxlen2 hpr hal hax hXw hyw;by_cases h3:k2=3
   ·obtain⟨hs1,hs2⟩:=hsl h3;have hs3:=cM (t:=42) (l:=its2) (kd:=.i64) (z:=(i:Int)) (by omega) (by omega);rw[Int.toNat_natCast]at hs3;have hNl:=hPN i;have hN2:=hN2 h3;have hns:=JU (t:=9) (l:=nD its2 l n i N2) (kd:=.i64) (z:=p-1) (s:=(its2.getD i default).text) (by omega) (by omega);have hchn:=aY (e:=bQ) (k:=1) (t:=9) (l:=nD its2 l n i N2) (kd:=.i64) (z:=p-1) (by omega) (by omega);generalize its2.getD i default=z2 at hs3 hns hasn;simp only[au]at hs3;simp only[if_pos h3];clear hsl hPN hPP hPX;by_cases ho:(n:Int)<p
    ·have hasn:=hasn.1 ho;rw[<-hasn]at hns
     repeat' (first|(with_reducible first|refine ac ?_|refine ab ‹_› rfl ?_|refine ai (λhbr=>?_) λhbr=>?_)|simp(disch:=first|omega|(simp only[aq];omega)|simp only[ap,Nat.reduceAdd]) only[go_sem,hz,hmod2,hyx,hst,hch,hch2,hs3,hns,hchn,bY,bZ])
     all_goals first|omega|exact⟨i+1,rfl,by omega,by omega⟩|(trace_state;sorry)
    ·have hasn:=hasn.2 ho
     repeat' (first|(with_reducible first|refine ac ?_|refine ab ‹_› rfl ?_|refine ai (λhbr=>?_) λhbr=>?_)|simp(disch:=first|omega|(simp only[aq];omega)|simp only[ap,Nat.reduceAdd]) only[go_sem,hz,hmod2,hyx,hst,hch,hch2,hs3,bY,bZ])
     all_goals first|omega|exact⟨i+1,by rw[hasn],by omega,by omega⟩|(trace_state;sorry)
   ·simp only[if_neg h3];clear hsl hPN hPP hPX hN2
    repeat' (first|(with_reducible first|refine ac ?_|refine ab ‹_› rfl ?_|refine ai (λhbr=>?_) λhbr=>?_)|simp(disch:=first|omega|(simp only[aq];omega)|simp only[ap,Nat.reduceAdd]) only[go_sem,hz,hmod2,hyx,hst,hch,hch2,bY,bZ])
    all_goals first|omega|exact⟨i+1,rfl,by omega,by omega⟩|(trace_state;sorry)
 ·obtain rfl:i=l.length:=by omega
  obtain⟨⟨f0,f1,f2,f3,f4,f5,f6,f7⟩,fm⟩:=F;simp only[af]at hft ⊢
  repeat' (first|(with_reducible first|refine ac ?_|refine ab ‹_› rfl ?_|refine ai (λhbr=>?_) λhbr=>?_)|simp(disch:=first|omega|(simp only[aq];omega)|simp only[ap,Nat.reduceAdd]) only[go_sem,true_and])
  all_goals first|omega|skip
  refine gY (f:=52) (bits:=1) (by decide) hcl rfl ?_;simp(disch:=first|omega|(simp only[aq];omega)|simp only[ap,Nat.reduceAdd]) only[go_sem,true_and];refine gY (f:=41) (bits:=1) (by decide) hft rfl ?_
  repeat' (first|(with_reducible first|refine ac ?_|refine ab ‹_› rfl ?_|refine ai (λhbr=>?_) λhbr=>?_)|simp(disch:=first|omega|(simp only[aq];omega)|simp only[ap,Nat.reduceAdd]) only[go_sem,true_and])
  all_goals first|omega|rfl|(trace_state;sorry)
def Nh(v s w:aX):List Int×ByteArray:=if cd v=true/\cd w=true then(if lY v=5 then([],Mm)else dw (rt v) (zk v) s)else([],G1)
theorem OA(v s w:aX)(hw:ck v<=1000000000)(hws:ck s<=1000000000)(hww:ck w<=1000000000):aI Try.prog 16 [(true,aj v),(true,aj s),(true,aj w)] [(false,[bC (Nh v s w).1],true),(false,[.sc (.string (Nh v s w).2)],true)]:=by
 have h1:=oA v hw;have h2:=oA w hww;unfold Nh;obtain⟨k,its,ps,ns,cl,lv,c,e⟩:=v;obtain⟨k2,its2,ps2,ns2,cl2,lv2,c2,e2⟩:=s;obtain⟨k3,its3,ps3,ns3,cl3,lv3,c3,e3⟩:=w;cases hv:cd (.mk k its ps ns cl lv c e)
 ·rw[hv]at h1;rw[if_neg (by simp)];simp only[aj,af,av,bC,List.map_nil]at h1 ⊢;refine ah Try.func16 cO rfl ?_;simp only[bX]
  repeat' (first|(with_reducible first|refine ac ?_|refine ab ‹_› rfl ?_|refine ai (λhbr=>?_) λhbr=>?_)|simp(disch:=first|omega|(simp only[aq];omega)|simp only[ap,Nat.reduceAdd]) only[go_sem,true_and])
  all_goals rfl
 rw[hv]at h1;cases hv3:cd (.mk k3 its3 ps3 ns3 cl3 lv3 c3 e3)
 ·rw[hv3]at h2;rw[if_neg (by simp)];simp only[aj,af,av,bC,List.map_nil]at h1 h2 ⊢;refine ah Try.func16 cO rfl ?_;simp only[bX]
  repeat' (first|(with_reducible first|refine ac ?_|refine ab ‹_› rfl ?_|refine ai (λhbr=>?_) λhbr=>?_)|simp(disch:=first|omega|(simp only[aq];omega)|simp only[ap,Nat.reduceAdd]) only[go_sem,true_and])
  all_goals rfl
 rw[hv3]at h2;rw[if_pos ⟨rfl,rfl⟩];have h:=vw hv;rw[show lY (.mk k its ps ns cl lv c e)=k from rfl,show zk (.mk k its ps ns cl lv c e)=ns from rfl,show rt (.mk k its ps ns cl lv c e)=its.length+ps.length from rfl];by_cases h5:k=5
 ·rw[if_pos h5];simp only[aj,af,av,bC,List.map_nil]at h1 h2 ⊢;refine ah Try.func16 cO rfl ?_;simp only[bX]
  repeat' (first|(with_reducible first|refine ac ?_|refine ab ‹_› rfl ?_|refine ai (λhbr=>?_) λhbr=>?_)|simp(disch:=first|omega|(simp only[aq];omega)|simp only[ap,Nat.reduceAdd]) only[go_sem,true_and])
  all_goals first|omega|rfl
 rw[if_neg h5];have g1:=jM k its ps ns cl lv c e (rU hw);have hn1:dX k its.length ps.length=((its.length+ps.length:Nat):Int):=by unfold dX;rw[if_neg (by omega)];omega
 rw[hn1]at g1;have g2:=JC (its.length+ps.length) ns h.l40 h.nmn hws;generalize dw (its.length+ps.length) ns (.mk k2 its2 ps2 ns2 cl2 lv2 c2 e2)=R at g2 ⊢;obtain⟨l,msg⟩:=R;simp only at g2 ⊢;simp only[aj,af,av,bC]at h1 h2 g1 g2 ⊢;refine ah Try.func16 cO rfl ?_;simp only[bX]
 repeat' (first|(with_reducible first|refine ac ?_|refine ab ‹_› rfl ?_|refine ai (λhbr=>?_) λhbr=>?_)|simp(disch:=first|omega|(simp only[aq];omega)|simp only[ap,Nat.reduceAdd]) only[go_sem,true_and])
 all_goals first|omega|rfl
set_option maxHeartbeats 8000000 in
theorem Of(v s w:aX)(hw:ck v<=1000000000)(hws:ck s<=1000000000)(hww:ck w<=1000000000):aI Try.prog 6 [(true,aj v),(true,aj s),(true,aj w)] [(true,aj (AI v s w).1,true),(false,[.sc (.string (AI v s w).2)],true)]:=by
 have hF:∀F,F=AI v s w->aI Try.prog 6 [(true,aj v),(true,aj s),(true,aj w)] [(true,aj F.1,true),(false,[.sc (.string F.2)],true)]:=by
  intro F hF;have h0:=OA v s w hw hws hww;have hne:¬G1=eW:=by decide
  have hne2:¬Mm=eW:=by decide
  unfold AI at hF;unfold Nh at h0;obtain⟨k,its,ps,ns,cl,lv,c,e⟩:=v;obtain⟨k2,its2,ps2,ns2,cl2,lv2,c2,e2⟩:=s;obtain⟨k3,its3,ps3,ns3,cl3,lv3,c3,e3⟩:=w;by_cases hvv:cd (.mk k its ps ns cl lv c e)=true/\cd (.mk k3 its3 ps3 ns3 cl3 lv3 c3 e3)=true;rotate_left
  ·rw[if_neg hvv]at hF h0;subst hF;simp only[aj,af,av,bC,fV,eW]at h0 hne ⊢;refine ah Try.func6 cU rfl ?_;simp only[ci]
   repeat' (first|(with_reducible first|refine ac ?_|refine ab ‹_› rfl ?_|refine ai (λhbr=>?_) λhbr=>?_)|simp(disch:=first|omega|(simp only[aq];omega)|simp only[ap,Nat.reduceAdd]) only[go_sem,true_and])
   all_goals first|contradiction|rfl
  rw[if_pos hvv]at hF h0;obtain⟨hv,hv3⟩:=hvv;have h:=vw hv;have hh:=vw hv3;have hk0:=h.k0;have hk5:=h.k5;rw[show lY (.mk k its ps ns cl lv c e)=k from rfl,show zk (.mk k its ps ns cl lv c e)=ns from rfl,show rt (.mk k its ps ns cl lv c e)=its.length+ps.length from rfl,show lY (.mk k3 its3 ps3 ns3 cl3 lv3 c3 e3)=k3 from rfl,show MZ (.mk k its ps ns cl lv c e)=lv from rfl]at hF;rw[show lY (.mk k its ps ns cl lv c e)=k from rfl,show zk (.mk k its ps ns cl lv c e)=ns from rfl,show rt (.mk k its ps ns cl lv c e)=its.length+ps.length from rfl]at h0;by_cases h5:k=5
  ·rw[if_pos h5]at hF h0;subst hF;simp only[aj,af,av,bC,fV,eW]at h0 hne2 ⊢;refine ah Try.func6 cU rfl ?_;simp only[ci]
   repeat' (first|(with_reducible first|refine ac ?_|refine ab ‹_› rfl ?_|refine ai (λhbr=>?_) λhbr=>?_)|simp(disch:=first|omega|(simp only[aq];omega)|simp only[ap,Nat.reduceAdd]) only[go_sem,true_and])
   all_goals first|omega|contradiction|rfl
  rw[if_neg h5]at hF h0;have h40:=h.l40;have hnmn:=h.nmn;have hr:=oz (names:=ns) h40 (by rcases hnmn with e|e<;>simp[e]) (.mk k2 its2 ps2 ns2 cl2 lv2 c2 e2)
  have hdel:=λ(h4:k=4) l hl hr=>by
   have:=@Qj its ps ns cl lv c e (by rw[<-h4];exact ek hv) (by rw[<-h4];exact hw) l hl hr;rw[<-h4]at this;exact this
  have hcp:=vp _ hw;have g3:=jM k3 its3 ps3 ns3 cl3 lv3 c3 e3 (rU hww);have hm1:dX k3 its3.length ps3.length=((fN (.mk k3 its3 ps3 ns3 cl3 lv3 c3 e3):Nat):Int):=by have:=qZ k3 its3.length ps3.length;simp only[fN];omega
  rw[hm1]at g3;have hvc3:=λhl=>H0 (L:=lv) h.l20 hh hl
  have hln3:=F8 (L:=lv) hh;have hk3:=hh.k1;have had:Rl (.mk k its ps ns cl lv c e) (.mk k3 its3 ps3 ns3 cl3 lv3 c3 e3)=D4 lv (.mk k3 its3 ps3 ns3 cl3 lv3 c3 e3):=rfl;rw[had]at hF;generalize fN (.mk k3 its3 ps3 ns3 cl3 lv3 c3 e3)=m at *;generalize hR:dw (its.length+ps.length) ns (.mk k2 its2 ps2 ns2 cl2 lv2 c2 e2)=R at h0 hr hF;obtain⟨l,msg⟩:=R;simp only at h0 hr hF;clear hm1;obtain⟨hr1,hr2⟩:=hr;have hl1:l.length=0->l=[]:=List.eq_nil_of_length_eq_zero;by_cases hm:msg=eW;rotate_left
  ·rw[if_pos hm]at hF;subst hF;simp only[aj,af,av,bC,fV,eW]at h0 hm ⊢;refine ah Try.func6 cU rfl ?_;simp only[ci]
   repeat' (first|(with_reducible first|refine ac ?_|refine ab ‹_› rfl ?_|refine ai (λhbr=>?_) λhbr=>?_)|simp(disch:=first|omega|(simp only[aq];omega)|simp only[ap,Nat.reduceAdd]) only[go_sem,true_and])
   all_goals first|omega|contradiction|rfl|(trace_state;sorry)
  subst hm;rw[if_neg (by simp)]at hF;simp only[aj,af,av,bC,fV,eW]at h0 g3 ⊢;refine ah Try.func6 cU rfl ?_;simp only[ci]
  repeat' (first|(with_reducible first|refine ab ‹_› rfl ?_|refine ai (λhbr=>?_) λhbr=>?_)|simp(disch:=first|omega|(simp only[aq];omega)|simp only[ap,Nat.reduceAdd]) only[go_sem,true_and])
  all_goals first|omega|contradiction|skip
  refine lp (λi:Nat=>[.sc (.int .i64 i),.sc (.int .i64 (ru (l.take i)))]) (λi=>i<=l.length/\∀j,j<i->l.getD j default≠0) (λi=>l.length-i) 0 rfl ⟨Nat.zero_le _,λj hj=>by omega⟩ ?_;rintro i ⟨hi,hnz⟩;simp only[fw];by_cases hlt:i<l.length
  ·have hz:=sC (t:=3) (l:=l) (kd:=.i64) (z:=(i:Int)) (by omega) (by omega);rw[Int.toNat_natCast]at hz;have hch:=aY (e:=dD) (k:=1) (t:=3) (l:=l) (kd:=.i64) (z:=(i:Int)) (by omega) (by omega);have hmx:=Cq hlt;have hmem:=aG hlt
   have hnz':l.getD i default≠0->∀j,j<i+1->l.getD j default≠0:=λhp j hj=>by
    by_cases e:j=i
    ·rw[e];exact hp
    ·exact hnz j (by omega)
   generalize l.getD i default=p at hz hmx hmem hnz';by_cases hp:p=0
   ·rw[if_pos (by rw[<-hp];exact hmem)]at hF;subst hF;simp only[aj,af,av,fV,eW]
    repeat' (first|(with_reducible first|refine ac ?_|refine ab ‹_› rfl ?_|refine ai (λhbr=>?_) λhbr=>?_)|simp(disch:=first|omega|(simp only[aq];omega)|simp only[ap,Nat.reduceAdd]) only[go_sem,hz,hch])
    all_goals first|omega|contradiction|rfl|(trace_state;sorry)
   ·repeat' (first|(with_reducible first|refine ac ?_|refine ab ‹_› rfl ?_|refine ai (λhbr=>?_) λhbr=>?_)|simp(disch:=first|omega|(simp only[aq];omega)|simp only[ap,Nat.reduceAdd]) only[go_sem,hz,hch])
    all_goals first|omega|contradiction|exact⟨i+1,by rw[hmx],⟨by omega,hnz' hp⟩,by omega⟩|(trace_state;sorry)
  ·obtain rfl:i=l.length:=by omega
   rw[List.take_length];have hnin:=yZ hnz rfl;rw[if_neg hnin]at hF;clear hnz hlt;have htm:(l.length:Int).tmod (m:Int)=((l.length % m:Nat):Int):=rfl;by_cases cA:k=4/\k3=0
   ·rw[if_pos cA]at hF;have hd:=hdel cA.1 l (by omega) (λp hp=>(hr2 p hp).1);generalize Bf (.mk k its ps ns cl lv c e) l=D at hd hF;obtain⟨K,I,PS,N,CL,LV,C,E⟩:=D;subst hF;simp only[aj,af,av,bC,eW]at hd ⊢
    repeat' (first|(with_reducible first|refine ac ?_|refine ab ‹_› rfl ?_|refine ai (λhbr=>?_) λhbr=>?_)|simp(disch:=first|omega|(simp only[aq];omega)|simp only[ap,Nat.reduceAdd]) only[go_sem,bw])
    all_goals first|omega|rfl|(trace_state;sorry)
   rw[if_neg cA]at hF;by_cases cB:l=[]
   ·rw[if_pos cB]at hF;subst hF;have hl2:l.length=0:=by rw[cB];rfl
    simp only[aj,af,av,eW]at hcp ⊢
    repeat' (first|(with_reducible first|refine ac ?_|refine ab ‹_› rfl ?_|refine ai (λhbr=>?_) λhbr=>?_)|simp(disch:=first|omega|(simp only[aq];omega)|simp only[ap,Nat.reduceAdd]) only[go_sem,bw])
    all_goals first|omega|rfl|(trace_state;sorry)
   rw[if_neg cB]at hF;have hl2:¬l.length=0:=λhh=>cB (hl1 hh)
   by_cases cC:m=0
   ·rw[if_pos cC]at hF;subst hF;simp only[aj,af,av,fV,OC]
    repeat' (first|(with_reducible first|refine ac ?_|refine ab ‹_› rfl ?_|refine ai (λhbr=>?_) λhbr=>?_)|simp(disch:=first|omega|(simp only[aq];omega)|simp only[ap,Nat.reduceAdd]) only[go_sem,bw])
    all_goals first|omega|rfl|(trace_state;sorry)
   rw[if_neg cC]at hF;by_cases cD:l.length % m≠0
   ·rw[if_pos cD]at hF;subst hF;simp only[aj,af,av,fV,QA]
    repeat' (first|(with_reducible first|refine ac ?_|refine ab ‹_› rfl ?_|refine ai (λhbr=>?_) λhbr=>?_)|simp(disch:=first|omega|(simp only[aq];omega)|simp only[ap,Nat.reduceAdd]) only[go_sem,htm,bw])
    all_goals first|omega|rfl|(trace_state;sorry)
   rw[if_neg cD]at hF;have hlv0:lv.length=0->lv=[]:=List.eq_nil_of_length_eq_zero;have hlv1:lv=[]->lv.length=0:=λe=>by rw[e];rfl
   by_cases cE:lv≠[]/\4<=k3
   ·rw[if_pos cE]at hF;subst hF;have hlv2:¬lv.length=0:=λe=>cE.1 (hlv0 e)
    simp only[aj,af,av,fV,PD]
    repeat' (first|(with_reducible first|refine ac ?_|refine ab ‹_› rfl ?_|refine ai (λhbr=>?_) λhbr=>?_)|simp(disch:=first|omega|(simp only[aq];omega)|simp only[ap,Nat.reduceAdd]) only[go_sem,htm,bw])
    all_goals first|omega|rfl|(trace_state;sorry)
   rw[if_neg cE]at hF;have hW:=hvc3 cC cE;have hWl:=hln3 cE
   have gc1:lv≠[]->aI Try.prog 20 [(true,aj (.mk k3 its3 ps3 ns3 cl3 lv3 c3 e3)),(false,[av lv])] [(true,aj (D4 lv (.mk k3 its3 ps3 ns3 cl3 lv3 c3 e3)),true)]:=λhl=>by
    have h4:¬4<=k3:=λhh=>cE ⟨hl,hh⟩
    have hp:=hh.p0 (by omega);subst hp;rw[mf,if_pos hl,mn];exact Ta hh.toVF hww (by omega) lv (by have:=h.l20;omega)
   have gc2:lv=[]->k3<4->aI Try.prog 22 [(true,aj (.mk k3 its3 ps3 ns3 cl3 lv3 c3 e3))] [(true,aj (D4 lv (.mk k3 its3 ps3 ns3 cl3 lv3 c3 e3)),true)]:=λhl h4=>by
    have hp:=hh.p0 (by omega);subst hp;rw[mf,if_neg (λhh=>hh hl),if_pos h4,mn];exact NO hh.toVF hww (by omega)
   have gc3:lv=[]->¬k3<4->D4 lv (.mk k3 its3 ps3 ns3 cl3 lv3 c3 e3)=.mk k3 its3 ps3 ns3 cl3 lv3 c3 e3:=λhl h4=>by
    rw[mf,if_neg (λhh=>hh hl),if_neg h4]
   have hk3':=hk3 cC;have gat:=Ja _ k3 ⟨its3,ps3,ns3,cl3,lv3,c3,e3,rfl⟩;have hat:LO k3=decide (k3<4):=by unfold LO;rw[Bool.eq_iff_iff];simp;omega
   rw[hat]at gat;simp only[aj,af,av]at gat;clear hvc3 hln3 had;generalize D4 lv (.mk k3 its3 ps3 ns3 cl3 lv3 c3 e3)=W at hF hW hWl gc1 gc2 gc3;obtain⟨k',its',ps',ns',cl',lv',c',e'⟩:=W;have hH:=vw hW
   have hcE:4<=k3->lv.length=0:=λh4=>by
    by_cases hl:lv=[]
    ·exact hlv1 hl
    ·exact absurd ⟨hl,h4⟩ cE
   have hsl:k2=3->l.length<=its2.length/\∀x∈its2,x.text.size<=60:=λe3=>by
    subst e3;have:=De hR;exact⟨this.1,this.2 cB⟩
   have grp:=QJ h h5 hH (m:=m) hWl cC l cB hr1 hr2 hnin hsl (c2:=c2) (e2:=e2) (ns2:=ns2) (cl2:=cl2) (lv2:=lv2) (ps2:=ps2) F hF
   repeat' (first|(with_reducible first|refine ab ‹_› rfl ?_|refine ai (λhbr=>?_) λhbr=>?_)|simp(disch:=first|omega|(simp only[aq];omega)|simp only[ap,Nat.reduceAdd]) only[go_sem,htm])
   all_goals first|omega|skip
   refine jn (λvs=>vs=[.sc (.bool false)]) ?_ ?_
   ·repeat' (first|(with_reducible first|refine ac ?_|refine ab ‹_› rfl ?_|refine ai (λhbr=>?_) λhbr=>?_)|simp(disch:=first|omega|(simp only[aq];omega)|simp only[ap,Nat.reduceAdd]) only[go_sem,true_and])
    all_goals first|omega|rfl|(rw[decide_eq_false (by omega)])
   rintro vs-rfl;simp only[bw]
   repeat' (first|(with_reducible first|refine ab ‹_› rfl ?_|refine ai (λhbr=>?_) λhbr=>?_)|simp(disch:=first|omega|(simp only[aq];omega)|simp only[ap,Nat.reduceAdd]) only[go_sem,htm])
   all_goals first|omega|skip
   refine jn (λvs=>∃a b:DV,vs=a::b::aj (.mk k' its' ps' ns' cl' lv' c' e')) ?_ ?_
   ·by_cases hl:lv=[]
    ·have hll:=hlv1 hl;by_cases h4:k3<4
     ·have gc2:=gc2 hl h4;simp only[aj,af,av]at gc2 ⊢;rw[decide_eq_true h4]at gat
      repeat' (first|(with_reducible first|refine ac ?_|refine ab ‹_› rfl ?_|refine ai (λhbr=>?_) λhbr=>?_)|simp(disch:=first|omega|(simp only[aq];omega)|simp only[ap,Nat.reduceAdd]) only[go_sem,true_and])
      all_goals first|omega|exact⟨_,_,rfl⟩|(trace_state;sorry)
     ·have gc3:=gc3 hl h4;cases gc3;simp only[aj,af,av];rw[decide_eq_false h4]at gat
      repeat' (first|(with_reducible first|refine ac ?_|refine ab ‹_› rfl ?_|refine ai (λhbr=>?_) λhbr=>?_)|simp(disch:=first|omega|(simp only[aq];omega)|simp only[ap,Nat.reduceAdd]) only[go_sem,true_and])
      all_goals first|omega|exact⟨_,_,rfl⟩|(trace_state;sorry)
    ·have gc1:=gc1 hl;have hll:¬lv.length=0:=λhh=>hl (hlv0 hh)
     simp only[aj,af,av]at gc1 ⊢
     repeat' (first|(with_reducible first|refine ac ?_|refine ab ‹_› rfl ?_|refine ai (λhbr=>?_) λhbr=>?_)|simp(disch:=first|omega|(simp only[aq];omega)|simp only[ap,Nat.reduceAdd]) only[go_sem,true_and])
     all_goals first|omega|exact⟨_,_,rfl⟩|(trace_state;sorry)
   rintro vs - ⟨a,b,rfl⟩;simp only[fy];obtain⟨⟨f0,f1,f2,f3,f4,f5,f6,f7⟩,fm⟩:=F;simp only[aj,af,av,bC]at grp ⊢
   repeat' (first|(with_reducible first|refine ac ?_|refine ab ‹_› rfl ?_|refine ai (λhbr=>?_) λhbr=>?_)|simp(disch:=first|omega|(simp only[aq];omega)|simp only[ap,Nat.reduceAdd]) only[go_sem,true_and])
   all_goals first|omega|rfl|(trace_state;sorry)
 exact hF _ rfl
def ny:List aP:=[⟨2000008,6,⟨[aa 232 113,aa 201 114,aa 20 115,aa 192 112,aa 19 107,aa 183 104,aa 165 95,aa 18 93,aa 151 92,aa 17 85,al 16 11 11 0,aa 15 73,al 14 5 5 0,aa 13 64,aa 114 53,aa 100 46,aa 93 47,aa 89 48,aa 83 49,aa 71 50,aa 12 45,aa 54 44,aa 11 41,aa 10 42,aa 48 38,aa 9 36,bi 8 4 4,aa 36 33,aa 30 31,aa 7 27,al 6 3 3 0,al 5 2 2 0,al 4 1 1 0,al 3 0 0 0,(0,.p true [.d 0,.d 1,.d 2,.d 3,.d 4,.d 5,.d 6,.d 7]),(1,.p true [.d 8,.d 9,.d 10,.d 11,.d 12,.d 13,.d 14,.d 15]),(2,.p true [.d 16,.d 17,.d 18,.d 19,.d 20,.d 21,.d 22,.d 23])],[(0,.var 0 28 [.d 0,.d 1,.d 2,.d 3,.d 4,.d 5,.d 6,.d 7]),(1,.var 1 28 [.d 8,.d 9,.d 10,.d 11,.d 12,.d 13,.d 14,.d 15]),(2,.var 2 28 [.d 54,.d 55,.d 56,.d 57,.d 58,.d 59,.d 60,.d 61]),(3,.var 3 28 [.d 24,.nil,.nil,.nil,.nil,.nil,.d 25,.d 26]),(4,.row 4 3 1 35),(5,.var 5 28 [.d 96,.own 12 12,.own 13 13,.own 14 14,.own 15 15,.own 16 16,.d 102,.d 103]),(16,.row 16 9 1 101),(15,.row 15 9 1 100),(14,.row 14 9 1 116),(13,.row 13 28 8 117),(12,.row 12 42 3 118),(11,.var 11 28 [.d 77,.own 6 6,.own 7 7,.own 8 8,.own 9 9,.own 10 10,.d 83,.d 84]),(10,.row 10 9 1 82),(9,.row 9 9 1 81),(8,.row 8 9 1 80),(7,.row 7 28 8 79),(6,.row 6 42 3 78)],17,17,119,[(112,true),(95,false),(92,false),(90,false),(89,false),(44,false),(38,false),(33,false),(31,false),(29,false)]⟩,[]⟩,⟨1000046,2,⟨[aa 201 117,aa 20 115,aa 192 112,aa 19 107,aa 183 104,aa 165 95,aa 18 93,aa 151 92,aa 17 85,al 16 11 11 0,aa 15 73,al 14 5 5 0,aa 13 64,aa 114 53,aa 100 46,aa 93 47,aa 89 48,aa 83 49,aa 71 50,aa 12 45,aa 54 44,aa 11 41,aa 10 42,aa 48 38,aa 9 36,bi 8 4 4,aa 36 33,aa 30 31,aa 7 27,al 6 3 3 0,al 5 2 2 0,al 4 1 1 0,al 3 0 0 0,(0,.p true [.d 0,.d 1,.d 2,.d 3,.d 4,.d 5,.d 6,.d 7]),(1,.p true [.d 8,.d 9,.d 10,.d 11,.d 12,.d 13,.d 14,.d 15]),(2,.p true [.d 16,.d 17,.d 18,.d 19,.d 20,.d 21,.d 22,.d 23])],[(0,.var 0 28 [.d 0,.d 1,.d 2,.d 3,.d 4,.d 5,.d 6,.d 7]),(1,.var 1 28 [.d 8,.d 9,.d 10,.d 11,.d 12,.d 13,.d 14,.d 15]),(2,.var 2 28 [.d 54,.d 55,.d 56,.d 57,.d 58,.d 59,.d 60,.d 61]),(3,.var 3 28 [.d 24,.nil,.nil,.nil,.nil,.nil,.d 25,.d 26]),(4,.row 4 3 1 35),(5,.var 5 28 [.d 96,.own 12 12,.own 13 13,.own 14 14,.own 15 15,.own 16 16,.d 102,.d 103]),(16,.row 16 9 1 101),(15,.row 15 9 1 100),(14,.row 14 9 1 108),(13,.row 13 28 8 118),(12,.row 12 42 3 119),(11,.var 11 28 [.d 77,.own 6 6,.own 7 7,.own 8 8,.own 9 9,.own 10 10,.d 83,.d 84]),(10,.row 10 9 1 82),(9,.row 9 9 1 81),(8,.row 8 9 1 80),(7,.row 7 28 8 79),(6,.row 6 42 3 78)],17,17,120,[(112,true),(95,false),(92,false),(90,false),(89,false),(44,false),(38,false),(33,false),(31,false),(29,false)]⟩,[]⟩,⟨3000042,4,⟨[aa 19 107,aa 183 104,aa 165 95,aa 18 93,aa 151 92,aa 17 85,al 16 11 11 0,aa 15 73,al 14 5 5 0,aa 13 64,aa 114 53,aa 100 46,aa 93 47,aa 89 48,aa 83 49,aa 71 50,aa 12 45,aa 54 44,aa 11 41,aa 10 42,aa 48 38,aa 9 36,bi 8 4 4,aa 36 33,aa 30 31,aa 7 27,al 6 3 3 0,al 5 2 2 0,al 4 1 1 0,al 3 0 0 0,(0,.p true [.d 0,.d 1,.d 2,.d 3,.d 4,.d 5,.d 6,.d 7]),(1,.p true [.d 8,.d 9,.d 10,.d 11,.d 12,.d 13,.d 14,.d 15]),(2,.p true [.d 16,.d 17,.d 18,.d 19,.d 20,.d 21,.d 22,.d 23])],[(0,.var 0 28 [.d 0,.d 1,.d 2,.d 3,.d 4,.d 5,.d 6,.d 7]),(1,.var 1 28 [.d 8,.d 9,.d 10,.d 11,.d 12,.d 13,.d 14,.d 15]),(2,.var 2 28 [.d 54,.d 55,.d 56,.d 57,.d 58,.d 59,.d 60,.d 61]),(3,.var 3 28 [.d 24,.nil,.nil,.nil,.nil,.nil,.d 25,.d 26]),(4,.row 4 3 1 35),(5,.var 5 28 [.d 96,.own 12 12,.own 13 13,.own 14 14,.own 15 15,.own 16 16,.d 102,.d 103]),(16,.row 16 9 1 101),(15,.row 15 9 1 100),(14,.row 14 9 1 108),(13,.row 13 28 8 109),(12,.row 12 42 3 110),(11,.var 11 28 [.d 77,.own 6 6,.own 7 7,.own 8 8,.own 9 9,.own 10 10,.d 83,.d 84]),(10,.row 10 9 1 82),(9,.row 9 9 1 81),(8,.row 8 9 1 80),(7,.row 7 28 8 79),(6,.row 6 42 3 78)],17,17,111,[(95,false),(92,false),(90,false),(89,false),(44,false),(38,false),(33,false),(31,false),(29,false)]⟩,[⟨false,2,501,0,0⟩,⟨false,2,502,0,0⟩,⟨false,2,503,0,0⟩,⟨false,2,504,0,0⟩,⟨false,2,505,0,0⟩]⟩,⟨2000005,2,⟨[aa 183 104,aa 165 95,aa 18 93,aa 151 92,aa 17 85,al 16 11 11 0,aa 15 73,al 14 5 5 0,aa 13 64,aa 114 53,aa 100 46,aa 93 47,aa 89 48,aa 83 49,aa 71 50,aa 12 45,aa 54 44,aa 11 41,aa 10 42,aa 48 38,aa 9 36,bi 8 4 4,aa 36 33,aa 30 31,aa 7 27,al 6 3 3 0,al 5 2 2 0,al 4 1 1 0,al 3 0 0 0,(0,.p true [.d 0,.d 1,.d 2,.d 3,.d 4,.d 5,.d 6,.d 7]),(1,.p true [.d 8,.d 9,.d 10,.d 11,.d 12,.d 13,.d 14,.d 15]),(2,.p true [.d 16,.d 17,.d 18,.d 19,.d 20,.d 21,.d 22,.d 23])],[(0,.var 0 28 [.d 0,.d 1,.d 2,.d 3,.d 4,.d 5,.d 6,.d 7]),(1,.var 1 28 [.d 8,.d 9,.d 10,.d 11,.d 12,.d 13,.d 14,.d 15]),(2,.var 2 28 [.d 54,.d 55,.d 56,.d 57,.d 58,.d 59,.d 60,.d 61]),(3,.var 3 28 [.d 24,.nil,.nil,.nil,.nil,.nil,.d 25,.d 26]),(4,.row 4 3 1 35),(5,.var 5 28 [.d 96,.own 12 12,.own 13 13,.own 14 14,.own 15 15,.own 16 16,.d 102,.d 103]),(16,.row 16 9 1 101),(15,.row 15 9 1 100),(14,.row 14 9 1 105),(13,.row 13 28 8 98),(12,.row 12 42 3 97),(11,.var 11 28 [.d 77,.own 6 6,.own 7 7,.own 8 8,.own 9 9,.own 10 10,.d 83,.d 84]),(10,.row 10 9 1 82),(9,.row 9 9 1 81),(8,.row 8 9 1 80),(7,.row 7 28 8 79),(6,.row 6 42 3 78)],17,17,106,[(95,false),(92,false),(90,false),(89,false),(44,false),(38,false),(33,false),(31,false),(29,false)]⟩,[⟨false,2,501,0,0⟩,⟨false,2,502,0,0⟩,⟨false,2,503,0,0⟩,⟨false,2,504,0,0⟩,⟨false,2,505,0,0⟩]⟩,⟨3000039,1,⟨[aa 165 95,aa 18 93,aa 151 92,aa 17 85,al 16 11 11 0,aa 15 73,al 14 5 5 0,aa 13 64,aa 114 53,aa 100 46,aa 93 47,aa 89 48,aa 83 49,aa 71 50,aa 12 45,aa 54 44,aa 11 41,aa 10 42,aa 48 38,aa 9 36,bi 8 4 4,aa 36 33,aa 30 31,aa 7 27,al 6 3 3 0,al 5 2 2 0,al 4 1 1 0,al 3 0 0 0,(0,.p true [.d 0,.d 1,.d 2,.d 3,.d 4,.d 5,.d 6,.d 7]),(1,.p true [.d 8,.d 9,.d 10,.d 11,.d 12,.d 13,.d 14,.d 15]),(2,.p true [.d 16,.d 17,.d 18,.d 19,.d 20,.d 21,.d 22,.d 23])],[(0,.var 0 28 [.d 0,.d 1,.d 2,.d 3,.d 4,.d 5,.d 6,.d 7]),(1,.var 1 28 [.d 8,.d 9,.d 10,.d 11,.d 12,.d 13,.d 14,.d 15]),(2,.var 2 28 [.d 54,.d 55,.d 56,.d 57,.d 58,.d 59,.d 60,.d 61]),(3,.var 3 28 [.d 24,.nil,.nil,.nil,.nil,.nil,.d 25,.d 26]),(4,.row 4 3 1 35),(5,.var 5 28 [.d 96,.own 12 12,.own 13 13,.own 14 14,.own 15 15,.own 16 16,.d 102,.d 103]),(16,.row 16 9 1 101),(15,.row 15 9 1 100),(14,.row 14 9 1 104),(13,.row 13 28 8 98),(12,.row 12 42 3 97),(11,.var 11 28 [.d 77,.own 6 6,.own 7 7,.own 8 8,.own 9 9,.own 10 10,.d 83,.d 84]),(10,.row 10 9 1 82),(9,.row 9 9 1 81),(8,.row 8 9 1 80),(7,.row 7 28 8 79),(6,.row 6 42 3 78)],17,17,105,[(95,false),(92,false),(90,false),(89,false),(44,false),(38,false),(33,false),(31,false),(29,false)]⟩,[⟨false,2,501,0,0⟩,⟨false,2,502,0,0⟩,⟨false,2,503,0,0⟩,⟨false,2,504,0,0⟩,⟨false,2,505,0,0⟩]⟩,⟨36,1,⟨[aa 165 95,aa 18 93,aa 151 92,aa 17 85,al 16 16 16 0,aa 15 73,al 14 10 10 0,aa 13 64,aa 114 53,aa 100 46,aa 93 47,aa 89 48,aa 83 49,aa 71 50,aa 12 45,aa 54 44,aa 11 41,aa 10 42,aa 48 38,aa 9 36,bi 8 4 4,aa 36 33,aa 30 31,aa 7 27,al 6 3 3 0,al 5 2 2 0,al 4 1 1 0,al 3 0 0 0,(0,.p true [.d 0,.d 1,.d 2,.d 3,.d 4,.d 5,.d 6,.d 7]),(1,.p true [.d 8,.d 9,.d 10,.d 11,.d 12,.d 13,.d 14,.d 15]),(2,.p true [.d 16,.d 17,.d 18,.d 19,.d 20,.d 21,.d 22,.d 23])],[(0,.var 0 28 [.d 0,.d 1,.d 2,.d 3,.d 4,.d 5,.d 6,.d 7]),(1,.var 1 28 [.d 8,.d 9,.d 10,.d 11,.d 12,.d 13,.d 14,.d 15]),(2,.var 2 28 [.d 54,.d 55,.d 56,.d 57,.d 58,.d 59,.d 60,.d 61]),(3,.var 3 28 [.d 24,.nil,.nil,.nil,.nil,.nil,.d 25,.d 26]),(4,.row 4 3 1 35),(10,.var 10 28 [.d 65,.own 5 5,.own 6 6,.own 7 7,.own 8 8,.own 9 9,.d 71,.d 72]),(9,.row 9 9 1 70),(8,.row 8 9 1 69),(7,.row 7 9 1 94),(6,.row 6 28 8 67),(5,.row 5 42 3 66),(16,.var 16 28 [.d 77,.own 11 11,.own 12 12,.own 13 13,.own 14 14,.own 15 15,.d 83,.d 84]),(15,.row 15 9 1 82),(14,.row 14 9 1 81),(13,.row 13 9 1 80),(12,.row 12 28 8 79),(11,.row 11 42 3 78)],17,17,96,[(92,false),(90,false),(89,false),(44,false),(38,false),(33,false),(31,false),(29,false)]⟩,[]⟩,⟨3000036,1,⟨[aa 18 93,aa 151 92,aa 17 85,al 16 16 16 0,aa 15 73,al 14 10 10 0,aa 13 64,aa 114 53,aa 100 46,aa 93 47,aa 89 48,aa 83 49,aa 71 50,aa 12 45,aa 54 44,aa 11 41,aa 10 42,aa 48 38,aa 9 36,bi 8 4 4,aa 36 33,aa 30 31,aa 7 27,al 6 3 3 0,al 5 2 2 0,al 4 1 1 0,al 3 0 0 0,(0,.p true [.d 0,.d 1,.d 2,.d 3,.d 4,.d 5,.d 6,.d 7]),(1,.p true [.d 8,.d 9,.d 10,.d 11,.d 12,.d 13,.d 14,.d 15]),(2,.p true [.d 16,.d 17,.d 18,.d 19,.d 20,.d 21,.d 22,.d 23])],[(0,.var 0 28 [.d 0,.d 1,.d 2,.d 3,.d 4,.d 5,.d 6,.d 7]),(1,.var 1 28 [.d 8,.d 9,.d 10,.d 11,.d 12,.d 13,.d 14,.d 15]),(2,.var 2 28 [.d 54,.d 55,.d 56,.d 57,.d 58,.d 59,.d 60,.d 61]),(3,.var 3 28 [.d 24,.nil,.nil,.nil,.nil,.nil,.d 25,.d 26]),(4,.row 4 3 1 35),(10,.var 10 28 [.d 65,.own 5 5,.own 6 6,.own 7 7,.own 8 8,.own 9 9,.d 71,.d 72]),(9,.row 9 9 1 70),(8,.row 8 9 1 69),(7,.row 7 9 1 94),(6,.row 6 28 8 67),(5,.row 5 42 3 66),(16,.var 16 28 [.d 77,.own 11 11,.own 12 12,.own 13 13,.own 14 14,.own 15 15,.d 83,.d 84]),(15,.row 15 9 1 82),(14,.row 14 9 1 81),(13,.row 13 9 1 80),(12,.row 12 28 8 79),(11,.row 11 42 3 78)],17,17,95,[(92,false),(90,false),(89,false),(44,false),(38,false),(33,false),(31,false),(29,false)]⟩,[⟨false,2,501,0,0⟩,⟨false,2,502,0,0⟩,⟨false,2,503,0,0⟩,⟨false,2,504,0,0⟩,⟨false,2,505,0,0⟩]⟩,⟨1000027,8,⟨[aa 114 53,aa 100 46,aa 93 47,aa 89 48,aa 83 49,aa 71 50,aa 12 45,aa 54 44,aa 11 41,aa 10 42,aa 48 38,aa 9 36,bi 8 4 4,aa 36 33,aa 30 31,aa 7 27,al 6 3 3 0,al 5 2 2 0,al 4 1 1 0,al 3 0 0 0,(0,.p true [.d 0,.d 1,.d 2,.d 3,.d 4,.d 5,.d 6,.d 7]),(1,.p true [.d 8,.d 9,.d 10,.d 11,.d 12,.d 13,.d 14,.d 15]),(2,.p true [.d 16,.d 17,.d 18,.d 19,.d 20,.d 21,.d 22,.d 23])],[(0,.var 0 28 [.d 0,.d 1,.d 2,.d 3,.d 4,.d 5,.d 6,.d 7]),(1,.var 1 28 [.d 8,.d 9,.d 10,.d 11,.d 12,.d 13,.d 14,.d 15]),(2,.var 2 28 [.d 54,.d 55,.d 56,.d 57,.d 58,.d 59,.d 60,.d 61]),(3,.var 3 28 [.d 24,.nil,.nil,.nil,.nil,.nil,.d 25,.d 26]),(4,.row 4 3 1 35)],5,5,62,[(44,false),(38,false),(33,false),(31,false),(29,false)]⟩,[⟨false,2,501,0,0⟩,⟨false,2,502,0,0⟩,⟨false,2,503,0,0⟩,⟨false,2,504,0,0⟩,⟨false,2,505,0,0⟩]⟩,⟨2000002,5,⟨[aa 100 46,aa 93 47,aa 89 48,aa 83 49,aa 71 50,aa 12 45,aa 54 44,aa 11 41,aa 10 42,aa 48 38,aa 9 36,bi 8 4 4,aa 36 33,aa 30 31,aa 7 27,al 6 3 3 0,al 5 2 2 0,al 4 1 1 0,al 3 0 0 0,(0,.p true [.d 0,.d 1,.d 2,.d 3,.d 4,.d 5,.d 6,.d 7]),(1,.p true [.d 8,.d 9,.d 10,.d 11,.d 12,.d 13,.d 14,.d 15]),(2,.p true [.d 16,.d 17,.d 18,.d 19,.d 20,.d 21,.d 22,.d 23])],[(0,.var 0 28 [.d 0,.d 1,.d 2,.d 3,.d 4,.d 5,.d 6,.d 7]),(1,.var 1 28 [.d 8,.d 9,.d 10,.d 11,.d 12,.d 13,.d 14,.d 15]),(2,.var 2 28 [.d 16,.d 17,.d 18,.d 19,.d 20,.d 21,.d 22,.d 23]),(3,.var 3 28 [.d 24,.nil,.nil,.nil,.nil,.nil,.d 25,.d 26]),(4,.row 4 3 1 35)],5,5,51,[(44,false),(38,false),(33,false),(31,false),(29,false)]⟩,[]⟩,⟨16,1,⟨[aa 71 46,aa 12 45,aa 54 44,aa 11 41,aa 10 42,aa 48 38,aa 9 36,bi 8 4 4,aa 36 33,aa 30 31,aa 7 27,al 6 3 3 0,al 5 2 2 0,al 4 1 1 0,al 3 0 0 0,(0,.p true [.d 0,.d 1,.d 2,.d 3,.d 4,.d 5,.d 6,.d 7]),(1,.p true [.d 8,.d 9,.d 10,.d 11,.d 12,.d 13,.d 14,.d 15]),(2,.p true [.d 16,.d 17,.d 18,.d 19,.d 20,.d 21,.d 22,.d 23])],[(0,.var 0 28 [.d 0,.d 1,.d 2,.d 3,.d 4,.d 5,.d 6,.d 7]),(1,.var 1 28 [.d 8,.d 9,.d 10,.d 11,.d 12,.d 13,.d 14,.d 15]),(2,.var 2 28 [.d 16,.d 17,.d 18,.d 19,.d 20,.d 21,.d 22,.d 23]),(3,.var 3 28 [.d 24,.nil,.nil,.nil,.nil,.nil,.d 25,.d 26]),(4,.row 4 3 1 35)],5,5,47,[(44,false),(38,false),(33,false),(31,false),(29,false)]⟩,[]⟩,⟨3000010,2,⟨[aa 11 41,aa 10 42,aa 48 38,aa 9 36,bi 8 4 4,aa 36 33,aa 30 31,aa 7 27,al 6 3 3 0,al 5 2 2 0,al 4 1 1 0,al 3 0 0 0,(0,.p true [.d 0,.d 1,.d 2,.d 3,.d 4,.d 5,.d 6,.d 7]),(1,.p true [.d 8,.d 9,.d 10,.d 11,.d 12,.d 13,.d 14,.d 15]),(2,.p true [.d 16,.d 17,.d 18,.d 19,.d 20,.d 21,.d 22,.d 23])],[(0,.var 0 28 [.d 0,.d 1,.d 2,.d 3,.d 4,.d 5,.d 6,.d 7]),(1,.var 1 28 [.d 8,.d 9,.d 10,.d 11,.d 12,.d 13,.d 14,.d 15]),(2,.var 2 28 [.d 16,.d 17,.d 18,.d 19,.d 20,.d 21,.d 22,.d 23]),(3,.var 3 28 [.d 24,.nil,.nil,.nil,.nil,.nil,.d 25,.d 26]),(4,.row 4 3 1 35)],5,5,43,[(38,false),(33,false),(31,false),(29,false)]⟩,[]⟩]
def nw:List (Nat×Nat×Bool×List Nat):=[(49,10,false,[]),(47,11,false,[]),(46,12,false,[]),(36,11,false,[]),(5,11,false,[])]
def br:UP:=.ite 0 (.cl 27 [(true,[11,10,9,8,7,6,5,4]),(false,[2])] cb<|.s #[]<|.c 8<|.c 2<|.c 1<|.c 0<|.ret [(true,[8,7,6,5,4,3,2,1]),(false,[0])])<|.l 2<|.i 0<|.e 1 0<|.ite 0 (.sel [7,8,9,10,11,12,13,14]<|.cl 28 [(true,[7,6,5,4,3,2,1,0])] cb<|.s #[]<|.c 8<|.c 2<|.c 1<|.c 0<|.ret [(true,[8,7,6,5,4,3,2,1]),(false,[0])])<|.i 0<|.e 5 0<|.ite 0 (.i 0<|.i 0<|.i 0<|.s #[114,101,112,108,97,99,101,109,101,110,116,32,104,97,115,32,108,101,110,103,116,104,32,122,101,114,111]<|.c 3<|.po (.e 42 3)<|.po (.e 28 8)<|.po (.e 9 1)<|.po (.e 9 1)<|.po (.e 9 1)<|.c 7<|.c 6<|.c 5<|.ret [(true,[8,4,3,2,1,0,7,6]),(false,[5])])<|.l 7<|.b .rem 0 7<|.i 0<|.b .neq 1 0<|.ite 0 (.i 0<|.i 0<|.i 0<|.s #[108,101,110,103,116,104,115,32,100,111,32,110,111,116,32,109,97,116,99,104]<|.c 3<|.po (.e 42 3)<|.po (.e 28 8)<|.po (.e 9 1)<|.po (.e 9 1)<|.po (.e 9 1)<|.c 7<|.c 6<|.c 5<|.ret [(true,[8,4,3,2,1,0,7,6]),(false,[5])])<|.l 15<|.i 0<|.b .gtr 1 0<|.ite 0 (.i 4<|.b .geq 16 0<|.ite 0 (.i 0<|.i 0<|.i 0<|.s #[110,111,116,32,97,110,32,97,116,111,109,105,99,32,118,101,99,116,111,114]<|.c 3<|.po (.e 42 3)<|.po (.e 28 8)<|.po (.e 9 1)<|.po (.e 9 1)<|.po (.e 9 1)<|.c 7<|.c 6<|.c 5<|.ret [(true,[8,4,3,2,1,0,7,6]),(false,[5])])<|.jump 1 [0,5,9,11,14])<|.f<|.jump 1 [0,4,8,10,13]
def ft:UP:=.i 3<|.e 4 0<|.ite 0 (.l 2<|.b .lss 0 5<|.ite 0 (.s #[]<|.c 0<|.po (.mk 9 1 [[0]])<|.po (.flat 0)<|.po (.app 9 1 16 6 0)<|.jump 3 [0])<|.jump 2 [0,4])<|.f<|.jump 2 [0,3]
def bx:UP:=.i 3<|.e 14 0<|.ite 0 (.b .geq 5 10<|.ite 0 (.z 10<|.x 3 15 10<|.c 0<|.z 9<|.po (.chk 1 12 9)<|.c 0<|.po (.set 1 12 9 0 [0])<|.jump 3 [4,9,10,0,8,7])<|.jump 3 [0,5,6,9,4,3])<|.f<|.jump 3 [0,5,6,9,4,3]
def bu:UP:=.i 1<|.a 10 0<|.jump 2 [0,4,3,2]
def fA:UP:=.l 19<|.b .lss 4 0<|.ite 0 (.sel [2,3,4,5,15,16,17,18,19,21,22,23]<|.join 6 bu<|.z 3<|.po (.chk 1 9 3)<|.x 1 9 3<|.i 1<|.b .sub 1 0<|.i 4<|.e 11 0<|.sel [0,2,5,6,7,8,9,10,11,13,15,16]<|.join 2 bx<|.ite 0 (.b .rem 5 9<|.c 0<|.z 0<|.po (.chk 8 8 0)<|.x 8 8 0<|.sel [0,1,2,3,4,5,6,7,10,11,12]<|.cl 28 [(true,[7,6,5,4,3,2,1,0])] cb<|.z 16<|.po (.chk 8 18 16)<|.c 7<|.c 1<|.c 0<|.po (.set 8 18 16 0 [7,6,5,4,3,2,1,0])<|.jump 4 [0,18])<|.b .rem 5 9<|.c 0<|.z 0<|.po (.chk 3 9 0)<|.x 3 9 0<|.c 2<|.c 1<|.c 0<|.z 5<|.po (.chk 3 6 5)<|.c 2<|.c 1<|.c 0<|.po (.set 3 6 5 0 [2,1,0])<|.jump 4 [8,0])<|.po (.mk 9 1 [])<|.po (.flat 26)<|.po (.app 9 1 16 0 26)<|.po (.mk 9 1 [])<|.po (.flat 27)<|.po (.app 9 1 16 0 27)<|.c 18<|.c 14<|.c 13<|.sel [0,2,6,7,8,13,14,18]<|.cl 5000034 [(true,[7,2,3,4,1,0,6,5])] cb<|.c 7<|.c 1<|.c 0<|.sel [0,1,2,3,4,5,6,7]<|.cl 5000033 [(true,[7,6,5,4,3,2,1,0])] fX<|.i 0<|.i 0<|.i 0<|.c 11<|.c 5<|.c 4<|.c 3<|.ret [(true,[11,10,9,8,7,6,5,4]),(false,[3])]
def fB:UP:=.i 0<|.loop [0,1,6,7] fA
def dG:UP:=.ite 0 (.s #[]<|.c 0<|.po (.mk 9 1 [[0]])<|.po (.flat 0)<|.po (.app 9 1 16 3 0)<|.jump 1 [0])<|.c 12<|.c 6<|.c 5<|.cl 5000032 [(true,[12,11,10,1,8,7,6,5]),(false,[15])] cb<|.sel [0,1,4,5,6,7,10,11,12,21,22,23,24,25,26,27,28]<|.join 2 fB<|.sel [2,11,14]<|.loop [0] ft
def fK:UP:=.join 1 dG<|.c 17<|.i 3<|.e 18 0<|.c 0<|.ite 0 (.l 2<|.c 0<|.c 14<|.c 8<|.c 7<|.sel [0,3,7,8,9,10,12,13,14]<|.cl 26 [(true,[8,7,6,1,5,4,3,2])] aD<|.b .lss 1 0<|.c 0<|.c 0<|.jump 2 [0])<|.f<|.c 0<|.jump 2 [0]
def fj:UP:=.po (.mm true 29 7)<|.i 4<|.po (.mm false 0 1)<|.sel [0,3,4,5,6,7,8,9,10,12,13,14,23,24,25,26,27,28,29,30,31,32]<|.cl 31 [(true,[21,20,19,18,17,16,15,14]),(false,[0])] fX<|.i 0<|.i 0<|.i 0<|.cl 31 [(true,[20,19,18,17,16,15,14,13]),(false,[12])] fX<|.i 0<|.i 0<|.i 0<|.n 15<|.ite 0 (.t<|.t<|.i 0<|.i 0<|.i 0<|.s #[114,101,115,117,108,116,32,105,115,32,116,111,111,32,108,97,114,103,101]<|.c 3<|.po (.e 42 3)<|.po (.e 28 8)<|.po (.e 9 1)<|.po (.e 9 1)<|.po (.e 9 1)<|.c 7<|.c 6<|.c 5<|.ret [(true,[8,4,3,2,1,0,7,6]),(false,[5])])<|.n 4<|.ite 0 (.t<|.i 0<|.i 0<|.i 0<|.s #[114,101,115,117,108,116,32,105,115,32,116,111,111,32,108,97,114,103,101]<|.c 3<|.po (.e 42 3)<|.po (.e 28 8)<|.po (.e 9 1)<|.po (.e 9 1)<|.po (.e 9 1)<|.c 7<|.c 6<|.c 5<|.ret [(true,[8,4,3,2,1,0,7,6]),(false,[5])])<|.i 40<|.b .gtr 37 0<|.ite 0 (.i 0<|.i 0<|.i 0<|.s #[114,101,115,117,108,116,32,105,115,32,116,111,111,32,108,97,114,103,101]<|.c 3<|.po (.e 42 3)<|.po (.e 28 8)<|.po (.e 9 1)<|.po (.e 9 1)<|.po (.e 9 1)<|.c 7<|.c 6<|.c 5<|.ret [(true,[8,4,3,2,1,0,7,6]),(false,[5])])<|.sel [13,14,20,21,22,23,24,25,26,27,28,37,38,39,40,41,42,43,44,45,46,47,48,49]<|.cl 26 [(true,[23,22,21,20,19,18,17,16])] aD<|.sel [0,1,2,3,4,5,6,7,8,9,10,11,12,13,14,15,16,19,20]<|.loop [7] fK
def bs:UP:=.l 20<|.i 0<|.b .gtr 1 0<|.sel [0,8,9,10,11,12,13,14,15,16,17,18,19,20,21,22,23,24,25,26,27,28]<|.join 8 fj<|.ite 0 (.sel [4,5,6,7,8,9,10,11,16]<|.cl 29 [(true,[7,6,5,4,3,2,1,0]),(false,[8])] cb<|.jump 1 [7,6,5,4,3,2,1,0])<|.i 4<|.b .lss 12 0<|.ite 0 (.sel [6,7,8,9,10,11,12,13]<|.cl 30 [(true,[7,6,5,4,3,2,1,0])] cb<|.jump 1 [7,6,5,4,3,2,1,0])<|.jump 1 [13,12,11,10,9,8,7,6]
def fe:UP:=.l 4<|.b .lss 2 0<|.ite 0 (.z 3<|.po (.chk 1 6 3)<|.x 1 6 3<|.i 0<|.e 1 0<|.ite 0 (.i 0<|.i 0<|.i 0<|.s #[109,105,115,115,105,110,103,32,115,117,98,115,99,114,105,112,116]<|.c 3<|.po (.e 42 3)<|.po (.e 28 8)<|.po (.e 9 1)<|.po (.e 9 1)<|.po (.e 9 1)<|.c 7<|.c 6<|.c 5<|.ret [(true,[8,4,3,2,1,0,7,6]),(false,[5])])<|.z 6<|.po (.chk 1 9 6)<|.x 1 9 6<|.po (.mm true 6 0)<|.i 1<|.a 9 0<|.jump 0 [0,2])<|.sel [2,6,7,8,9,10,11,12,13,14,15,16,17,18,19,20,21,22,23,24]<|.cl 26 [(true,[9,8,7,6,5,4,3,2])] aD<|.join 5 bs<|.sel [0,2,10,13,14,15,16,17,18,19,20]<|.join 1 br<|.i 4<|.e 11 0<|.ite 0 (.i 0<|.e 5 0<|.jump 2 [0])<|.f<|.jump 2 [0]
def bM:UP:=.i 0<|.i 0<|.i 0<|.s #[]<|.sel [4,5,6,7,8,9,10,11,12,13,14,15,16,17,18,19,20,21,22,23,24,25,26,27]<|.cl 24 [(true,[23,22,21,20,19,18,17,16])] aD<|.n 0<|.ite 0 (.t<|.sel []<|.cl 25 [] fX<|.c 8<|.c 2<|.c 1<|.c 0<|.ret [(true,[8,7,6,5,4,3,2,1]),(false,[0])])<|.cl 24 [(true,[9,8,7,6,5,4,3,2])] aD<|.n 0<|.ite 0 (.sel []<|.cl 25 [] fX<|.c 8<|.c 2<|.c 1<|.c 0<|.ret [(true,[8,7,6,5,4,3,2,1]),(false,[0])])<|.i 5<|.e 28 0<|.ite 0 (.i 0<|.i 0<|.i 0<|.s #[110,111,116,32,97,32,118,101,99,116,111,114,32,111,102,32,101,108,101,109,101,110,116,115]<|.c 3<|.po (.e 42 3)<|.po (.e 28 8)<|.po (.e 9 1)<|.po (.e 9 1)<|.po (.e 9 1)<|.c 7<|.c 6<|.c 5<|.ret [(true,[8,4,3,2,1,0,7,6]),(false,[5])])<|.sel [6,7,8,9,10,11,12,13,14,15,16,17,18,19,20,21,22,23,24,25,26,27,28,29]<|.cl 26 [(true,[23,22,21,20,19,18,17,16])] aD<|.cl 9 [(false,[0]),(false,[21]),(true,[16,15,14,13,12,11,10,9])] rV<|.c 0<|.s #[]<|.b .neq 1 0<|.ite 0 (.i 0<|.i 0<|.i 0<|.c 2<|.po (.e 42 3)<|.po (.e 28 8)<|.po (.e 9 1)<|.po (.e 9 1)<|.po (.e 9 1)<|.c 6<|.c 5<|.c 10<|.ret [(true,[7,4,3,2,1,0,6,5]),(false,[10])])<|.i 0<|.i 0<|.sel [0,1,5,7,8,9,10,11,12,13,14,21,22,23,24,25,26,27,28,29,30]<|.loop [0,1] fe
theorem cj:aR Try.prog 7 Try.f7 cV ny nw=some ([(true,8),(true,8),(true,8)],bM):=by kernel_rfl
theorem RL{t k:Nat}{l:List ByteArray}:mE (some (.sl t k (l.map bQ)))=some []:=mg λx=>rfl
set_option maxHeartbeats 8000000 in
theorem Tb(v s w:aX)(hw:ck v<=1000000000)(hws:ck s<=1000000000)(hww:ck w<=1000000000):aI Try.prog 7 [(true,aj v),(true,aj s),(true,aj w)] [(true,aj (AI v s w).1,true),(false,[.sc (.string (AI v s w).2)],true)]:=by
 have h1:=eN v hw;have h2:=eN w hww;have h0:=KV
 have hF:∀F,F=AI v s w->aI Try.prog 7 [(true,aj v),(true,aj s),(true,aj w)] [(true,aj F.1,true),(false,[.sc (.string F.2)],true)]:=by
  intro F hF;unfold AI at hF;obtain⟨k,its,ps,ns,cl,lv,c,e⟩:=v;obtain⟨k2,its2,ps2,ns2,cl2,lv2,c2,e2⟩:=s;obtain⟨k3,its3,ps3,ns3,cl3,lv3,c3,e3⟩:=w;cases hv:cd (.mk k its ps ns cl lv c e)
  ·rw[hv]at h1;rw[if_neg (by simp[hv])]at hF;subst hF;simp only[aj,af,av,fV]at h1 h0 ⊢;refine ah Try.func7 cj rfl ?_;simp only[bM]
   repeat' (first|(with_reducible first|refine ac ?_|refine ab ‹_› rfl ?_|refine ai (λhbr=>?_) λhbr=>?_)|simp(disch:=first|omega|(simp only[aq];omega)|simp only[ap,Nat.reduceAdd]) only[go_sem,true_and])
   all_goals rfl
  rw[hv]at h1;cases hv3:cd (.mk k3 its3 ps3 ns3 cl3 lv3 c3 e3)
  ·rw[hv3]at h2;rw[if_neg (by simp[hv3])]at hF;subst hF;simp only[aj,af,av,fV]at h1 h2 h0 ⊢;refine ah Try.func7 cj rfl ?_;simp only[bM]
   repeat' (first|(with_reducible first|refine ac ?_|refine ab ‹_› rfl ?_|refine ai (λhbr=>?_) λhbr=>?_)|simp(disch:=first|omega|(simp only[aq];omega)|simp only[ap,Nat.reduceAdd]) only[go_sem,true_and])
   all_goals rfl
  rw[hv3]at h2;rw[if_pos ⟨hv,hv3⟩]at hF;have h:=vw hv;have hh:=vw hv3;have hk0:=h.k0;have hk5:=h.k5;rw[show lY (.mk k its ps ns cl lv c e)=k from rfl,show zk (.mk k its ps ns cl lv c e)=ns from rfl,show rt (.mk k its ps ns cl lv c e)=its.length+ps.length from rfl,show lY (.mk k3 its3 ps3 ns3 cl3 lv3 c3 e3)=k3 from rfl,show MZ (.mk k its ps ns cl lv c e)=lv from rfl]at hF;by_cases h5:k=5
  ·rw[if_pos h5]at hF;subst hF;simp only[aj,af,av,fV]at h1 h2 ⊢;refine ah Try.func7 cj rfl ?_;simp only[bM]
   repeat' (first|(with_reducible first|refine ac ?_|refine ab ‹_› rfl ?_|refine ai (λhbr=>?_) λhbr=>?_)|simp(disch:=first|omega|(simp only[aq];omega)|simp only[ap,Nat.reduceAdd]) only[go_sem,true_and])
   all_goals first|omega|rfl
  rw[if_neg h5]at hF;have h40:=h.l40;have hnmn:=h.nmn;have g1:=gX k its ps ns cl lv c e (rU hw);have hn1:dX k its.length ps.length=((its.length+ps.length:Nat):Int):=by unfold dX;rw[if_neg (by omega)];omega
  rw[hn1]at g1;have g2:=Fm (its.length+ps.length) ns h40 hnmn hws;have hr:=oz (names:=ns) h40 (by rcases hnmn with e|e<;>simp[e]) (.mk k2 its2 ps2 ns2 cl2 lv2 c2 e2);have hdel:=λ(hk:1<=k/\k<=4) l hl=>Q3 (ek hv) hw hk l hl
  have hcp:=zU _ hw (lz (ek hv)) (lT (ek hv));have g3:=gX k3 its3 ps3 ns3 cl3 lv3 c3 e3 (rU hww);have hm1:dX k3 its3.length ps3.length=((fN (.mk k3 its3 ps3 ns3 cl3 lv3 c3 e3):Nat):Int):=by have:=qZ k3 its3.length ps3.length;simp only[fN];omega
  rw[hm1]at g3;have hvc3:=λhl=>H0 (L:=lv) h.l20 hh hl
  have hln3:=F8 (L:=lv) hh;have hk3:=hh.k1;have had:Rl (.mk k its ps ns cl lv c e) (.mk k3 its3 ps3 ns3 cl3 lv3 c3 e3)=D4 lv (.mk k3 its3 ps3 ns3 cl3 lv3 c3 e3):=rfl;rw[had]at hF;generalize fN (.mk k3 its3 ps3 ns3 cl3 lv3 c3 e3)=m at *;generalize hR:dw (its.length+ps.length) ns (.mk k2 its2 ps2 ns2 cl2 lv2 c2 e2)=R at g2 hr hF;obtain⟨l,msg⟩:=R;simp only at g2 hr hF;clear hn1 hm1;obtain⟨hr1,hr2⟩:=hr;have hl0:¬l.length=0->l≠[]:=λhh e=>hh (by rw[e];rfl)
  have hl1:l.length=0->l=[]:=List.eq_nil_of_length_eq_zero;by_cases hm:msg=eW;rotate_left
  ·rw[if_pos hm]at hF;subst hF;simp only[aj,af,av,fV,eW]at h1 h2 g1 g2 hm ⊢;refine ah Try.func7 cj rfl ?_;simp only[bM]
   repeat' (first|(with_reducible first|refine ac ?_|refine ab ‹_› rfl ?_|refine ai (λhbr=>?_) λhbr=>?_)|simp(disch:=first|omega|(simp only[aq];omega)|simp only[ap,Nat.reduceAdd]) only[go_sem,true_and])
   all_goals first|omega|contradiction|rfl|(trace_state;sorry)
  subst hm;rw[if_neg (by simp)]at hF;simp only[aj,af,av,fV,eW,bC]at h1 h2 g1 g2 g3 ⊢;refine ah Try.func7 cj rfl ?_;simp only[bM]
  repeat' (first|(with_reducible first|refine ac ?_|refine ab ‹_› rfl ?_|refine ai (λhbr=>?_) λhbr=>?_)|simp(disch:=first|omega|(simp only[aq];omega)|simp only[ap,Nat.reduceAdd]) only[go_sem,true_and])
  all_goals first|omega|contradiction|skip
  refine lp (λi:Nat=>[.sc (.int .i64 i),.sc (.int .i64 (ru (l.take i)))]) (λi=>i<=l.length/\∀j,j<i->l.getD j default≠0) (λi=>l.length-i) 0 rfl ⟨Nat.zero_le _,λj hj=>by omega⟩ ?_;rintro i ⟨hi,hnz⟩;simp only[fe];by_cases hlt:i<l.length
  ·have hz:=sC (t:=3) (l:=l) (kd:=.i64) (z:=(i:Int)) (by omega) (by omega);rw[Int.toNat_natCast]at hz;have hmx:=Cq hlt;have hmem:=aG hlt
   have hnz':l.getD i default≠0->∀j,j<i+1->l.getD j default≠0:=λhp j hj=>by
    by_cases e:j=i
    ·rw[e];exact hp
    ·exact hnz j (by omega)
   generalize l.getD i default=p at hz hmx hmem hnz';by_cases hp:p=0
   ·rw[if_pos (by rw[<-hp];exact hmem)]at hF;subst hF;simp only[aj,af,av,fV,eW]
    repeat' (first|(with_reducible first|refine ac ?_|refine ab ‹_› rfl ?_|refine ai (λhbr=>?_) λhbr=>?_)|simp(disch:=first|omega|(simp only[aq];omega)|simp only[ap,Nat.reduceAdd]) only[go_sem,hz])
    all_goals first|omega|contradiction|rfl|(trace_state;sorry)
   ·repeat' (first|(with_reducible first|refine ac ?_|refine ab ‹_› rfl ?_|refine ai (λhbr=>?_) λhbr=>?_)|simp(disch:=first|omega|(simp only[aq];omega)|simp only[ap,Nat.reduceAdd]) only[go_sem,hz])
    all_goals first|omega|contradiction|exact⟨i+1,by rw[hmx],⟨by omega,hnz' hp⟩,by omega⟩|(trace_state;sorry)
  ·obtain rfl:i=l.length:=by omega
   rw[List.take_length];have hnin:=yZ hnz rfl;rw[if_neg hnin]at hF;clear hnz hlt;have htm:(l.length:Int).tmod (m:Int)=((l.length % m:Nat):Int):=rfl;by_cases cA:k=4/\k3=0
   ·rw[if_pos cA]at hF;have hd:=hdel (by omega) l (by omega);generalize Bf (.mk k its ps ns cl lv c e) l=D at hd hF;obtain⟨K,I,PS,N,CL,LV,C,E⟩:=D;subst hF;simp only[aj,af,av,bC,eW]at hd ⊢
    repeat' (first|(with_reducible first|refine ac ?_|refine ab ‹_› rfl ?_|refine ai (λhbr=>?_) λhbr=>?_)|simp(disch:=first|omega|(simp only[aq];omega)|simp only[ap,Nat.reduceAdd]) only[go_sem,br,bs])
    all_goals first|omega|rfl|(trace_state;sorry)
   rw[if_neg cA]at hF;by_cases cB:l=[]
   ·rw[if_pos cB]at hF;subst hF;have hl2:l.length=0:=by rw[cB];rfl
    simp only[aj,af,av,eW]at hcp ⊢
    repeat' (first|(with_reducible first|refine ac ?_|refine ab ‹_› rfl ?_|refine ai (λhbr=>?_) λhbr=>?_)|simp(disch:=first|omega|(simp only[aq];omega)|simp only[ap,Nat.reduceAdd]) only[go_sem,br,bs])
    all_goals first|omega|rfl|(trace_state;sorry)
   rw[if_neg cB]at hF;have hl2:¬l.length=0:=λhh=>cB (hl1 hh)
   by_cases cC:m=0
   ·rw[if_pos cC]at hF;subst hF;simp only[aj,af,av,fV,OC]
    repeat' (first|(with_reducible first|refine ac ?_|refine ab ‹_› rfl ?_|refine ai (λhbr=>?_) λhbr=>?_)|simp(disch:=first|omega|(simp only[aq];omega)|simp only[ap,Nat.reduceAdd]) only[go_sem,br,bs])
    all_goals first|omega|rfl|(trace_state;sorry)
   rw[if_neg cC]at hF;by_cases cD:l.length % m≠0
   ·rw[if_pos cD]at hF;subst hF;simp only[aj,af,av,fV,QA]
    repeat' (first|(with_reducible first|refine ac ?_|refine ab ‹_› rfl ?_|refine ai (λhbr=>?_) λhbr=>?_)|simp(disch:=first|omega|(simp only[aq];omega)|simp only[ap,Nat.reduceAdd]) only[go_sem,htm,br,bs])
    all_goals first|omega|rfl|(trace_state;sorry)
   rw[if_neg cD]at hF;have hlv0:lv.length=0->lv=[]:=List.eq_nil_of_length_eq_zero;have hlv1:lv=[]->lv.length=0:=λe=>by rw[e];rfl
   by_cases cE:lv≠[]/\4<=k3
   ·rw[if_pos cE]at hF;subst hF;have hlv2:¬lv.length=0:=λe=>cE.1 (hlv0 e)
    simp only[aj,af,av,fV,PD]
    repeat' (first|(with_reducible first|refine ac ?_|refine ab ‹_› rfl ?_|refine ai (λhbr=>?_) λhbr=>?_)|simp(disch:=first|omega|(simp only[aq];omega)|simp only[ap,Nat.reduceAdd]) only[go_sem,htm,br,bs])
    all_goals first|omega|rfl|(trace_state;sorry)
   rw[if_neg cE]at hF;have hW:=hvc3 cC cE;have hWl:=hln3 cE
   have gc1:lv≠[]->aI Try.prog 29 [(true,aj (.mk k3 its3 ps3 ns3 cl3 lv3 c3 e3)),(false,[av lv])] [(true,aj (D4 lv (.mk k3 its3 ps3 ns3 cl3 lv3 c3 e3)),true)]:=λhl=>by
    have h4:¬4<=k3:=λhh=>cE ⟨hl,hh⟩
    have hp:=hh.p0 (by omega);subst hp;rw[mf,if_pos hl,mn];exact Te hh.toVF hww (by omega) lv (by have:=h.l20;omega)
   have gc2:lv=[]->k3<4->aI Try.prog 30 [(true,aj (.mk k3 its3 ps3 ns3 cl3 lv3 c3 e3))] [(true,aj (D4 lv (.mk k3 its3 ps3 ns3 cl3 lv3 c3 e3)),true)]:=λhl h4=>by
    have hp:=hh.p0 (by omega);subst hp;rw[mf,if_neg (λhh=>hh hl),if_pos h4,mn];exact Oa hh.toVF hww
   have gc3:lv=[]->¬k3<4->D4 lv (.mk k3 its3 ps3 ns3 cl3 lv3 c3 e3)=.mk k3 its3 ps3 ns3 cl3 lv3 c3 e3:=λhl h4=>by
    rw[mf,if_neg (λhh=>hh hl),if_neg h4]
   clear hvc3 hln3 had;generalize D4 lv (.mk k3 its3 ps3 ns3 cl3 lv3 c3 e3)=W at hF hW hWl gc1 gc2 gc3;obtain⟨k',its',ps',ns',cl',lv',c',e'⟩:=W;have hH:=vw hW
   have hcE:4<=k3->lv.length=0:=λh4=>by
    by_cases hl:lv=[]
    ·exact hlv1 hl
    ·exact absurd ⟨hl,h4⟩ cE
   repeat' (first|(with_reducible first|refine ab ‹_› rfl ?_|refine ai (λhbr=>?_) λhbr=>?_)|simp(disch:=first|omega|(simp only[aq];omega)|simp only[ap,Nat.reduceAdd]) only[go_sem,true_and])
   all_goals first|omega|skip
   refine jn (λvs=>∃a b c d e:Bool,vs=[.sc (.bool a),.sc (.bool b),.sc (.bool c),.sc (.bool d),.sc (.bool e)]) ?_ ?_
   ·repeat' (first|(with_reducible first|refine ac ?_|refine ab ‹_› rfl ?_|refine ai (λhbr=>?_) λhbr=>?_)|simp(disch:=first|omega|(simp only[aq];omega)|simp only[ap,Nat.reduceAdd]) only[go_sem,htm,br])
    all_goals first|omega|exact⟨_,_,_,_,_,rfl⟩|(trace_state;sorry)
   rintro vs - ⟨z1,z2,z3,z4,z5,rfl⟩;simp only[bs];simp(disch:=first|omega|(simp only[aq];omega)|simp only[ap,Nat.reduceAdd]) only[go_sem,true_and];refine jn (λvs=>vs=aj (.mk k' its' ps' ns' cl' lv' c' e')) ?_ ?_
   ·by_cases hl:lv=[]
    ·by_cases h4:k3<4
     ·have gc2:=gc2 hl h4;have hll:=hlv1 hl;simp only[aj,af,av]at gc2 ⊢
      repeat' (first|(with_reducible first|refine ac ?_|refine ab ‹_› rfl ?_|refine ai (λhbr=>?_) λhbr=>?_)|simp(disch:=first|omega|(simp only[aq];omega)|simp only[ap,Nat.reduceAdd]) only[go_sem,true_and])
      all_goals first|omega|rfl|(trace_state;sorry)
     ·have gc3:=gc3 hl h4;have hll:=hlv1 hl;cases gc3;simp only[aj,af,av]
      repeat' (first|(with_reducible first|refine ac ?_|refine ab ‹_› rfl ?_|refine ai (λhbr=>?_) λhbr=>?_)|simp(disch:=first|omega|(simp only[aq];omega)|simp only[ap,Nat.reduceAdd]) only[go_sem,true_and])
      all_goals first|omega|rfl|(trace_state;sorry)
    ·have gc1:=gc1 hl;have hll:¬lv.length=0:=λhh=>hl (hlv0 hh)
     simp only[aj,af,av]at gc1 ⊢
     repeat' (first|(with_reducible first|refine ac ?_|refine ab ‹_› rfl ?_|refine ai (λhbr=>?_) λhbr=>?_)|simp(disch:=first|omega|(simp only[aq];omega)|simp only[ap,Nat.reduceAdd]) only[go_sem,true_and])
     all_goals first|omega|rfl|(trace_state;sorry)
   rintro vs-rfl;simp only[fj];have hk'1:=hH.k1 (by rw[hWl];exact cC);have hk'5:=hH.k5;have hln:fN (.mk k its ps ns cl lv c e)=its.length+ps.length:=by simp only[fN,dX];rw[if_neg h5];omega
   obtain⟨K,hK⟩:∃K,K=min 4 (max k k'):=⟨_,rfl⟩;have hKr:1<=K/\K<=4:=by omega
   have hv2:=BE h (m:=K) (.inl (by omega)) (by omega) (by omega) (λe=>absurd e h5);have hv4:=BE hH (m:=K) (by omega) (by omega) (by omega) (λe=>by omega);have q1:=NZ hv hw (m:=K) (.inl (by omega)) (by omega) (λe=>absurd e h5) hv2 (FZ h K);have q2:=NZ hW (by have:=hH.wt;omega) (m:=K) (by omega) (by omega) (λe=>by omega) hv4 (FZ hH K);obtain⟨xi,xp,ex,hX⟩:=wV h (m:=K) (λe=>absurd e h5) (.inl (by omega)) (by omega);obtain⟨yi,yp,ey,hY⟩:=wV hH (m:=K) (λe=>by omega) (by omega) (by omega);rw[ex]at q1 hv2;rw[ey]at q2 hv4;have hYv:=vw hv4;rw[hWl]at hY;rw[hln]at hX
   have hasn:D1 (.mk k its ps ns cl lv c e) l (.mk k2 its2 ps2 ns2 cl2 lv2 c2 e2) (.mk k' its' ps' ns' cl' lv' c' e')=L0 K l (max (its.length+ps.length) (ru l).toNat) (DU ns l (its.length+ps.length) (max (its.length+ps.length) (ru l).toNat) (decide (k2=3)) its2) cl lv (.mk K xi xp ns [] [] 0 0) (.mk K yi yp ns' [] [] 0 0):=by
    unfold D1;rw[show lY (.mk k its ps ns cl lv c e)=k from rfl,show lY (.mk k' its' ps' ns' cl' lv' c' e')=k' from rfl,<-hK,ex,ey];rfl
   unfold Fc at hF;rw[hasn]at hF;have hmn:=HY l;obtain⟨tp,htp⟩:=Int.eq_ofNat_of_zero_le hmn;have hge:=λp hp=>@yD l p hp
   rw[htp]at hF hge ⊢;by_cases cT:(tp:Int)<=40;rotate_left
   ·rw[if_neg cT]at hF;subst hF;simp only[aj,af,av,fV,MP]at q1 q2 ⊢
    repeat' (first|(with_reducible first|refine ac ?_|refine ab ‹_› rfl ?_|refine ai (λhbr=>?_) λhbr=>?_)|simp(disch:=first|omega|(simp only[aq];omega)|simp only[ap,Nat.reduceAdd]) only[go_sem,<-hK])
    all_goals first|omega|rfl|(trace_state;sorry)
   rw[if_pos cT]at hF;have hfin:=@CN k2 ns (its.length+ps.length) tp hnmn its2 l;rw[Int.toNat_natCast,<-hfin]at hF;have hn80:ns.length<=40:=by rcases hnmn with e|e<;>simp[e]<;>omega
   have hnx:(sN k2 ns (its.length+ps.length)).length<=80:=by have:=@l7 k2 ns (its.length+ps.length);omega
   have gx:=Pu (T:=tp) hKr hX (sN k2 ns (its.length+ps.length)) (by omega) (by omega);have hXi:=hX.i4;have hXp:=hX.p4;have hXl:=hX.len;have hYl:=hY.len;have hYi:=hY.i4;have hYp:=hY.p4;have hXw:∀p∈xp,ck p<=1000000000:=λp hp=>by have:=hX.wts p hp;omega
   have ecl:cl.length<=3:=h.c3;have elv:lv.length<=20:=h.l20
   have hsl:k2=3->l.length<=its2.length/\∀x∈its2,x.text.size<=60:=λe3=>by
    subst e3;have:=De hR;exact⟨this.1,this.2 cB⟩
   have hpr:∀i,i<l.length->1<=l.getD i default/\l.getD i default<=tp:=λi hi=>by
    have hm:=aG hi;have h3:=hge _ hm;have h4:=hr2 _ hm;have h5:l.getD i default≠0:=λe=>hnin (e▸hm)
    omega
   have hwt:=λK1 K2 a1 a2 a3 b1 b2 b3 c1 e1 c2 e2=>@NS K k2 (its.length+ps.length) tp m xi yi xp yp ns cl lv a1 a2 a3 b1 b2 b3 its2 l K1 K2 c1 e1 c2 e2 hX hY cC (by omega) (λx hx=>l6 h.nm hx) hn80 (λx hx=>dN h.lc hx) (by omega) (λx hx=>dN h.lb hx) (by omega) hsl
   have hwt:=hwt K K ns [] [] ns' [] [] 0 0 0 0;have hxlen:K=4->xp.length=its.length+ps.length:=λe=>by rw[hXi e]at hXl;simpa using hXl
   have hxlen2:K≠4->xi.length=its.length+ps.length:=λe=>by rw[hXp e]at hXl;simpa using hXl
   have hylen:K=4->yp.length=m:=λe=>by rw[hYi e]at hYl;simpa using hYl
   have hylen2:K≠4->yi.length=m:=λe=>by rw[hYp e]at hYl;simpa using hYl
   have hxe:(if K=4 then[]else b9 xi bA tp)=(if K=4 then[]else b9 xi bA (max (its.length+ps.length) tp)):=by
    split
    ·rfl
    ·rw[Ds (hxlen2 ‹_›)]
   have hpe:(if K=4 then b9 xp (fV 0 []) tp else[])=(if K=4 then b9 xp (fV 0 []) (max (its.length+ps.length) tp)else[]):=by
    split
    ·rw[Ds (hxlen ‹_›)]
    ·rfl
   rw[hxe,hpe]at gx;clear hxe hpe;have hyk:=hYv.kd;have hyw:=hYv.wk;clear hYv;clear h hh hH hX hY hv hv3 hv2 hv4 hW hWl ex ey hasn hdel hcp hR hfin gc1 gc2 gc3 hk3;simp only[L0]at hwt hF;generalize its.length+ps.length=n at*
   have hcl:=xL K (if K=4 then[]else jT yi l l.length (b9 xi bA (max n tp))) (if K=4 then jT yp l l.length (b9 xp (fV 0 []) (max n tp))else[]) (if k2=3 then nD its2 l n l.length (sN k2 (dQ (sN k2 ns n) (tp-n)) tp)else sN k2 (dQ (sN k2 ns n) (tp-n)) tp) cl lv 0 0 (by
    have l1:=@l7 k2 ns n;have l2:=@ox (sN k2 ns n) (tp-n);have l3:=@l7 k2 (dQ (sN k2 ns n) (tp-n)) tp;split
    ·rw[me];omega
    ·omega)
   have hft:=Ju _ hwt;rw[<-hF]at hft;simp only[aj,af,av,List.map_nil]at q1 q2 gx hcl hft ⊢
   repeat' (first|(with_reducible first|refine ab ‹_› rfl ?_|refine ai (λhbr=>?_) λhbr=>?_)|simp(disch:=first|omega|(simp only[aq];omega)|simp only[ap,Nat.reduceAdd]) only[go_sem,<-hK])
   all_goals first|omega|skip
   refine lp (λj:Nat=>[.sl 9 1 ((ns++List.replicate j (⟨#[]⟩:ByteArray)).map bQ)]) (λj=>(k2=3->ns.length+j<=max ns.length n)/\(k2≠3->j=0)) (λj=>n-(ns.length+j)) 0 (by simp[gL]) ⟨λ_=>by omega,λ_=>rfl⟩ ?_;rintro j ⟨hj1,hj2⟩;simp only[fK];have hb:=gX K xi xp (ns++List.replicate j (⟨#[]⟩:ByteArray)) [] [] 0 0 (uJ (by omega) (by omega) (by simp;omega) (by simp) (by simp) hXw);unfold dX at hb;rw[if_neg (by omega),show(xi.length:Int)+xp.length=((n:Nat):Int) by omega]at hb;have hlj:(ns++List.replicate j (⟨#[]⟩:ByteArray)).length=ns.length+j:=by simp
   have hap:=fC ns (⟨#[]⟩:ByteArray) j;simp only[aj,af,av,List.map_nil]at hb;by_cases hc:k2=3/\ns.length+j<n
   ·generalize ns++List.replicate j (⟨#[]⟩:ByteArray)=NJ at*
    repeat' (first|(with_reducible first|refine ac ?_|refine ab ‹_› rfl ?_|refine ai (λhbr=>?_) λhbr=>?_)|simp(disch:=first|omega|(simp only[aq];omega)|simp only[ap,Nat.reduceAdd]) only[go_sem,kP,hap,dG])
    all_goals first|omega|exact⟨j+1,rfl,⟨λ_=>by omega,λhh=>absurd hc.1 hh⟩,by omega⟩|(trace_state;sorry)
   have hsn:=Tn hj1 hj2 hc;rw[hsn]at hb ⊢;have hcc:k2=3->¬((sN k2 ns n).length:Int)<(n:Int):=λe hh=>hc ⟨e,by rw[<-hsn,hlj]at hh;omega⟩
   clear hlj hap hsn;simp(disch:=first|omega|(simp only[aq];omega)|simp only[ap,Nat.reduceAdd]) only[go_sem,true_and];refine jn (λvs=>vs=[.sc (.bool false)]) ?_ ?_
   ·repeat' (first|(with_reducible first|refine ac ?_|refine ab ‹_› rfl ?_|refine ai (λhbr=>?_) λhbr=>?_)|simp(disch:=first|omega|(simp only[aq];omega)|simp only[ap,Nat.reduceAdd]) only[go_sem,true_and])
    all_goals first|omega|rfl|(simp only[decide_eq_false (hcc ‹_›)])|(trace_state;sorry)
   rintro vs-rfl;simp only[dG];simp(disch:=first|omega|(simp only[aq];omega)|simp only[ap,Nat.reduceAdd]) only[go_sem,true_and];refine gY (f:=32) (bits:=1) (by decide) gx rfl ?_;simp(disch:=first|omega|(simp only[aq];omega)|simp only[ap,Nat.reduceAdd]) only[go_sem,true_and];generalize dQ (sN k2 ns n) (tp-n)=N1 at *;refine jn (λvs=>∃b:Bool,vs=[.sc (.bool b),.sl 9 1 ((sN k2 N1 tp).map bQ)]) ?_ ?_
   ·simp(disch:=first|omega|(simp only[aq];omega)|simp only[ap,Nat.reduceAdd]) only[go_sem,true_and];refine lp (λj:Nat=>[.sl 9 1 ((N1++List.replicate j (⟨#[]⟩:ByteArray)).map bQ)]) (λj=>(k2=3->N1.length+j<=max N1.length tp)/\(k2≠3->j=0)) (λj=>tp-(N1.length+j)) 0 (by simp[gL]) ⟨λ_=>by omega,λ_=>rfl⟩ ?_;rintro j ⟨hj1,hj2⟩;simp only[ft];have hlj:(N1++List.replicate j (⟨#[]⟩:ByteArray)).length=N1.length+j:=by simp
    have hap:=fC N1 (⟨#[]⟩:ByteArray) j;by_cases hc:k2=3/\N1.length+j<tp
    ·generalize N1++List.replicate j (⟨#[]⟩:ByteArray)=NJ at*
     repeat' (first|(with_reducible first|refine ac ?_|refine ab ‹_› rfl ?_|refine ai (λhbr=>?_) λhbr=>?_)|simp(disch:=first|omega|(simp only[aq];omega)|simp only[ap,Nat.reduceAdd]) only[go_sem,kP,hap])
     all_goals first|omega|exact⟨j+1,rfl,⟨λ_=>by omega,λhh=>absurd hc.1 hh⟩,by omega⟩|(trace_state;sorry)
    rw[Tn hj1 hj2 hc]at hlj ⊢
    repeat' (first|(with_reducible first|refine ac ?_|refine ab ‹_› rfl ?_|refine ai (λhbr=>?_) λhbr=>?_)|simp(disch:=first|omega|(simp only[aq];omega)|simp only[ap,Nat.reduceAdd]) only[go_sem,true_and])
    all_goals first|omega|exact⟨_,rfl⟩|(trace_state;sorry)
   rintro vs - ⟨b,rfl⟩;simp only[fB];have hN2:k2=3->tp<=(sN k2 N1 tp).length:=λe=>by unfold sN;rw[if_pos e,eR];omega
   generalize sN k2 N1 tp=N2 at *;have hPX:=λi=>gu yi l (b9 xi bA (max n tp)) i
   have hPP:=λi=>gu yp l (b9 xp (fV 0 []) (max n tp)) i
   have hPN:=λi=>me its2 l n N2 i
   rw[eR]at hPX hPP;generalize b9 xi bA (max n tp)=PX at *;generalize b9 xp (fV 0 []) (max n tp)=PP at *;simp(disch:=first|omega|(simp only[aq];omega)|simp only[ap,Nat.reduceAdd]) only[go_sem,true_and];refine lp (λi:Nat=>[.sc (.int .i64 i),.sl 9 1 ((if k2=3 then nD its2 l n i N2 else N2).map bQ),.sl 28 8 ((if K=4 then jT yp l i PP else[]).map aj),.sl 42 3 ((if K=4 then[]else jT yi l i PX).map au)]) (λi=>i<=l.length) (λi=>l.length-i) 0 (by simp[gL,nD,jT]) (Nat.zero_le _) ?_;clear hK hKr hXi hXp hYi hYp hj1 hj2 hc hcc hnmn hl0 hl1 hl2 hlv0 hlv1 hcE cA cB cD cE hk'1 hk'5 hmn htp hk0 hk5 h5 hnin q1 q2 gx g1 g2 g3 h0 h1 h2 hw hws hww hwt hb hln hnx hr2 hge hYl hXl;intro i hi;simp only[fA];by_cases hlt:i<l.length
   ·have hz:=sC (t:=3) (l:=l) (kd:=.i64) (z:=(i:Int)) (by omega) (by omega);rw[Int.toNat_natCast]at hz;obtain⟨hp1,hp2⟩:=hpr i hlt;have hmod:(i:Int).tmod (m:Int)=((i % m:Nat):Int):=rfl;have him:i % m<m:=Nat.mod_lt _ (by omega);have hasn:((n:Int)<l.getD i default->nD its2 l n (i+1) N2=(nD its2 l n i N2).set (l.getD i default-1).toNat (its2.getD i default).text)/\(¬(n:Int)<l.getD i default->nD its2 l n (i+1) N2=nD its2 l n i N2):=⟨λhh=>by rw[nD,if_pos hh],λhh=>by rw[nD,if_neg hh]⟩;have hal:jT yp l (i+1) PP=(jT yp l i PP).set (l.getD i default-1).toNat (yp.getD (i % yp.length) default):=rfl;have hax:jT yi l (i+1) PX=(jT yi l i PX).set (l.getD i default-1).toNat (yi.getD (i % yi.length) default):=rfl;have hPPi:=hPP i;have hPXi:=hPX i;generalize l.getD i default=p at hz hp1 hp2 hasn hal hax;clear hF hcl hft;by_cases hK4:K=4
    ·have hyl:=hylen hK4;have hxl:=hxlen hK4;rw[hyl]at hal;have hyx:d6 8 (some (.sl 28 8 (yp.map aj))) (some (.sc (.int .i64 ((i % m:Nat):Int))))=some (aj (yp.getD (i % m) default)):=by rw[py (by omega) (by omega),Int.toNat_natCast]
     have hmem:=aG (l:=yp) (i:=i % m) (by omega);have hc:=zU (yp.getD (i % m) default) (by have:=hyw _ hmem;omega) (lz (qz 2 _ (hyk _ hmem))) (lT (qz 2 _ (hyk _ hmem)));have hst:=JW (l:=jT yp l i PP) (kd:=.i64) (z:=p-1) (y:=yp.getD (i % m) default) (by omega) (by omega);rw[<-hal]at hst;have hch:=aY (e:=aj) (k:=8) (t:=28) (l:=jT yp l i PP) (kd:=.i64) (z:=p-1) (by omega) (by omega);have hch2:=aY (e:=aj) (k:=8) (t:=28) (l:=yp) (kd:=.i64) (z:=((i % m:Nat):Int)) (by omega) (by omega);generalize yp.getD (i % m) default=y at hyx hc hst;obtain⟨y0,y1,y2,y3,y4,y5,y6,y7⟩:=y;simp only[aj,af,av]at hyx hc hst hch hch2;simp only[if_pos hK4,List.map_nil];clear hylen hylen2 hxlen hxlen2 hpr hal hax hmem hXw hyk hyw;by_cases h3:k2=3
     ·obtain⟨hs1,hs2⟩:=hsl h3;have hs3:=cM (t:=42) (l:=its2) (kd:=.i64) (z:=(i:Int)) (by omega) (by omega);rw[Int.toNat_natCast]at hs3;have hNl:=hPN i;have hN2:=hN2 h3;have hns:=JU (t:=9) (l:=nD its2 l n i N2) (kd:=.i64) (z:=p-1) (s:=(its2.getD i default).text) (by omega) (by omega);have hchn:=aY (e:=bQ) (k:=1) (t:=9) (l:=nD its2 l n i N2) (kd:=.i64) (z:=p-1) (by omega) (by omega);generalize its2.getD i default=z2 at hs3 hns hasn;simp only[au]at hs3;simp only[if_pos h3];clear hsl hPN hPP hPX;by_cases ho:(n:Int)<p
      ·have hasn:=hasn.1 ho;rw[<-hasn]at hns
       repeat' (first|(with_reducible first|refine ac ?_|refine ab ‹_› rfl ?_|refine ai (λhbr=>?_) λhbr=>?_)|simp(disch:=first|omega|(simp only[aq];omega)|simp only[ap,Nat.reduceAdd]) only[go_sem,hz,hmod,hyx,hst,hch,hch2,hs3,hns,hchn,bx,bu])
       all_goals first|omega|exact⟨i+1,rfl,by omega,by omega⟩|(trace_state;sorry)
      ·have hasn:=hasn.2 ho
       repeat' (first|(with_reducible first|refine ac ?_|refine ab ‹_› rfl ?_|refine ai (λhbr=>?_) λhbr=>?_)|simp(disch:=first|omega|(simp only[aq];omega)|simp only[ap,Nat.reduceAdd]) only[go_sem,hz,hmod,hyx,hst,hch,hch2,hs3,bx,bu])
       all_goals first|omega|exact⟨i+1,by rw[hasn],by omega,by omega⟩|(trace_state;sorry)
     ·simp only[if_neg h3];clear hsl hPN hPP hPX hN2
      repeat' (first|(with_reducible first|refine ac ?_|refine ab ‹_› rfl ?_|refine ai (λhbr=>?_) λhbr=>?_)|simp(disch:=first|omega|(simp only[aq];omega)|simp only[ap,Nat.reduceAdd]) only[go_sem,hz,hmod,hyx,hst,hch,hch2,bx,bu])
      all_goals first|omega|exact⟨i+1,rfl,by omega,by omega⟩|(trace_state;sorry)
    ·have hyl:=hylen2 hK4;have hxl:=hxlen2 hK4;rw[hyl]at hax;have hyx:=cM (t:=42) (l:=yi) (kd:=.i64) (z:=((i % m:Nat):Int)) (by omega) (by omega);rw[Int.toNat_natCast]at hyx;have hst:=BK (t:=42) (l:=jT yi l i PX) (kd:=.i64) (z:=p-1) (y:=yi.getD (i % m) default) (by omega) (by omega);rw[<-hax]at hst;have hch:=aY (e:=au) (k:=3) (t:=42) (l:=jT yi l i PX) (kd:=.i64) (z:=p-1) (by omega) (by omega);have hch2:=aY (e:=au) (k:=3) (t:=42) (l:=yi) (kd:=.i64) (z:=((i % m:Nat):Int)) (by omega) (by omega);generalize yi.getD (i % m) default=y at hyx hst;simp only[au]at hyx hst;simp only[if_neg hK4,List.map_nil];clear hylen hylen2 hxlen hxlen2 hpr hal hax hXw hyk hyw;by_cases h3:k2=3
     ·obtain⟨hs1,hs2⟩:=hsl h3;have hs3:=cM (t:=42) (l:=its2) (kd:=.i64) (z:=(i:Int)) (by omega) (by omega);rw[Int.toNat_natCast]at hs3;have hNl:=hPN i;have hN2:=hN2 h3;have hns:=JU (t:=9) (l:=nD its2 l n i N2) (kd:=.i64) (z:=p-1) (s:=(its2.getD i default).text) (by omega) (by omega);have hchn:=aY (e:=bQ) (k:=1) (t:=9) (l:=nD its2 l n i N2) (kd:=.i64) (z:=p-1) (by omega) (by omega);generalize its2.getD i default=z2 at hs3 hns hasn;simp only[au]at hs3;simp only[if_pos h3];clear hsl hPN hPP hPX;by_cases ho:(n:Int)<p
      ·have hasn:=hasn.1 ho;rw[<-hasn]at hns
       repeat' (first|(with_reducible first|refine ac ?_|refine ab ‹_› rfl ?_|refine ai (λhbr=>?_) λhbr=>?_)|simp(disch:=first|omega|(simp only[aq];omega)|simp only[ap,Nat.reduceAdd]) only[go_sem,hz,hmod,hyx,hst,hch,hch2,hs3,hns,hchn,bx,bu])
       all_goals first|omega|exact⟨i+1,rfl,by omega,by omega⟩|(trace_state;sorry)
      ·have hasn:=hasn.2 ho
       repeat' (first|(with_reducible first|refine ac ?_|refine ab ‹_› rfl ?_|refine ai (λhbr=>?_) λhbr=>?_)|simp(disch:=first|omega|(simp only[aq];omega)|simp only[ap,Nat.reduceAdd]) only[go_sem,hz,hmod,hyx,hst,hch,hch2,hs3,bx,bu])
       all_goals first|omega|exact⟨i+1,by rw[hasn],by omega,by omega⟩|(trace_state;sorry)
     ·simp only[if_neg h3];clear hsl hPN hPP hPX hN2
      repeat' (first|(with_reducible first|refine ac ?_|refine ab ‹_› rfl ?_|refine ai (λhbr=>?_) λhbr=>?_)|simp(disch:=first|omega|(simp only[aq];omega)|simp only[ap,Nat.reduceAdd]) only[go_sem,hz,hmod,hyx,hst,hch,hch2,bx,bu])
      all_goals first|omega|exact⟨i+1,rfl,by omega,by omega⟩|(trace_state;sorry)
   ·obtain rfl:i=l.length:=by omega
    repeat' (first|(with_reducible first|refine ac ?_|refine ab ‹_› rfl ?_|refine ai (λhbr=>?_) λhbr=>?_)|simp(disch:=first|omega|(simp only[aq];omega)|simp only[ap,Nat.reduceAdd]) only[go_sem,RL])
    all_goals first|omega|skip
    obtain⟨⟨f0,f1,f2,f3,f4,f5,f6,f7⟩,fm⟩:=F;simp only[af]at hft ⊢;refine gY (f:=34) (bits:=1) (by decide) hcl rfl ?_;simp(disch:=first|omega|(simp only[aq];omega)|simp only[ap,Nat.reduceAdd]) only[go_sem,true_and];refine gY (f:=33) (bits:=1) (by decide) hft rfl ?_
    repeat' (first|(with_reducible first|refine ac ?_|refine ab ‹_› rfl ?_|refine ai (λhbr=>?_) λhbr=>?_)|simp(disch:=first|omega|(simp only[aq];omega)|simp only[ap,Nat.reduceAdd]) only[go_sem,true_and])
    all_goals first|omega|rfl|(trace_state;sorry)
 exact hF _ rfl
def jX:List aP:=[]
def jR:List (Nat×Nat×Bool×List Nat):=[(2,3,false,[1,2])]
def ew:UP:=.i 0<|.i 0<|.i 0<|.i 0<|.i 0<|.i 0<|.i 0<|.i 0<|.i 0<|.sel [9]<|.cl 15 [(false,[0])] [(true,[none,some (42,3),some (28,8),some (9,1),some (9,1),some (9,1),none,none],true),(true,[none,some (42,3),some (28,8),some (9,1),some (9,1),some (9,1),none,none],true),(true,[none,some (42,3),some (28,8),some (9,1),some (9,1),some (9,1),none,none],true)]<|.i 0<|.i 0<|.i 0<|.i 0<|.i 0<|.i 0<|.i 0<|.i 0<|.i 0<|.c 24<|.c 18<|.c 17<|.c 16<|.c 10<|.c 9<|.c 32<|.c 26<|.c 25<|.c 24<|.c 18<|.c 17<|.c 16<|.c 10<|.c 9<|.ret [(true,[32,31,30,29,28,27,26,25]),(true,[24,23,22,21,20,19,18,17]),(true,[16,15,14,13,12,11,10,9])]
theorem jW:aR Try.prog 5 Try.f5 cV jX jR=some ([(false,1)],ew):=by kernel_rfl
def sU:List aP:=[⟨1000005,9,⟨[aa 20 48,al 8 16 16 0,bi 7 15 15,al 6 14 14 0,al 5 13 13 0,al 4 2 2 0,al 3 1 1 0,al 2 0 0 0,aa 0 0],[(0,.var 0 28 [.d 1,.nil,.nil,.nil,.nil,.nil,.d 2,.d 3]),(1,.var 1 28 [.d 4,.nil,.nil,.nil,.nil,.nil,.d 5,.d 6]),(2,.var 2 28 [.d 7,.nil,.nil,.nil,.nil,.nil,.d 8,.d 9]),(13,.var 13 28 [.d 10,.own 3 3,.own 4 4,.own 5 5,.own 6 6,.own 7 7,.d 16,.d 17]),(7,.row 7 9 1 15),(6,.row 6 9 1 14),(5,.row 5 9 1 13),(4,.row 4 28 8 12),(3,.row 3 42 3 11),(14,.var 14 28 [.d 18,.own 8 8,.own 9 9,.own 10 10,.own 11 11,.own 12 12,.d 24,.d 25]),(12,.row 12 9 1 23),(11,.row 11 9 1 22),(10,.row 10 9 1 21),(9,.row 9 28 8 20),(8,.row 8 42 3 19),(15,.cur 15 false 85 49),(16,.var 16 28 [.d 50,.own 17 17,.own 18 18,.own 19 19,.own 20 20,.own 21 21,.d 51,.d 52]),(21,.row 21 9 1 53),(20,.row 20 9 1 54),(19,.row 19 9 1 55),(18,.row 18 28 8 56),(17,.row 17 42 3 57)],22,22,58,[]⟩,[]⟩]
def sJ:List (Nat×Nat×Bool×List Nat):=[(6,3,false,[1,2])]
def jy:UP:=.c 29<|.c 23<|.c 22<|.c 7<|.c 6<|.c 5<|.c 37<|.c 31<|.c 30<|.c 29<|.c 23<|.c 22<|.c 7<|.c 6<|.c 5<|.ret [(true,[37,36,35,34,33,32,31,30]),(true,[29,28,27,26,25,24,23,22]),(true,[7,0,1,2,3,4,6,5])]
def kh:UP:=.i 0<|.i 0<|.i 0<|.i 0<|.i 0<|.i 0<|.i 0<|.i 0<|.i 0<|.sel [9]<|.cl 45 [(false,[0])] [(true,[none,some (42,3),some (28,8),some (9,1),some (9,1),some (9,1),none,none],true),(true,[none,some (42,3),some (28,8),some (9,1),some (9,1),some (9,1),none,none],true)]<|.i 0<|.i 0<|.i 0<|.i 0<|.i 0<|.i 0<|.sel [6,7,8,9,10,11,12,13,14,15,16,17,18,19,20,21,22]<|.cl 3000046 [(false,[16])] [(false,[some (85,0)],true)]<|.cl 2000047 [(false,[0])] lx<|.i 0<|.i 0<|.i 0<|.i 3<|.sel [0,4,5,6,7,8,9,10,11,12,14,15,16,17,18,19,20,21,22,23,24,25,26,27,28,29]<|.cl 2000048 [(false,[1]),(false,[0])] bO<|.n 1<|.join 9 jy<|.ite 0 (.i 3<|.sel [0,2]<|.cl 2000050 [(false,[1]),(false,[0])] bO<|.i 1<|.a 0 2<|.i 2<|.sel [0,1,3]<|.cl 2000050 [(false,[2]),(false,[0])] bO<|.i 1<|.a 0 2<|.sel [0,2,5]<|.cl 2000049 [(false,[1]),(false,[2]),(false,[0])] lx<|.jump 0 [0,8,2,1,3,4,5,6,7])<|.jump 0 [1,12,6,5,7,8,9,10,11]
theorem tG:aR Try.prog 15 Try.f15 cV sU sJ=some ([(false,1)],kh):=by kernel_rfl
def xq:List aP:=[]
def yR:List (Nat×Nat×Bool×List Nat):=[(8,3,true,[4000000,2,0,1])]
def nG:UP:=.i 0<|.i 0<|.i 0<|.i 2<|.cl 2000077 [(false,[4]),(false,[0])] lx<|.i 0<|.i 0<|.i 0<|.i 30<|.sel [0,4,5,6,7,8,9,10,11,12]<|.cl 2000050 [(false,[1]),(false,[0])] bO<|.i 0<|.e 2 0<|.ite 0 (.i (-1)<|.i 6<|.i 0<|.i 3<|.i 1<|.i (-9223372036854775808)<|.c 5<|.c 4<|.c 3<|.c 2<|.c 1<|.c 0<|.po (.mk 3 1 [[5],[4],[3],[2],[1],[0]])<|.sel [0,9,13,14,15,16,17,18,19]<|.cl 2000078 [(false,[1]),(false,[0])] bO<|.c 1<|.c 5<|.c 4<|.ret [(false,[0]),(true,[1,10,9,8,7,6,5,4])])<|.i 1<|.e 4 0<|.ite 0 (.s #[122]<|.c 0<|.po (.mk 9 1 [[0]])<|.po (.flat 0)<|.po (.app 9 1 16 14 0)<|.c 18<|.c 12<|.c 11<|.ret [(false,[7]),(true,[18,17,16,0,14,13,12,11])])<|.i 2<|.e 6 0<|.ite 0 (.sel [6,10,11,12,13,14,15,16,17]<|.cl 2000079 [(false,[0])] [(true,[none,none,none],true),(false,[some (85,0)],true)]<|.c 3<|.c 2<|.c 1<|.po (.mk 42 3 [[3,2,1]])<|.po (.flat 0)<|.po (.app 42 3 32 12 0)<|.c 14<|.c 8<|.c 7<|.ret [(false,[2]),(true,[14,0,12,11,10,9,8,7])])<|.i 3<|.e 8 0<|.ite 0 (.s #[97]<|.s #[97]<|.c 1<|.c 0<|.po (.mk 9 1 [[1],[0]])<|.c 22<|.c 16<|.c 15<|.ret [(false,[11]),(true,[22,21,20,19,18,0,16,15])])<|.i 4<|.e 10 0<|.ite 0 (.i 1<|.c 22<|.c 0<|.c 15<|.ret [(false,[11]),(true,[22,21,20,19,18,17,0,15])])<|.i 5<|.e 12 0<|.ite 0 (.i 2<|.i 41<|.sel [0,1,14]<|.cl 2000049 [(false,[2]),(false,[1]),(false,[0])] lx<|.c 8<|.c 2<|.c 1<|.ret [(false,[0]),(true,[8,7,6,5,4,3,2,1])])<|.c 23<|.c 17<|.c 16<|.ret [(false,[12]),(true,[23,22,21,20,19,18,17,16])]
theorem yO:eJ Try.prog 47 Try.f47 cV xq yR 85=some ([],nG):=by kernel_rfl
def n0:List aP:=[⟨3000014,3,⟨[aa 6 24,bi 5 2 2,aa 37 17,aa 29 15,aa 21 13,aa 13 11,aa 9 9,aa 8 6,al 4 1 1 0,bi 0 0 0,aa 1 1],[(0,.cur 0 true 85 25),(1,.var 1 28 [.d 2,.nil,.nil,.nil,.nil,.nil,.d 3,.d 4]),(2,.row 2 3 1 26)],3,3,27,[(17,false),(15,false),(13,false),(11,false),(9,false)]⟩,[]⟩]
def oJ:List (Nat×Nat×Bool×List Nat):=[]
def fO:UP:=.i 0<|.b .gtr 3 0<|.ite 0 (.i 1<|.a 9 0<|.sel [0,4,5,6]<|.cl 2000050 [(false,[2]),(false,[0])] bO<|.i 1<|.a 0 2<|.c 0<|.po (.mk 3 1 [[0]])<|.po (.flat 0)<|.po (.app 3 1 8 6 0)<|.i 1<|.b .sub 10 0<|.jump 0 [0,6,2])<|.sel [2,3]<|.cl 13 [(false,[0])] cb<|.c 7<|.c 1<|.c 0<|.ret [(false,[9]),(true,[7,6,5,4,3,2,1,0])]
def gV:UP:=.i 0<|.i 0<|.i 0<|.i 8<|.cl 2000050 [(false,[5]),(false,[0])] bO<|.i 0<|.e 2 0<|.ite 0 (.sel [2]<|.cl 2000047 [(false,[0])] lx<|.c 8<|.c 2<|.c 1<|.ret [(false,[0]),(true,[8,7,6,5,4,3,2,1])])<|.i 1<|.e 4 0<|.ite 0 (.i 2<|.a 11 0<|.sel [0,6]<|.cl 2000050 [(false,[1]),(false,[0])] bO<|.i 1<|.cl 2000049 [(false,[1]),(false,[0]),(false,[2])] lx<|.c 8<|.c 2<|.c 1<|.ret [(false,[0]),(true,[8,7,6,5,4,3,2,1])])<|.i 2<|.e 6 0<|.ite 0 (.s #[97]<|.s #[98]<|.s #[120]<|.s #[97,108]<|.c 3<|.c 2<|.c 1<|.c 0<|.po (.mk 9 1 [[3],[2],[1],[0]])<|.i 4<|.sel [0,1,12]<|.cl 2000050 [(false,[2]),(false,[0])] bO<|.i 1<|.a 0 2<|.po (.cutI 5 none (some 0))<|.po (.viewD 7 1 0)<|.sel [0,5]<|.cl 92 [(false,[0])] cb<|.c 7<|.c 1<|.c 0<|.ret [(false,[9]),(true,[7,6,5,4,3,2,1,0])])<|.i 3<|.e 8 0<|.ite 0 (.i (-1)<|.i (-2)<|.i 0<|.c 2<|.c 1<|.c 0<|.po (.mk 3 1 [[2],[1],[0]])<|.i 3<|.sel [0,1,13]<|.cl 2000050 [(false,[2]),(false,[0])] bO<|.i 1<|.a 0 2<|.po (.cutI 5 none (some 0))<|.po (.viewD 7 1 0)<|.sel [0,5]<|.cl 13 [(false,[0])] cb<|.c 7<|.c 1<|.c 0<|.ret [(false,[9]),(true,[7,6,5,4,3,2,1,0])])<|.i 4<|.e 10 0<|.ite 0 (.i 4<|.sel [0,11]<|.cl 2000050 [(false,[1]),(false,[0])] bO<|.i 2<|.cl 2000049 [(false,[1]),(false,[0]),(false,[2])] lx<|.c 8<|.c 2<|.c 1<|.ret [(false,[0]),(true,[8,7,6,5,4,3,2,1])])<|.po (.mk 3 1 [])<|.i 3<|.sel [0,1,12,18]<|.cl 2000050 [(false,[2]),(false,[0])] bO<|.i 1<|.a 0 2<|.sel [0,2,5,7]<|.loop [0,1,2] fO
theorem oE:eJ Try.prog 76 Try.f76 cV n0 oJ 85=some ([(false,1)],gV):=by kernel_rfl
def xK:List aP:=[]
def yl:List (Nat×Nat×Bool×List Nat):=[(3,3,false,[0,1])]
def oI:UP:=.i 0<|.i 0<|.i 0<|.i 0<|.i 0<|.i 0<|.sel [6]<|.cl 3000046 [(false,[0])] [(false,[some (85,0)],true)]<|.cl 2000047 [(false,[0])] lx<|.i 0<|.i 0<|.i 0<|.c 11<|.c 5<|.c 4<|.sel [3,4,5,6,7,8,9,10,11]<|.cl 26 [(true,[8,7,6,5,4,3,2,1])] aD<|.i 4<|.po (.mm false 0 1)<|.cl 2000076 [(false,[3]),(false,[0])] lx<|.c 20<|.c 14<|.c 13<|.c 8<|.c 2<|.c 1<|.ret [(true,[20,19,18,17,16,15,14,13]),(true,[8,7,6,5,4,3,2,1])]
theorem xc:aR Try.prog 45 Try.f45 cV xK yl=some ([(false,1)],oI):=by kernel_rfl
def yS:List aP:=[]
def xJ:List (Nat×Nat×Bool×List Nat):=[]
def nQ:UP:=.i 0<|.i 0<|.s #[]<|.cl 2000080 [(false,[3])] [(true,[none,none,none],true),(false,[some (85,0)],true)]<|.i 0<|.i 0<|.s #[]<|.i 20<|.sel [0,4,5,6,7]<|.cl 2000050 [(false,[1]),(false,[0])] bO<|.i 0<|.e 2 0<|.ite 0 (.s #[97]<|.c 9<|.c 8<|.c 0<|.ret [(false,[3]),(true,[9,8,0])])<|.i 1<|.e 4 0<|.ite 0 (.i 0<|.i (-1)<|.i 2<|.i 1000000000<|.i (-9223372036854775808)<|.c 4<|.c 3<|.c 2<|.c 1<|.c 0<|.po (.mk 3 1 [[4],[3],[2],[1],[0]])<|.sel [0,10,14,16]<|.cl 2000078 [(false,[1]),(false,[0])] bO<|.c 5<|.c 1<|.c 4<|.ret [(false,[0]),(true,[5,1,4])])<|.i 2<|.e 6 0<|.ite 0 (.i 0<|.i 1000000000<|.i (-9223372036854775808)<|.i 9223372036854775807<|.c 3<|.c 2<|.c 1<|.c 0<|.po (.mk 3 1 [[3],[2],[1],[0]])<|.sel [0,11,15,16]<|.cl 2000078 [(false,[1]),(false,[0])] bO<|.c 1<|.c 5<|.c 4<|.ret [(false,[0]),(true,[1,5,4])])<|.c 12<|.c 11<|.c 10<|.ret [(false,[6]),(true,[12,11,10])]
theorem xm:eJ Try.prog 79 Try.f79 cV yS xJ 85=some ([],nQ):=by kernel_rfl
def wI:List aP:=[⟨2000000,12,⟨[aa 33 37,aa 26 38,aa 22 39,al 7 2 2 0,aa 6 29,aa 5 18,al 4 1 1 0,bi 0 0 0,aa 1 1],[(0,.cur 0 true 85 40),(1,.var 1 28 [.d 2,.nil,.nil,.nil,.nil,.nil,.d 3,.d 4]),(2,.var 2 28 [.d 41,.own 3 3,.own 4 4,.own 5 5,.own 6 6,.own 7 7,.d 42,.d 43]),(7,.row 7 9 1 44),(6,.row 6 9 1 45),(5,.row 5 9 1 46),(4,.row 4 28 8 47),(3,.row 3 42 3 48)],8,8,49,[]⟩,[⟨false,4,1,42,3⟩,⟨false,4,3,9,1⟩,⟨false,4,4,9,1⟩,⟨false,4,5,9,1⟩]⟩,⟨1000018,9,⟨[aa 62 50,aa 33 37,aa 26 38,aa 22 39,al 7 2 2 0,aa 6 29,aa 5 18,al 4 1 1 0,bi 0 0 0,aa 1 1],[(0,.cur 0 true 85 52),(1,.var 1 28 [.d 2,.nil,.nil,.nil,.nil,.nil,.d 3,.d 4]),(2,.var 2 28 [.d 53,.own 3 3,.own 4 4,.own 5 5,.own 6 6,.own 7 7,.d 54,.d 55]),(7,.row 7 9 1 56),(6,.row 6 9 1 57),(5,.row 5 9 1 58),(4,.row 4 28 8 59),(3,.row 3 42 3 60)],8,8,61,[]⟩,[]⟩,⟨3000019,3,⟨[aa 9 53,aa 62 50,aa 33 37,aa 26 38,aa 22 39,al 7 2 2 0,aa 6 29,aa 5 18,al 4 1 1 0,bi 0 0 0,aa 1 1],[(0,.cur 0 true 85 54),(1,.var 1 28 [.d 2,.nil,.nil,.nil,.nil,.nil,.d 3,.d 4]),(2,.var 2 28 [.d 41,.own 3 3,.own 4 4,.own 5 5,.own 6 6,.own 7 7,.d 42,.d 43]),(7,.row 7 9 1 44),(6,.row 6 9 1 45),(5,.row 5 9 1 55),(4,.row 4 28 8 47),(3,.row 3 42 3 48)],8,8,56,[(50,true)]⟩,[]⟩,⟨3000014,3,⟨[aa 8 50,aa 39 46,aa 33 42,aa 26 40,aa 22 38,al 7 4 4 0,aa 6 29,aa 5 18,al 4 1 1 0,bi 0 0 0,aa 1 1],[(0,.cur 0 true 85 51),(1,.var 1 28 [.d 2,.nil,.nil,.nil,.nil,.nil,.d 3,.d 4]),(4,.var 4 28 [.d 47,.nil,.own 5 5,.nil,.nil,.nil,.d 32,.d 33]),(5,.row 5 28 8 52)],6,6,53,[(46,true),(44,true),(42,false),(40,false),(38,false)]⟩,[⟨false,4,2,28,8⟩]⟩]
def wA:List (Nat×Nat×Bool×List Nat):=[(21,3,true,[4000000,3,0,1,2]),(16,5,true,[4000000,2,0,1])]
def lW:UP:=.b .lss 2 12<|.ite 0 (.i 1<|.b .sub 15 0<|.sel [0,3,4,5]<|.cl 2000077 [(false,[2]),(false,[0])] lx<|.c 8<|.c 2<|.c 1<|.po (.mk 28 8 [[8,7,6,5,4,3,2,1]])<|.po (.app 28 8 144 11 0)<|.i 1<|.a 15 0<|.jump 1 [0,4,2])<|.po (.e 42 3)<|.po (.e 9 1)<|.po (.e 9 1)<|.po (.e 9 1)<|.jump 0 [11,12,13,6,10,15,14,0,1,2,5,3]
def lD:UP:=.b .lss 2 13<|.ite 0 (.s #[97]<|.s #[98]<|.s #[120]<|.s #[]<|.s #[97,108]<|.s #[110,32,49]<|.s #[97,108,112,104,97]<|.s #[105,102]<|.c 7<|.c 6<|.c 5<|.c 4<|.c 3<|.c 2<|.c 1<|.c 0<|.po (.mk 9 1 [[7],[6],[5],[4],[3],[2],[1],[0]])<|.sel [0,10,11,12]<|.cl 2000094 [(false,[2]),(false,[0])] bO<|.c 1<|.po (.mk 9 1 [[1]])<|.po (.flat 0)<|.po (.app 9 1 16 4 0)<|.i 1<|.a 8 0<|.jump 1 [0,4,2])<|.c 13<|.c 12<|.c 11<|.sel [1,2,6,7,9,10,11,12,13]<|.cl 5000034 [(true,[8,2,3,0,4,5,7,6])] cb<|.jump 0 [9,7,1,0,2,3,4,5,6]
def ll:UP:=.i 6<|.b .lss 23 0<|.ite 0 (.i 9<|.sel [0,3,4,5,6,7,8,9,10,11]<|.cl 2000048 [(false,[9]),(false,[0])] bO<|.ite 1 (.s #[115,113,117,97,114,101]<|.s #[115,104,97,112,101]<|.c 1<|.c 0<|.po (.mk 9 1 [[1],[0]])<|.i 2<|.sel [0,1,4,7,8,9,11,12,13,14]<|.cl 2000050 [(false,[2]),(false,[0])] bO<|.i 1<|.a 0 2<|.po (.cutI 5 none (some 0))<|.c 15<|.po (.cutP 7 1 0)<|.c 15<|.c 14<|.ret [(false,[5]),(true,[16,10,11,12,0,13,15,14])])<|.c 10<|.c 9<|.c 8<|.ret [(false,[0]),(true,[10,3,4,5,6,7,9,8])])<|.f<|.c 10<|.c 9<|.c 8<|.ret [(false,[11]),(true,[10,3,4,5,6,7,9,8])]
def lu:UP:=.i 2<|.sel [0,1,2,3,4,5,6,7,8,9,17,18]<|.cl 2000048 [(false,[9]),(false,[0])] bO<|.join 9 ll<|.ite 1 (.i 0<|.sel [0,1,4,5,6,7,8,9,10,11,13]<|.loop [0,1,4] lD)<|.jump 0 [0,10,9,8,7,6,5,4,3]
def mG:UP:=.i 0<|.i 0<|.i 0<|.i 1<|.i 2<|.i 2<|.i 2<|.i 3<|.i 3<|.i 4<|.i 6<|.i 0<|.i 5<|.i 2<|.i 3<|.c 11<|.c 10<|.c 9<|.c 8<|.c 7<|.c 6<|.c 5<|.c 4<|.c 3<|.c 2<|.c 1<|.c 0<|.po (.mk 3 1 [[11],[10],[9],[8],[7],[6],[5],[4],[3],[2],[1],[0]])<|.sel [0,16,17]<|.cl 2000078 [(false,[2]),(false,[0])] bO<|.i 1<|.i 2<|.i 3<|.i 0<|.i 1<|.i 4<|.i 2<|.i 6<|.c 7<|.c 6<|.c 5<|.c 4<|.c 3<|.c 2<|.c 1<|.c 0<|.po (.mk 3 1 [[7],[6],[5],[4],[3],[2],[1],[0]])<|.sel [0,9,10,12]<|.cl 2000078 [(false,[1]),(false,[0])] bO<|.i 0<|.i 0<|.i 0<|.i 0<|.i 0<|.i 0<|.sel [3,4,5,6,7,10,11]<|.join 12 lu<|.i 0<|.e 6 0<|.ite 0 (.c 4<|.po (.e 42 3)<|.po (.e 28 8)<|.po (.e 9 1)<|.po (.e 9 1)<|.po (.e 9 1)<|.c 8<|.c 7<|.ret [(false,[10]),(true,[9,4,3,2,1,0,8,7])])<|.i 5<|.e 8 0<|.ite 0 (.i 4<|.sel [0,8]<|.cl 2000050 [(false,[1]),(false,[0])] bO<|.i 2<|.b .sub 2 0<|.i 0<|.i 0<|.i 0<|.i 5<|.c 0<|.po (.e 42 3)<|.po (.e 28 8)<|.po (.e 9 1)<|.po (.e 9 1)<|.po (.e 9 1)<|.c 9<|.c 6<|.ret [(false,[11]),(true,[5,4,3,2,1,0,9,6])])<|.i 6<|.e 10 0<|.ite 0 (.sel [0,2,4,9,10]<|.cl 2000093 [(false,[3]),(false,[4])] lx<|.jump 0 [9,10,11,0,8,2,1,3,4,5,6,7])<|.i 4<|.e 12 0<|.ite 0 (.i 0<|.b .gtr 15 0<|.ite 0 (.i 4<|.i 0<|.po (.e 28 8)<|.sel [0,1,2,7,9,11,13,14,16,17,19]<|.loop [1,8,0] lW)<|.i 3<|.po (.mm false 16 0)<|.sel [0,6,8,10,15,16]<|.cl 2000049 [(false,[4]),(false,[0]),(false,[5])] lx<|.jump 0 [10,11,12,0,8,2,1,3,4,5,6,7])<|.f<|.i 3<|.po (.mm false 15 0)<|.sel [0,5,7,9,14,15]<|.cl 2000049 [(false,[4]),(false,[0]),(false,[5])] lx<|.jump 0 [10,11,12,0,8,2,1,3,4,5,6,7]
theorem vD:eJ Try.prog 77 Try.f77 cV wI wA 85=some ([(false,1)],mG):=by kernel_rfl
def pp:List aP:=[⟨2000000,3,⟨[aa 14 12,aa 4 13,al 3 1 1 0,al 2 0 0 0,aa 0 0],[(0,.var 0 28 [.d 1,.nil,.nil,.nil,.nil,.nil,.d 2,.d 3]),(1,.var 1 28 [.d 7,.own 2 2,.nil,.nil,.nil,.nil,.d 5,.d 6]),(2,.row 2 42 3 14)],3,3,15,[]⟩,[]⟩,⟨3000003,2,⟨[aa 4 13,al 3 1 1 0,al 2 0 0 0,aa 0 0],[(0,.var 0 28 [.d 1,.nil,.nil,.nil,.nil,.nil,.d 2,.d 3]),(1,.var 1 28 [.d 7,.own 2 2,.nil,.nil,.nil,.nil,.d 5,.d 6]),(2,.row 2 42 3 14)],3,3,15,[]⟩,[⟨false,1,1,42,3⟩]⟩]
def pM:List (Nat×Nat×Bool×List Nat):=[(5,8,false,[])]
def gJ:UP:=.l 7<|.b .lss 2 0<|.ite 0 (.l 9<|.i 40<|.b .leq 1 0<|.ite 0 (.z 6<|.x 1 12 6<|.c 0<|.sel [0,6,7]<|.cl 66 [(false,[0])] eO<|.po (.mk 42 3 [[2,1,0]])<|.c 3<|.c 2<|.c 1<|.po (.mk 42 3 [[3,2,1]])<|.po (.flat 0)<|.po (.app 42 3 32 6 0)<|.i 1<|.a 9 0<|.jump 1 [0,2])<|.jump 0 [0,6,5])<|.f<|.jump 0 [0,4,3]
def gG:UP:=.po (.e 28 8)<|.po (.e 9 1)<|.po (.e 9 1)<|.po (.e 9 1)<|.cl 24 [(true,[8,4,3,2,1,0,10,9])] aD<|.n 0<|.ite 0 (.t<|.i 0<|.i 0<|.i 0<|.c 2<|.po (.e 42 3)<|.po (.e 28 8)<|.po (.e 9 1)<|.po (.e 9 1)<|.po (.e 9 1)<|.c 6<|.c 5<|.ret [(true,[7,4,3,2,1,0,6,5])])<|.l 13<|.i 40<|.b .gtr 1 0<|.ite 0 (.i 0<|.i 0<|.i 0<|.c 2<|.po (.e 42 3)<|.po (.e 28 8)<|.po (.e 9 1)<|.po (.e 9 1)<|.po (.e 9 1)<|.c 6<|.c 5<|.ret [(true,[7,4,3,2,1,0,6,5])])<|.c 13<|.po (.e 28 8)<|.po (.e 9 1)<|.po (.e 9 1)<|.po (.e 9 1)<|.c 19<|.c 18<|.ret [(true,[17,13,3,2,1,0,19,18])]
def iv:UP:=.i 0<|.i 0<|.i 0<|.i 0<|.i 0<|.i 0<|.i 3<|.i 0<|.i 0<|.i 0<|.i 0<|.sel [0,4,5,6,11]<|.join 3 gG<|.po (.e 42 3)<|.loop [1,0] gJ
theorem pI:aR Try.prog 92 Try.f92 cV pp pM=some ([(false,1)],iv):=by kernel_rfl
def tQ:List aP:=[⟨2000001,6,⟨[aa 28 31,al 7 6 5 0,aa 17 30,aa 6 27,al 5 4 4 0,al 4 1 1 0,bi 0 0 0,aa 1 1],[(0,.cur 0 true 85 32),(1,.var 1 28 [.d 2,.nil,.nil,.nil,.nil,.nil,.d 3,.d 4]),(4,.var 4 28 [.d 21,.own 5 6,.nil,.nil,.own 2 2,.sub 3 3 1 16 17,.d 19,.d 20]),(3,.row 3 9 1 10),(2,.row 2 9 1 6),(5,.row 6 42 3 33),(6,.var 5 42 [.d 34,.d 35,.d 36])],7,7,37,[(30,true)]⟩,[]⟩,⟨3000003,3,⟨[aa 6 27,al 5 4 4 0,al 4 1 1 0,bi 0 0 0,aa 1 1],[(0,.cur 0 true 85 28),(1,.var 1 28 [.d 2,.nil,.nil,.nil,.nil,.nil,.d 3,.d 4]),(4,.var 4 28 [.d 21,.own 5 5,.nil,.nil,.own 2 2,.sub 3 3 1 16 17,.d 19,.d 20]),(3,.row 3 9 1 10),(2,.row 2 9 1 6),(5,.row 5 42 3 29)],6,6,30,[]⟩,[⟨false,4,1,42,3⟩]⟩]
def tV:List (Nat×Nat×Bool×List Nat):=[]
def eT:UP:=.i 1<|.a 9 0<|.jump 0 [0,6,5]
def jC:UP:=.b .lss 2 13<|.ite 0 (.sel [1,2,3,9]<|.join 6 eT<|.cl 2000050 [(false,[1]),(false,[3])] bO<|.i 1<|.a 0 2<|.sel [0,2,4]<|.cl 65 [(false,[0])] eO<|.i 0<|.i 0<|.s #[]<|.i 7<|.sel [0,4,5,6,8,9]<|.cl 2000048 [(false,[4]),(false,[0])] bO<|.ite 1 (.i 0<|.i 0<|.s #[]<|.c 2<|.c 1<|.c 0<|.po (.mk 42 3 [[2,1,0]])<|.po (.flat 0)<|.po (.app 42 3 32 11 0)<|.jump 1 [6,5,0,4,3,2])<|.c 5<|.c 4<|.c 3<|.po (.mk 42 3 [[5,4,3]])<|.po (.flat 0)<|.po (.app 42 3 32 8 0)<|.jump 1 [3,2,0,7,6,5])<|.c 6<|.po (.e 28 8)<|.po (.e 9 1)<|.po (.cutP 14 12 11)<|.c 11<|.c 10<|.ret [(false,[5]),(true,[9,4,2,1,16,0,11,10])]
def kz:UP:=.i 0<|.i 0<|.i 0<|.s #[102,97,99,116,111,114]<|.c 0<|.po (.mk 9 1 [[0]])<|.s #[97]<|.s #[98]<|.s #[99]<|.c 2<|.c 1<|.c 0<|.po (.mk 9 1 [[2],[1],[0]])<|.i 3<|.sel [0,1,5,10,11]<|.cl 2000050 [(false,[4]),(false,[0])] bO<|.i 1<|.a 0 2<|.po (.cutI 5 none (some 0))<|.i 0<|.i 0<|.i 0<|.i 2<|.i 0<|.i 0<|.i 0<|.i 0<|.po (.e 42 3)<|.sel [0,1,5,6,7,9,10,13,16,17,18]<|.loop [1,7,0] jC
theorem sd:eJ Try.prog 93 Try.f93 cV tQ tV 85=some ([(false,1)],kz):=by kernel_rfl
def vF:List aP:=[]
def vU:List (Nat×Nat×Bool×List Nat):=[]
def m5:UP:=.s #[]<|.s #[97]<|.s #[98]<|.s #[120]<|.s #[121]<|.s #[97,108,112,104,97]<|.s #[97,108]<|.s #[]<|.s #[110,32,49]<|.s #[34]<|.s #[92]<|.s #[10]<|.s #[128]<|.s #[102,60,45]<|.s #[105,102]<|.s #[46,46,46]<|.s #[46,49]<|.s #[95,97]<|.s #[97,46,98]<|.s #[97,114,101,97,46,115,113,117,97,114,101]<|.s #[116,119,101,110,116,121,46,98,121,116,101,115,46,105,110,46,104,101,114,101]<|.s #[116,119,101,110,116,121,49,46,98,121,116,101,115,46,105,110,46,104,101,114,101]<|.c 20<|.c 19<|.c 18<|.c 17<|.c 16<|.c 15<|.c 14<|.c 13<|.c 12<|.c 11<|.c 10<|.c 9<|.c 8<|.c 7<|.c 6<|.c 5<|.c 4<|.c 3<|.c 2<|.c 1<|.c 0<|.po (.mk 9 1 [[20],[19],[18],[17],[16],[15],[14],[13],[12],[11],[10],[9],[8],[7],[6],[5],[4],[3],[2],[1],[0]])<|.sel [0,23]<|.cl 2000094 [(false,[1]),(false,[0])] bO<|.c 1<|.ret [(false,[0]),(false,[1])]
theorem we:eJ Try.prog 82 Try.f82 cV vF vU 85=some ([],m5):=by kernel_rfl
def yo:List aP:=[]
def y8:List (Nat×Nat×Bool×List Nat):=[]
def jN:UP:=.i 0<|.i 0<|.b .lss 2 0<|.ite 0 (.po (.un .neg 3)<|.c 0<|.r 0)<|.c 3<|.r 3
theorem nM:aR Try.prog 81 Try.f81 cV yo y8=some ([(false,1)],jN):=by kernel_rfl
def wG:List aP:=[]
def vz:List (Nat×Nat×Bool×List Nat):=[]
def mN:UP:=.i 0<|.i 0<|.s #[]<|.i 12<|.cl 2000050 [(false,[4]),(false,[0])] bO<|.i 0<|.e 2 0<|.ite 0 (.i 0<|.i 0<|.s #[]<|.c 2<|.c 1<|.c 0<|.ret [(false,[5]),(true,[2,1,0])])<|.i 1<|.e 4 0<|.ite 0 (.i 13<|.sel [0,5]<|.cl 2000050 [(false,[1]),(false,[0])] bO<|.i 6<|.b .sub 2 0<|.i 6<|.sel [0,1,3]<|.cl 2000050 [(false,[2]),(false,[0])] bO<|.i 1<|.a 0 2<|.sel [0,2,5]<|.cl 43 [(false,[2]),(false,[0])] eO<|.c 2<|.c 1<|.c 0<|.ret [(false,[4]),(true,[2,1,0])])<|.i 2<|.e 6 0<|.ite 0 (.i 13<|.sel [0,7]<|.cl 2000050 [(false,[1]),(false,[0])] bO<|.i 6<|.b .sub 2 0<|.i 6<|.sel [0,1,3]<|.cl 2000050 [(false,[2]),(false,[0])] bO<|.i 1<|.a 0 2<|.sel [0,2,5]<|.cl 43 [(false,[2]),(false,[0])] eO<|.c 2<|.c 1<|.c 0<|.ret [(false,[4]),(true,[2,1,0])])<|.i 3<|.e 8 0<|.ite 0 (.i 999999999<|.i (-999999999)<|.i 999999998<|.i 65537<|.i 100000<|.c 4<|.c 3<|.c 2<|.c 1<|.c 0<|.po (.mk 3 1 [[4],[3],[2],[1],[0]])<|.sel [0,14]<|.cl 2000078 [(false,[1]),(false,[0])] bO<|.i 1<|.i 1<|.i 999999999<|.i 999999937<|.i 2<|.c 4<|.c 3<|.c 2<|.c 1<|.c 0<|.po (.mk 3 1 [[4],[3],[2],[1],[0]])<|.sel [0,6,7]<|.cl 2000078 [(false,[1]),(false,[0])] bO<|.cl 43 [(false,[4]),(false,[1])] eO<|.c 2<|.c 1<|.c 0<|.ret [(false,[3]),(true,[2,1,0])])<|.i 12<|.sel [0,9]<|.cl 2000050 [(false,[1]),(false,[0])] bO<|.i 3<|.b .sub 2 0<|.sel [0,2]<|.cl 65 [(false,[0])] eO<|.c 2<|.c 1<|.c 0<|.ret [(false,[4]),(true,[2,1,0])]
theorem wm:eJ Try.prog 80 Try.f80 cV wG vz 85=some ([],mN):=by kernel_rfl
def wv:List aP:=[⟨1000007,4,⟨[aa 25 25,al 9 4 4 0,aa 14 17,aa 8 14,al 7 2 2 0,al 6 1 1 0,bi 0 0 0,aa 1 1,aa 2 2],[(0,.cur 0 true 85 26),(1,.var 1 28 [.d 3,.nil,.nil,.nil,.nil,.nil,.d 4,.d 5]),(2,.var 2 28 [.d 1,.own 3 3,.nil,.nil,.nil,.nil,.d 7,.d 8]),(3,.row 3 42 3 16),(4,.var 4 42 [.d 27,.d 28,.d 29])],5,5,30,[(17,true)]⟩,[]⟩,⟨6,1,⟨[aa 25 25,al 9 4 4 0,aa 14 17,aa 8 14,al 7 2 2 0,al 6 1 1 0,bi 0 0 0,aa 1 1,aa 2 2],[(0,.cur 0 true 85 21),(1,.var 1 28 [.d 3,.nil,.nil,.nil,.nil,.nil,.d 4,.d 5]),(2,.var 2 28 [.d 1,.own 3 3,.nil,.nil,.nil,.nil,.d 7,.d 8]),(3,.row 3 42 3 16),(4,.var 4 42 [.d 18,.d 19,.d 20])],5,5,26,[(17,true)]⟩,[]⟩,⟨3000003,3,⟨[aa 8 14,al 7 2 2 0,al 6 1 1 0,bi 0 0 0,aa 1 1,aa 2 2],[(0,.cur 0 true 85 15),(1,.var 1 28 [.d 3,.nil,.nil,.nil,.nil,.nil,.d 4,.d 5]),(2,.var 2 28 [.d 1,.own 3 3,.nil,.nil,.nil,.nil,.d 7,.d 8]),(3,.row 3 42 3 16)],4,4,17,[]⟩,[⟨false,2,1,42,3⟩]⟩]
def wu:List (Nat×Nat×Bool×List Nat):=[]
def lf:UP:=.c 2<|.c 1<|.c 0<|.po (.mk 42 3 [[2,1,0]])<|.po (.flat 0)<|.po (.app 42 3 32 10 0)<|.i 1<|.a 13 0<|.jump 0 [0,7,2]
def lR:UP:=.join 4 lf<|.ite 0 (.sel [1,4]<|.cl 81 [(false,[1])] aD<|.i 2<|.b .rem 1 0<|.cl 65 [(false,[0])] eO<|.jump 1 [6,2,1,0])<|.i 3<|.e 8 0<|.ite 0 (.i 0<|.b .neq 6 0<|.ite 0 (.sel [5]<|.cl 2000082 [(false,[0])] bO<|.cl 66 [(false,[1])] eO<|.jump 1 [3,2,1,0])<|.jump 1 [5,8,7,6])<|.f<|.jump 1 [4,7,6,5]
def lM:UP:=.b .lss 2 7<|.ite 0 (.sel [1,2,3,9]<|.cl 2000080 [(false,[1])] [(true,[none,none,none],true),(false,[some (85,0)],true)]<|.i 0<|.i 0<|.s #[]<|.sel [3,4,5,6,7,9,10]<|.join 1 lR<|.i 1<|.e 7 0<|.ite 0 (.i 0<|.b .neq 5 0<|.jump 1 [0])<|.f<|.jump 1 [0])<|.c 9<|.po (.e 28 8)<|.po (.e 9 1)<|.po (.e 9 1)<|.po (.e 9 1)<|.c 11<|.c 10<|.ret [(false,[6]),(true,[13,5,3,2,1,0,11,10])]
def mB:UP:=.i 0<|.i 0<|.i 0<|.i 0<|.i 0<|.i 0<|.i 0<|.i 0<|.i 0<|.i 0<|.po (.e 42 3)<|.sel [0,1,5,6,11,12,13]<|.loop [1,6,0] lM
theorem vA:eJ Try.prog 49 Try.f49 cV wv wu 85=some ([(false,1),(false,1)],mB):=by kernel_rfl
def uM:List aP:=[]
def uy:List (Nat×Nat×Bool×List Nat):=[]
def lw:UP:=.i 0<|.i 0<|.b .leq 2 0<|.ite 0 (.i 0<|.c 0<|.ret [(false,[5]),(false,[0])])<|.i 256<|.b .leq 4 0<|.ite 0 (.sel [5,6]<|.cl 2000083 [(false,[1])] bO<|.b .rem 1 2<|.c 0<|.ret [(false,[1]),(false,[0])])<|.sel [5,6]<|.cl 2000083 [(false,[1])] bO<|.cl 2000083 [(false,[0])] bO<|.cl 2000083 [(false,[0])] bO<|.cl 2000083 [(false,[0])] bO<|.i 16777216<|.b .mul 8 0<|.i 65536<|.b .mul 8 0<|.a 2 0<|.i 256<|.b .mul 9 0<|.a 2 0<|.a 0 9<|.b .rem 0 17<|.c 0<|.ret [(false,[10]),(false,[0])]
theorem uY:eJ Try.prog 50 Try.f50 cV uM uy 85=some ([(false,1)],lw):=by kernel_rfl
def vE:List aP:=[]
def vR:List (Nat×Nat×Bool×List Nat):=[(4,14,false,[]),(3,10,false,[]),(2,13,false,[])]
def mI:UP:=.i 0<|.po (.unc 1 3)<|.i 6364136223846793005<|.b .mul 1 0<|.i 1442695040888963407<|.a 1 0<|.po (.cuS 8 2 0)<|.po (.unc 0 3)<|.c 0<|.po (.k (.int .u64 33))<|.b .shr 1 0<|.c 0<|.po (.unc 5 3)<|.c 0<|.po (.k (.int .u64 45))<|.b .shr 1 0<|.c 0<|.b .xor 5 0<|.c 0<|.i 255<|.b .and 1 0<|.c 0<|.c 0<|.po (.unc 13 3)<|.c 1<|.po (.unc 16 3)<|.l 2<|.c 0<|.b .lss 5 0<|.c 0<|.ite 0 (.po (.unc 21 3)<|.po (.unc 24 3)<|.c 1<|.z 1<|.x 1 5 1<|.c 0<|.po (.cvI .i64 0)<|.c 0<|.a 16 0<|.c 0<|.i 255<|.b .and 1 0<|.c 0<|.po (.unc 32 3)<|.i 1<|.a 2 0<|.po (.cuS 37 1 0)<|.c 6<|.ret [(false,[0]),(false,[6])])<|.c 8<|.ret [(false,[21]),(false,[8])]
theorem vC:eJ Try.prog 83 Try.f83 cV vE vR 85=some ([],mI):=by kernel_rfl
def yh:List aP:=[⟨3000003,2,⟨[aa 4 5,aa 3 6,aa 0 0],[],0,0,7,[]⟩,[]⟩]
def xY:List (Nat×Nat×Bool×List Nat):=[]
def m7:UP:=.l 6<|.b .lss 2 0<|.ite 0 (.i 4000<|.b .lss 4 0<|.ite 0 (.i 131<|.b .mul 5 0<|.z 7<|.x 1 12 7<|.po (.cvI .i64 0)<|.a 2 0<|.i 7<|.a 1 0<|.i 1073741823<|.b .and 1 0<|.i 1<|.a 15 0<|.jump 0 [0,2])<|.i 0<|.i 0<|.ret [(false,[12,1,6])])<|.f<|.i 0<|.i 0<|.ret [(false,[11,1,5])]
def ov:UP:=.l 0<|.i 10101<|.a 0 1<|.i 0<|.loop [0,1] m7
theorem xE:Es Try.prog 46 Try.f46 cV yh xY 85=some ([(false,1)],ov):=by kernel_rfl
def wb:List aP:=[]
def v9:List (Nat×Nat×Bool×List Nat):=[]
def m8:UP:=.f<|.cl 2000050 [(false,[2]),(false,[1])] bO<|.i 0<|.e 2 0<|.c 0<|.ret [(false,[2]),(false,[0])]
theorem vy:eJ Try.prog 48 Try.f48 cV wb v9 85=some ([(false,1)],m8):=by kernel_rfl
def vN:List aP:=[]
def wx:List (Nat×Nat×Bool×List Nat):=[]
def mP:UP:=.s #[]<|.l 1<|.cl 2000050 [(false,[3]),(false,[0])] bO<|.z 1<|.x 1 4 1<|.c 0<|.ret [(false,[1]),(false,[0])]
theorem vI:eJ Try.prog 94 Try.f94 cV vN wx 85=some ([(false,1)],mP):=by kernel_rfl
def qB:List aP:=[]
def qv:List (Nat×Nat×Bool×List Nat):=[]
def jG:UP:=.i 0<|.l 1<|.cl 2000050 [(false,[3]),(false,[0])] bO<|.z 1<|.x 1 4 1<|.c 0<|.ret [(false,[1]),(false,[0])]
theorem qS:eJ Try.prog 78 Try.f78 cV qB qv 85=some ([(false,1)],jG):=by kernel_rfl
open Int (reduceNeg reduceSub reduceMul reduceLT reduceLE reduceEq reduceToNat)
def Kz(n:Int):List DV:=[.sc (.int .u8 n)]
def aZ(l:List Int):DV:=.sl 5 1 (l.map Kz)
theorem C2{t:Nat}{l:List Int}{kd:IntKind}{z:Int}(h:0<=z)(h1:z<l.length):d6 1 (some (.sl t 1 (l.map Kz))) (some (.sc (.int kd z)))=some [.sc (.int .u8 (l.getD z.toNat default))]:=fc (λ_=>rfl) h h1
theorem Aw{α:Type}[Inhabited α]{l:List α}{i:Nat}(h:i<l.length):l.getD i default∈l:=by
 rw[List.getD_eq_getElem?_getD,List.getElem?_eq_getElem h];exact List.getElem_mem h
structure Cu where
 i:Int
 h:Int
def Cu.cs(c:Cu):List DV:=[.sc (.int .i64 c.i),.sc (.int .i64 c.h)]
theorem Nz(c:Cu):uN c.cs:=by intro x hx;simp only[Cu.cs,List.mem_cons,List.not_mem_nil,or_false]at hx;rcases hx with rfl|rfl<;>exact⟨_,rfl⟩
def Jn(a b:Int):Int:=IntKind.i64.wrap ((BitVec.ofInt 64 a ^^^ BitVec.ofInt 64 b).toNat:Nat)
def xM(a b:Int):Int:=IntKind.i64.wrap ((BitVec.ofInt 64 a &&& BitVec.ofInt 64 b).toNat:Nat)
theorem Gd{c:Bool}{a b:Int}:cq .xor c (some (.sc (.int .i64 a))) (some (.sc (.int .i64 b)))=some [.sc (.int .i64 (Jn a b))]:=by simp only[cq,hU,dP,if_true,t6,Jn];rfl
theorem xA{c:Bool}{a b:Int}:cq .and c (some (.sc (.int .i64 a))) (some (.sc (.int .i64 b)))=some [.sc (.int .i64 (xM a b))]:=by simp only[cq,hU,dP,if_true,t6,xM];rfl
theorem Kc{c:Bool}{k:IntKind}{a:Int}{b:Nat}(hb:b<=64):cq .shr c (some (.sc (.int .i64 a))) (some (.sc (.int k (b:Int))))=some [.sc (.int .i64 (a.fdiv (2^b)))]:=by
 have h1:¬(b:Int)<0:=by omega
 simp only[cq,hU,dP,if_neg h1,t6,IntKind.bits,Int.toNat_natCast,Nat.min_eq_left hb]
theorem Du(a:Int):0<=xM a 255/\xM a 255<=255:=by
 unfold xM
 have h:(BitVec.ofInt 64 a &&& BitVec.ofInt 64 255).toNat<=255:=by
  rw[BitVec.toNat_and];exact Nat.and_le_right
 generalize (BitVec.ofInt 64 a &&& BitVec.ofInt 64 255).toNat=n at h;simp only[IntKind.wrap,IntKind.bits,IntKind.signed];simp;omega
def s6(h:Int):Int:=IntKind.i64.wrap (IntKind.i64.wrap (h*6364136223846793005)+1442695040888963407)
def Hh(h:Int):Int:=xM (Jn (h.fdiv (2^33)) (h.fdiv (2^45))) 255
def fW(l:List Int)(c:Cu):Int:=if c.i<l.length then xM (IntKind.i64.wrap (Hh (s6 c.h)+IntKind.i64.wrap (l.getD c.i.toNat default))) 255 else Hh (s6 c.h)
def cn(l:List Int)(c:Cu):Cu:=⟨if c.i<l.length then c.i+1 else c.i,s6 c.h⟩
theorem o9(l:List Int)(c:Cu):0<=fW l c/\fW l c<=255:=by
 unfold fW;split
 ·exact Du _
 ·exact Du _
theorem dg{l:List Int}{c:Cu}(h:0<=c.i):0<=(cn l c).i:=by
 unfold cn;simp only;split<;>omega
theorem BN{ty:Nat}{x a b:DV}:RW 3 (some (iP ty x [a,b]))=some [x,a,b]:=rfl
theorem Bk{ty:Nat}{x a b:DV}{kd:IntKind}{n:Int}:Jj 2 (some (iP ty x [a,b])) (some (.sc (.int kd n)))=some [iP ty x [a,.sc (.int kd n)]]:=NX (off:=1) rfl (by simp)
theorem B9{ty:Nat}{x a b:DV}{kd:IntKind}{n:Int}:Jj 1 (some (iP ty x [a,b])) (some (.sc (.int kd n)))=some [iP ty x [.sc (.int kd n),b]]:=NX (off:=0) rfl (by simp)
theorem AK(l:List Int)(c:Cu)(hc:0<=c.i)(hl:l.length<=4611686018427387904):cG Try.prog 83 85 (aZ l) c.cs [] [(false,[.sc (.int .i64 (fW l c))],true)] (cn l c).cs:=by
 obtain⟨i,h⟩:=c;simp only at hc;have s33:=λa:Int=>@Kc false .u64 a 33 (by decide)
 have s45:=λa:Int=>@Kc false .u64 a 45 (by decide)
 have k1:∀n:Int,pB (.int .i64 n)=true:=λ_=>rfl
 refine ge Try.func83 vC rfl (by simp) ?_;simp only[mI];simp only[Cu.cs,aZ];by_cases hi:i<l.length
 ·have hbv:fW l ⟨i,h⟩=xM (IntKind.i64.wrap (Hh (s6 h)+IntKind.i64.wrap (l.getD i.toNat default))) 255:=by unfold fW;rw[if_pos hi]
  have hbc:(cn l ⟨i,h⟩).i=i+1:=by unfold cn;rw[if_pos hi]
  have hbh:(cn l ⟨i,h⟩).h=s6 h:=rfl;rw[hbv,hbc,hbh];unfold Hh s6;simp(disch:=first|omega) only[go_sem,↓reduceIte,Nat.reduceAdd,reduceNeg,Int.reduceAdd,reduceSub,reduceMul,reduceLT,reduceLE,reduceEq,reduceToNat,Nat.reduceBEq,BN,Bk,B9,s33,s45,Gd,xA,C2];refine di (λhbr=>?_) (λhbr=>absurd (by simpa only[List.length_map]using hi) hbr);simp(disch:=first|omega) only[go_sem,↓reduceIte,Nat.reduceAdd,reduceNeg,Int.reduceAdd,reduceSub,reduceMul,reduceLT,reduceLE,reduceEq,reduceToNat,Nat.reduceBEq,BN,Bk,B9,s33,s45,Gd,xA,C2];unfold xM Jn;exact⟨_,_,rfl,rfl⟩
 ·have hbv:fW l ⟨i,h⟩=Hh (s6 h):=by unfold fW;rw[if_neg hi]
  have hbc:(cn l ⟨i,h⟩).i=i:=by unfold cn;rw[if_neg hi]
  have hbh:(cn l ⟨i,h⟩).h=s6 h:=rfl;rw[hbv,hbc,hbh];unfold Hh s6;simp(disch:=first|omega) only[go_sem,↓reduceIte,Nat.reduceAdd,reduceNeg,Int.reduceAdd,reduceSub,reduceMul,reduceLT,reduceLE,reduceEq,reduceToNat,Nat.reduceBEq,BN,Bk,B9,s33,s45,Gd,xA,C2];refine di (λhbr=>absurd (by simpa only[List.length_map]using hbr) hi) (λhbr=>?_);simp(disch:=first|omega) only[go_sem,↓reduceIte,Nat.reduceAdd,reduceNeg,Int.reduceAdd,reduceSub,reduceMul,reduceLT,reduceLE,reduceEq,reduceToNat,Nat.reduceBEq,BN,Bk,B9,s33,s45,Gd,xA,C2];unfold xM Jn;exact⟨_,_,rfl,rfl⟩
def Po(l:List Int):Nat->Int
 |0=>10101+l.length
 |i+1=>xM (IntKind.i64.wrap (IntKind.i64.wrap (IntKind.i64.wrap (Po l i*131)+IntKind.i64.wrap (l.getD i default))+7)) 1073741823
def Py(l:List Int):Cu:=⟨0,Po l (min l.length 4000)⟩
theorem Tf(l:List Int)(hl:l.length<=4611686018427387904):oM Try.prog 46 [(false,[aZ l])] 85 (aZ l) (Py l).cs:=by
 refine EY Try.func46 xE rfl (Nz _) ?_;simp only[ov];simp only[aZ,Py,Cu.cs];simp(disch:=first|omega|(simp only[aq];omega)|simp only[ap,Nat.reduceAdd]) only[go_sem,true_and];refine U3 (min l.length 4000) (λi=>[.sc (.int .i64 i),.sc (.int .i64 (Po l i))]) rfl λi hi=>?_
 simp only[m7]
 repeat' (first|(with_reducible first|refine ac ?_|refine ab ‹_› rfl ?_|refine ai (λhbr=>?_) λhbr=>?_)|simp(disch:=first|omega|(simp only[aq];omega)|simp only[ap,Nat.reduceAdd]) only[go_sem,C2,Ff,xA])
 ·exact⟨rfl,by omega⟩
 ·obtain rfl:i=min l.length 4000:=by omega
  rfl
 ·obtain rfl:i=min l.length 4000:=by omega
  rfl
def mb(l:List Int)(c:Cu)(n:Int):Int:=
 if n<=0 then 0 else if n<=256 then(fW l c).tmod n else
 let c1:=cn l c
 let c2:=cn l c1
 let c3:=cn l c2
 (IntKind.i64.wrap (IntKind.i64.wrap (IntKind.i64.wrap (IntKind.i64.wrap (fW l c*16777216)+IntKind.i64.wrap (fW l c1*65536))+IntKind.i64.wrap (fW l c2*256))+fW l c3)).tmod n
def nR(l:List Int)(c:Cu)(n:Int):Cu:=if n<=0 then c else if n<=256 then cn l c else cn l (cn l (cn l (cn l c)))
theorem wX(l:List Int)(c:Cu)(n:Int)(hc:0<=c.i)(hl:l.length<=4611686018427387904)(hn:n<=4611686018427387904):cG Try.prog 50 85 (aZ l) c.cs [(false,[.sc (.int .i64 n)])] [(false,[.sc (.int .i64 (mb l c n))],true)] (nR l c n).cs:=by
 have b1:=AK l c hc hl;have b2:=AK l (cn l c) (dg hc) hl;have b3:=AK l (cn l (cn l c)) (dg (dg hc)) hl;have b4:=AK l (cn l (cn l (cn l c))) (dg (dg (dg hc))) hl;refine ge Try.func50 uY rfl (by simp) ?_;simp only[lw];simp(disch:=first|omega|(simp only[aq];omega)|simp only[ap,Nat.reduceAdd]) only[go_sem,true_and];refine di (λhbr=>?_) (λhbr=>?_)
 ·simp(disch:=first|omega|(simp only[aq];omega)|simp only[ap,Nat.reduceAdd]) only[go_sem,true_and];rw[mb,nR,if_pos hbr,if_pos hbr];exact⟨_,_,rfl,rfl⟩
 ·simp(disch:=first|omega|(simp only[aq];omega)|simp only[ap,Nat.reduceAdd]) only[go_sem,true_and];rw[mb,nR,if_neg hbr,if_neg hbr];refine di (λhb2=>?_) (λhb2=>?_)
  ·rw[if_pos hb2,if_pos hb2];simp(disch:=first|omega|(simp only[aq];omega)|simp only[ap,Nat.reduceAdd]) only[go_sem,true_and];refine aO b1 rfl ?_;simp(disch:=first|omega|(simp only[aq];omega)|simp only[ap,Nat.reduceAdd]) only[go_sem,true_and];exact⟨_,_,rfl,rfl⟩
  ·rw[if_neg hb2,if_neg hb2];simp(disch:=first|omega|(simp only[aq];omega)|simp only[ap,Nat.reduceAdd]) only[go_sem,true_and];refine aO b1 rfl ?_;simp(disch:=first|omega|(simp only[aq];omega)|simp only[ap,Nat.reduceAdd]) only[go_sem,true_and];refine aO b2 rfl ?_;simp(disch:=first|omega|(simp only[aq];omega)|simp only[ap,Nat.reduceAdd]) only[go_sem,true_and];refine aO b3 rfl ?_;simp(disch:=first|omega|(simp only[aq];omega)|simp only[ap,Nat.reduceAdd]) only[go_sem,true_and];refine aO b4 rfl ?_;simp(disch:=first|omega|(simp only[aq];omega)|simp only[ap,Nat.reduceAdd]) only[go_sem,true_and];exact⟨_,_,rfl,rfl⟩
theorem jw(l:List Int)(c:Cu){n:Int}(hn:0<n):0<=mb l c n/\mb l c n<n:=by
 have b1:=o9 l c;have b2:=o9 l (cn l c);have b3:=o9 l (cn l (cn l c));have b4:=o9 l (cn l (cn l (cn l c)));have key:∀x:Int,0<=x->0<=x.tmod n/\x.tmod n<n:=λx hx=>⟨Int.tmod_nonneg n hx,Int.tmod_lt_of_pos x hn⟩
 unfold mb;rw[if_neg (by omega)];split
 ·exact key _ b1.1
 ·refine key _ ?_;rw[gr (z:=fW l c*16777216) (by omega) (by omega),gr (z:=fW l (cn l c)*65536) (by omega) (by omega),gr (z:=fW l (cn l (cn l c))*256) (by omega) (by omega),gr (z:=_+fW l (cn l c)*65536) (by omega) (by omega),gr (z:=_+fW l (cn l (cn l c))*256) (by omega) (by omega)]
  first|omega|(rw[gr (by omega) (by omega)];omega)
theorem mc{l:List Int}{c:Cu}{n:Int}(h:0<=c.i):0<=(nR l c n).i:=by
 unfold nR;split
 ·exact h
 ·split
  ·exact dg h
  ·exact dg (dg (dg (dg h)))
theorem P4(l:List Int)(c:Cu)(n:Int)(hc:0<=c.i)(hl:l.length<=4611686018427387904)(hn:n<=4611686018427387904):cG Try.prog 48 85 (aZ l) c.cs [(false,[.sc (.int .i64 n)])] [(false,[.sc (.bool (decide (mb l c n=0)))],true)] (nR l c n).cs:=by
 have b1:=wX l c n hc hl hn;refine ge Try.func48 vy rfl (by simp) ?_;simp only[m8];simp(disch:=first|omega|(simp only[aq];omega)|simp only[ap,Nat.reduceAdd]) only[go_sem,true_and];refine aO b1 rfl ?_;simp(disch:=first|omega|(simp only[aq];omega)|simp only[ap,Nat.reduceAdd]) only[go_sem,true_and];exact⟨_,_,rfl,rfl⟩
theorem Q9(t:Nat)(l:List Int)(c:Cu)(p:List ByteArray)(hc:0<=c.i)(hl:l.length<=4611686018427387904)(h0:p≠[])(hp:p.length<=1000000):cG Try.prog 94 85 (aZ l) c.cs [(false,[.sl t 1 (p.map bQ)])] [(false,[.sc (.string (p.getD (mb l c p.length).toNat default))],true)] (nR l c p.length).cs:=by
 have b1:=wX l c p.length hc hl (by omega);have hr:=jw l c (n:=p.length) (by have:=List.length_pos_iff.2 h0;omega);refine ge Try.func94 vI rfl (by simp) ?_;simp only[mP];simp(disch:=first|omega|(simp only[aq];omega)|simp only[ap,Nat.reduceAdd]) only[go_sem,true_and];refine aO b1 rfl ?_;simp(disch:=first|omega|(simp only[aq];omega)|simp only[ap,Nat.reduceAdd]) only[go_sem,Cd];exact⟨_,_,rfl,rfl⟩
theorem M1(t:Nat)(l:List Int)(c:Cu)(p:List Int)(hc:0<=c.i)(hl:l.length<=4611686018427387904)(h0:p≠[])(hp:p.length<=1000000):cG Try.prog 78 85 (aZ l) c.cs [(false,[.sl t 1 (p.map dD)])] [(false,[.sc (.int .i64 (p.getD (mb l c p.length).toNat default))],true)] (nR l c p.length).cs:=by
 have b1:=wX l c p.length hc hl (by omega);have hr:=jw l c (n:=p.length) (by have:=List.length_pos_iff.2 h0;omega);refine ge Try.func78 qS rfl (by simp) ?_;simp only[jG];simp(disch:=first|omega|(simp only[aq];omega)|simp only[ap,Nat.reduceAdd]) only[go_sem,true_and];refine aO b1 rfl ?_;simp(disch:=first|omega|(simp only[aq];omega)|simp only[ap,Nat.reduceAdd]) only[go_sem,sC];exact⟨_,_,rfl,rfl⟩
theorem eM(l:List Int)(c:Cu)(n:Int)(hc:0<=c.i)(hl:l.length<=1048576)(h0:0<n)(hn:n<=4611686018427387904):∃(v:Int) (c':Cu),(0<=v/\v<n)/\0<=c'.i/\cG Try.prog 50 85 (aZ l) c.cs [(false,[.sc (.int .i64 n)])] [(false,[.sc (.int .i64 v)],true)] c'.cs:=
 ⟨_,_,jw l c h0,mc hc,wX l c n hc (by omega) hn⟩
theorem NI(l:List Int)(hl:l.length<=1048576):∃c':Cu,0<=c'.i/\oM Try.prog 46 [(false,[aZ l])] 85 (aZ l) c'.cs:=⟨Py l,Int.le_refl 0,Tf l (by omega)⟩
theorem Gh(l:List Int)(c:Cu)(n:Int)(hc:0<=c.i)(hl:l.length<=1048576)(hn:n<=4611686018427387904):∃(b:Bool) (c':Cu),0<=c'.i/\cG Try.prog 48 85 (aZ l) c.cs [(false,[.sc (.int .i64 n)])] [(false,[.sc (.bool b)],true)] c'.cs:=
 ⟨_,_,mc hc,P4 l c n hc (by omega) hn⟩
theorem xn(t:Nat)(l:List Int)(c:Cu)(p:List Int)(hc:0<=c.i)(hl:l.length<=1048576)(h0:p≠[])(hp:p.length<=1000000):∃(v:Int) (c':Cu),v∈p/\0<=c'.i/\cG Try.prog 78 85 (aZ l) c.cs [(false,[.sl t 1 (p.map dD)])] [(false,[.sc (.int .i64 v)],true)] c'.cs:=
 ⟨_,_,Aw (by have hr:=jw l c (n:=p.length) (by have:=List.length_pos_iff.2 h0;omega);omega),mc hc,M1 t l c p hc (by omega) h0 hp⟩
theorem NW(t:Nat)(l:List Int)(c:Cu)(p:List ByteArray)(hc:0<=c.i)(hl:l.length<=1048576)(h0:p≠[])(hp:p.length<=1000000):∃(v:ByteArray) (c':Cu),v∈p/\0<=c'.i/\cG Try.prog 94 85 (aZ l) c.cs [(false,[.sl t 1 (p.map bQ)])] [(false,[.sc (.string v)],true)] c'.cs:=
 ⟨_,_,Aw (by have hr:=jw l c (n:=p.length) (by have:=List.length_pos_iff.2 h0;omega);omega),mc hc,Q9 t l c p hc (by omega) h0 hp⟩
theorem J7{x:It}(h:cI x=true):x.text.size<=60:=by
 unfold cI at h;simp only[Bool.and_eq_true,decide_eq_true_eq]at h;rw[h.1];decide
theorem tf(n d:Int):(nA n d).text.size<=60:=by
 rcases J6 n d with h|h
 ·rw[h];decide
 ·exact J7 h
theorem BX(n:Int):(Dp n).text.size<=60:=by show(ByteArray.empty).size<=60;decide
theorem qt(n d:Int):aI Try.prog 43 [(false,[.sc (.int .i64 n)]),(false,[.sc (.int .i64 d)])] [(true,au (nA n d),true)]:=
 ja [(false,[.int .i64 n]),(false,[.int .i64 d])] (true,Ou (nA n d)) (by kernel_rfl) (by simp) (BC _) (by simp) (λw=>rD n d w)
set_option maxHeartbeats 2000000 in
theorem DX(l:List Int)(c:Cu)(hc:0<=c.i)(hl:l.length<=1048576):∃a:It×Cu,(a.1.text.size<=60/\0<=a.2.i)/\cG Try.prog 80 85 (aZ l) c.cs [] [(true,au a.1,true)] a.2.cs:=by
 refine ff Try.func80 wm rfl (by intro a;simp) (by kernel_rfl) ?_;simp only[mN];simp(disch:=first|omega|(simp only[aq];omega)|simp only[ap,Nat.reduceAdd]) only[go_sem,true_and];obtain⟨k,c1,hk,h1,hcb⟩:=eM l c 12 (by first|assumption|omega) (by omega) (by omega) (by omega);refine aO hcb rfl ?_;clear hcb;simp(disch:=first|omega|(simp only[aq];omega)|simp only[ap,Nat.reduceAdd]) only[go_sem,true_and];refine di (λhbr=>?_) (λhbr=>?_)
 ·simp(disch:=first|omega|(simp only[aq];omega)|simp only[ap,Nat.reduceAdd]) only[go_sem,true_and];exact⟨(bA,c1),⟨by show(ByteArray.empty).size<=60;decide,h1⟩,_,_,rfl,rfl⟩
 simp(disch:=first|omega|(simp only[aq];omega)|simp only[ap,Nat.reduceAdd]) only[go_sem,true_and];refine di (λhbr=>?_) (λhbr=>?_)
 ·simp(disch:=first|omega|(simp only[aq];omega)|simp only[ap,Nat.reduceAdd]) only[go_sem,true_and];obtain⟨n,c2,hn,h2,hcb⟩:=eM l c1 13 (by first|assumption|omega) (by omega) (by omega) (by omega);refine aO hcb rfl ?_;clear hcb;simp(disch:=first|omega|(simp only[aq];omega)|simp only[ap,Nat.reduceAdd]) only[go_sem,true_and];obtain⟨d,c3,hd,h3,hcb⟩:=eM l c2 6 (by first|assumption|omega) (by omega) (by omega) (by omega);refine aO hcb rfl ?_;clear hcb;simp(disch:=first|omega|(simp only[aq];omega)|simp only[ap,Nat.reduceAdd]) only[go_sem,true_and];refine ab (qt _ _) rfl ?_;simp(disch:=first|omega|(simp only[aq];omega)|simp only[ap,Nat.reduceAdd]) only[go_sem,au];exact⟨(_,c3),⟨tf _ _,h3⟩,_,_,rfl,rfl⟩
 simp(disch:=first|omega|(simp only[aq];omega)|simp only[ap,Nat.reduceAdd]) only[go_sem,true_and];refine di (λhbr=>?_) (λhbr=>?_)
 ·simp(disch:=first|omega|(simp only[aq];omega)|simp only[ap,Nat.reduceAdd]) only[go_sem,true_and];obtain⟨n,c2,hn,h2,hcb⟩:=eM l c1 13 (by first|assumption|omega) (by omega) (by omega) (by omega);refine aO hcb rfl ?_;clear hcb;simp(disch:=first|omega|(simp only[aq];omega)|simp only[ap,Nat.reduceAdd]) only[go_sem,true_and];obtain⟨d,c3,hd,h3,hcb⟩:=eM l c2 6 (by first|assumption|omega) (by omega) (by omega) (by omega);refine aO hcb rfl ?_;clear hcb;simp(disch:=first|omega|(simp only[aq];omega)|simp only[ap,Nat.reduceAdd]) only[go_sem,true_and];refine ab (qt _ _) rfl ?_;simp(disch:=first|omega|(simp only[aq];omega)|simp only[ap,Nat.reduceAdd]) only[go_sem,au];exact⟨(_,c3),⟨tf _ _,h3⟩,_,_,rfl,rfl⟩
 simp(disch:=first|omega|(simp only[aq];omega)|simp only[ap,Nat.reduceAdd]) only[go_sem,true_and];refine di (λhbr=>?_) (λhbr=>?_)
 ·simp(disch:=first|omega|(simp only[aq];omega)|simp only[ap,Nat.reduceAdd]) only[go_sem,true_and];obtain⟨n,c2,hn,h2,hcb⟩:=xn 3 l c1 [999999999,-999999999,999999998,65537,100000] (by first|assumption|omega) (by omega) (by simp) (by simp);refine aO hcb rfl ?_;clear hcb;simp(disch:=first|omega|(simp only[aq];omega)|simp only[ap,Nat.reduceAdd]) only[go_sem,true_and];obtain⟨d,c3,hd,h3,hcb⟩:=xn 3 l c2 [1,1,999999999,999999937,2] (by first|assumption|omega) (by omega) (by simp) (by simp);refine aO hcb rfl ?_;clear hcb;simp(disch:=first|omega|(simp only[aq];omega)|simp only[ap,Nat.reduceAdd]) only[go_sem,true_and];refine ab (qt _ _) rfl ?_;simp(disch:=first|omega|(simp only[aq];omega)|simp only[ap,Nat.reduceAdd]) only[go_sem,au];exact⟨(_,c3),⟨tf _ _,h3⟩,_,_,rfl,rfl⟩
 simp(disch:=first|omega|(simp only[aq];omega)|simp only[ap,Nat.reduceAdd]) only[go_sem,true_and];obtain⟨n,c2,hn,h2,hcb⟩:=eM l c1 12 (by first|assumption|omega) (by omega) (by omega) (by omega);refine aO hcb rfl ?_;clear hcb;simp(disch:=first|omega|(simp only[aq];omega)|simp only[ap,Nat.reduceAdd]) only[go_sem,true_and];refine ab (Bq _) rfl ?_;simp(disch:=first|omega|(simp only[aq];omega)|simp only[ap,Nat.reduceAdd]) only[go_sem,au];exact⟨(_,c2),⟨BX _,h2⟩,_,_,rfl,rfl⟩
theorem Mg(n:Int):∃m:Int,aI Try.prog 81 [(false,[.sc (.int .i64 n)])] [(false,[.sc (.int .i64 m)],true)]:=by
 by_cases h:n<0
 ·refine⟨IntKind.i64.wrap (0-n),?_⟩;refine ah Try.func81 nM rfl ?_;simp only[jN]
  repeat' (first|(with_reducible first|refine ac ?_|refine ab ‹_› rfl ?_|refine ai (λhbr=>?_) λhbr=>?_)|simp(disch:=first|omega|(simp only[aq];omega)|simp only[ap,Nat.reduceAdd]) only[go_sem,true_and])
  all_goals first|omega|rfl|(trace_state;sorry)
 ·refine⟨n,?_⟩;refine ah Try.func81 nM rfl ?_;simp only[jN]
  repeat' (first|(with_reducible first|refine ac ?_|refine ab ‹_› rfl ?_|refine ai (λhbr=>?_) λhbr=>?_)|simp(disch:=first|omega|(simp only[aq];omega)|simp only[ap,Nat.reduceAdd]) only[go_sem,true_and])
  all_goals first|omega|rfl|(trace_state;sorry)
def NR:List ByteArray:=[⟨#[97]⟩,⟨#[98]⟩,⟨#[120]⟩,⟨#[121]⟩,⟨#[97,108,112,104,97]⟩,⟨#[97,108]⟩,⟨#[]⟩,⟨#[110,32,49]⟩,⟨#[34]⟩,⟨#[92]⟩,⟨#[10]⟩,⟨#[128]⟩,⟨#[102,60,45]⟩,⟨#[105,102]⟩,⟨#[46,46,46]⟩,⟨#[46,49]⟩,⟨#[95,97]⟩,⟨#[97,46,98]⟩,⟨#[97,114,101,97,46,115,113,117,97,114,101]⟩,⟨#[116,119,101,110,116,121,46,98,121,116,101,115,46,105,110,46,104,101,114,101]⟩,⟨#[116,119,101,110,116,121,49,46,98,121,116,101,115,46,105,110,46,104,101,114,101]⟩]
theorem LU:∀x∈NR,x.size<=60:=by decide
theorem J9(l:List Int)(c:Cu)(hc:0<=c.i)(hl:l.length<=1048576):∃a:ByteArray×Cu,(a.1.size<=60/\0<=a.2.i)/\cG Try.prog 82 85 (aZ l) c.cs [] [(false,[.sc (.string a.1)],true)] a.2.cs:=by
 refine ff Try.func82 we rfl (by intro a;simp) (by kernel_rfl) ?_;simp only[m5];simp(disch:=first|omega|(simp only[aq];omega)|simp only[ap,Nat.reduceAdd]) only[go_sem,true_and];obtain⟨s,c1,hs,h1,hcb⟩:=NW 9 l c NR hc hl (by decide) (by decide);refine aO hcb rfl ?_;clear hcb;simp(disch:=first|omega|(simp only[aq];omega)|simp only[ap,Nat.reduceAdd]) only[go_sem,true_and];exact⟨(s,c1),⟨LU s hs,h1⟩,_,_,rfl,rfl⟩
theorem rH{α:Type}{P:α->Prop}{l:List α}{y:α}(h:∀x∈l,P x)(hy:P y):∀x∈l++[y],P x:=λx hx=>by
 rcases List.mem_append.1 hx with hx|hx
 ·exact h x hx
 ·rw[List.mem_singleton.1 hx];exact hy
set_option maxHeartbeats 4000000 in
theorem tr(l:List Int)(c:Cu)(kind:Int)(n:Nat)(hn:n<=100)(hc:0<=c.i)(hl:l.length<=1048576):∃a:List It×Cu,((a.1.length=n/\∀x∈a.1,x.text.size<=60)/\0<=a.2.i)/\cG Try.prog 49 85 (aZ l) c.cs [(false,[.sc (.int .i64 kind)]),(false,[.sc (.int .i64 n)])] [(true,eF kind a.1,true)] a.2.cs:=by
 refine ff Try.func49 vA rfl (by intro a;simp) (by kernel_rfl) ?_;simp only[mB];simp(disch:=first|omega|(simp only[aq];omega)|simp only[ap,Nat.reduceAdd]) only[go_sem,true_and];refine lp (λs:Nat×Cu×List It=>[.sc (.int .i64 s.1),iP 85 (aZ l) s.2.1.cs,.sl 42 3 (s.2.2.map au)]) (λs=>s.1<=n/\0<=s.2.1.i/\s.2.2.length=s.1/\∀x∈s.2.2,x.text.size<=60) (λs=>n-s.1) (0,c,[]) rfl ⟨Nat.zero_le _,hc,rfl,by simp⟩ ?_;rintro⟨i,c,cs⟩ ⟨g1,g2,g3,g4⟩;simp only at g1 g2 g3 g4 ⊢;simp only[lM];simp(disch:=first|omega|(simp only[aq];omega)|simp only[ap,Nat.reduceAdd]) only[go_sem,true_and];refine di (λhbr=>?_) (λhbr=>?_)
 ·simp(disch:=first|omega|(simp only[aq];omega)|simp only[ap,Nat.reduceAdd]) only[go_sem,true_and];obtain⟨⟨x,c1⟩,⟨t1,h1⟩,hcb⟩:=DX l c g2 hl;simp only at t1 h1 hcb;refine aO hcb rfl ?_;clear hcb;simp(disch:=first|omega|(simp only[aq];omega)|simp only[ap,Nat.reduceAdd]) only[go_sem,au];refine jn (λvs=>∃b:Bool,vs=[.sc (.bool b)]) ?_ ?_
  ·repeat' (first|(with_reducible first|refine ac ?_|refine ab ‹_› rfl ?_|refine ai (λhbr=>?_) λhbr=>?_)|simp(disch:=first|omega|(simp only[aq];omega)|simp only[ap,Nat.reduceAdd]) only[go_sem,true_and])
   all_goals first|exact⟨_,rfl⟩|(trace_state;sorry)
  rintro vs - ⟨b,rfl⟩;simp only[lR];simp(disch:=first|omega|(simp only[aq];omega)|simp only[ap,Nat.reduceAdd]) only[go_sem,true_and];refine jn (λvs=>∃(y:It) (c2:Cu),vs=iP 85 (aZ l) c2.cs::au y/\y.text.size<=60/\0<=c2.i) ?_ ?_
  ·cases b;rotate_left
   ·simp(disch:=first|omega|(simp only[aq];omega)|simp only[ap,Nat.reduceAdd]) only[go_sem,true_and];obtain⟨z,hz⟩:=Mg x.num;refine ab hz rfl ?_;simp(disch:=first|omega|(simp only[aq];omega)|simp only[ap,Nat.reduceAdd]) only[go_sem,true_and];refine ab (Bq _) rfl ?_;simp(disch:=first|omega|(simp only[aq];omega)|simp only[ap,Nat.reduceAdd]) only[go_sem,au];exact⟨Dp _,c1,rfl,BX _,h1⟩
   ·repeat' (first|(with_reducible first|refine ac ?_|refine ab ‹_› rfl ?_|refine ai (λhbr=>?_) λhbr=>?_)|simp(disch:=first|omega|(simp only[aq];omega)|simp only[ap,Nat.reduceAdd]) only[go_sem,true_and])
    all_goals first|exact⟨x,c1,rfl,t1,h1⟩|skip
    ·obtain⟨⟨s,c2⟩,⟨t2,h2⟩,hcb⟩:=J9 l c1 h1 hl;simp only at t2 h2 hcb;refine aO hcb rfl ?_;simp(disch:=first|omega|(simp only[aq];omega)|simp only[ap,Nat.reduceAdd]) only[go_sem,true_and];refine ab (lK s) rfl ?_;simp(disch:=first|omega|(simp only[aq];omega)|simp only[ap,Nat.reduceAdd]) only[go_sem,au];exact⟨vr s,c2,rfl,t2,h2⟩
  rintro vs - ⟨y,c2,rfl,t2,h2⟩;simp only[lf,au];simp(disch:=first|omega|(simp only[aq];omega)|simp only[ap,Nat.reduceAdd]) only[go_sem,gn];exact⟨(i+1,c2,cs++[y]),by simp[au],⟨by simp only;omega,h2,by simp[g3],rH g4 t2⟩,by simp only;omega⟩
 ·simp(disch:=first|omega|(simp only[aq];omega)|simp only[ap,Nat.reduceAdd]) only[go_sem,true_and];exact⟨(cs,c),⟨⟨by simp only;omega,g4⟩,g2⟩,_,_,rfl,rfl⟩
def J3:List ByteArray:=[⟨#[97]⟩,⟨#[98]⟩,⟨#[99]⟩]
def Ny:ByteArray:=⟨#[102,97,99,116,111,114]⟩
set_option maxHeartbeats 4000000 in
theorem Fl(l:List Int)(c:Cu)(n:Nat)(hn:n<=100)(hc:0<=c.i)(hl:l.length<=1048576):∃a:(List It×Nat)×Cu,((a.1.1.length=n/\(∀x∈a.1.1,x.text.size<=60)/\a.1.2<=3)/\0<=a.2.i)/\cG Try.prog 93 85 (aZ l) c.cs [(false,[.sc (.int .i64 n)])] [(true,aj (.mk 2 a.1.1 [] [] [Ny] (J3.take a.1.2) 0 0),true)] a.2.cs:=by
 refine ff Try.func93 sd rfl (by intro a;simp) (by kernel_rfl) ?_;simp only[kz];simp(disch:=first|omega|(simp only[aq];omega)|simp only[ap,Nat.reduceAdd]) only[go_sem,true_and];obtain⟨k,c1,hk,h1,hcb⟩:=eM l c 3 (by first|assumption|omega) (by omega) (by omega) (by omega);refine aO hcb rfl ?_;clear hcb;simp(disch:=first|omega|(simp only[aq];omega)|simp only[ap,Nat.reduceAdd]) only[go_sem,true_and];obtain⟨k,rfl⟩:=Int.eq_ofNat_of_zero_le hk.1;refine lp (λs:Nat×Cu×List It=>[.sc (.int .i64 s.1),iP 85 (aZ l) s.2.1.cs,.sl 42 3 (s.2.2.map au)]) (λs=>s.1<=n/\0<=s.2.1.i/\s.2.2.length=s.1/\∀x∈s.2.2,x.text.size<=60) (λs=>n-s.1) (0,c1,[]) rfl ⟨Nat.zero_le _,h1,rfl,by simp⟩ ?_;rintro⟨i,c,cs⟩ ⟨g1,g2,g3,g4⟩;simp only at g1 g2 g3 g4 ⊢;simp only[jC];simp(disch:=first|omega|(simp only[aq];omega)|simp only[ap,Nat.reduceAdd]) only[go_sem,true_and];refine di (λhbr=>?_) (λhbr=>?_)
 ·simp(disch:=first|omega|(simp only[aq];omega)|simp only[ap,Nat.reduceAdd]) only[go_sem,true_and];refine ac ?_;simp(disch:=first|omega|(simp only[aq];omega)|simp only[ap,Nat.reduceAdd]) only[go_sem,true_and];obtain⟨z,c2,hz,h2,hcb⟩:=eM l c (1+k) g2 hl (by omega) (by omega);refine aO hcb rfl ?_;clear hcb;simp(disch:=first|omega|(simp only[aq];omega)|simp only[ap,Nat.reduceAdd]) only[go_sem,true_and];refine ab (Bq _) rfl ?_;simp(disch:=first|omega|(simp only[aq];omega)|simp only[ap,Nat.reduceAdd]) only[go_sem,au];obtain⟨b,c3,h3,hcb⟩:=Gh l c2 7 (by first|assumption|omega) (by omega) (by omega);refine aO hcb rfl ?_;clear hcb;simp(disch:=first|omega|(simp only[aq];omega)|simp only[ap,Nat.reduceAdd]) only[go_sem,true_and];have done:∀y:It,y.text.size<=60->∃a':Nat×Cu×List It,[.sc (.int .i64 ((i+1:Nat):Int)),iP 85 (aZ l) c3.cs,.sl 42 3 ((cs.map au)++[au y])]=[.sc (.int .i64 (a'.1:Int)),iP 85 (aZ l) a'.2.1.cs,.sl 42 3 (a'.2.2.map au)]/\(a'.1<=n/\0<=a'.2.1.i/\a'.2.2.length=a'.1/\∀x∈a'.2.2,x.text.size<=60)/\n-a'.1<n-i:=λy hy=>⟨(i+1,c3,cs++[y]),by simp,⟨by simp only;omega,h3,by simp[g3],rH g4 hy⟩,by simp only;omega⟩
  cases b
  ·simp(disch:=first|omega|(simp only[aq];omega)|simp only[ap,Nat.reduceAdd]) only[go_sem,eT,gn];exact done (Dp (1+z)) (BX _)
  ·simp(disch:=first|omega|(simp only[aq];omega)|simp only[ap,Nat.reduceAdd]) only[go_sem,eT,gn];exact done bA (by show(ByteArray.empty).size<=60;decide)
 ·have lU:Dd (some (.sl 9 1 [[.sc (.string ⟨#[97]⟩)],[.sc (.string ⟨#[98]⟩)],[.sc (.string ⟨#[99]⟩)]])) (some (.sc (.int .i64 0))) (some (.sc (.int .i64 (1+(k:Int)))))=some [.sl 9 1 ((J3.take (k+1)).map bQ)]:=by
   have:=EM (t:=9) (k:=1) (e:=bQ) (l:=J3) (v:=1+(k:Int)) (by show 1+(k:Int)<=3;omega);rw[show(1+(k:Int)).toNat=k+1 by omega]at this;exact this
  simp(disch:=first|omega|(simp only[aq];omega)|simp only[ap,Nat.reduceAdd]) only[go_sem,lU];exact⟨((cs,k+1),c),⟨⟨by simp only;omega,g4,by simp only;omega⟩,g2⟩,_,_,rfl,by simp only[aj,af,av,List.map_nil,List.map_cons,Ny];rfl⟩
theorem QS(p:List ByteArray)(hp:∀x∈p,x.size<=60)(hpl:p.length<=40):∃v:aX,ck v<=20000/\aI Try.prog 92 [(false,[.sl 9 1 (p.map bQ)])] [(true,aj v,true)]:=by
 have hw:ck (fV 3 (p.map vr))<=20000:=pW (λx hx=>by obtain⟨y,hy,rfl⟩:=List.mem_map.1 hx;have:=hp y hy;show y.size<=100;omega) (by simp;omega);have hw0:ck (fV 0 [])<=20000:=pW (λx hx=>by cases hx) (by simp);have h1:=eN _ (Nat.le_trans hw (by decide));refine⟨if cd (fV 3 (p.map vr))=true then fV 3 (p.map vr)else fV 0 [],by split<;>assumption,?_⟩;simp only[aj,fV,af,av,List.map_nil]at h1;refine ah Try.func92 pI rfl ?_;simp only[iv];simp(disch:=first|omega|(simp only[aq];omega)|simp only[ap,Nat.reduceAdd]) only[go_sem,true_and];refine jn (λvs=>∃(b:Bool) (i:DV),vs=[.sc (.bool b),i,.sl 42 3 ((p.map vr).map au)]) ?_ ?_
 ·simp(disch:=first|omega|(simp only[aq];omega)|simp only[ap,Nat.reduceAdd]) only[go_sem,true_and];refine lp (λi:Nat=>[.sc (.int .i64 i),.sl 42 3 (((p.take i).map vr).map au)]) (λi=>i<=p.length) (λi=>p.length-i) 0 rfl (Nat.zero_le _) ?_;intro i hi;simp only[gJ];by_cases hlt:i<p.length
  ·have hix:=Cd (t:=9) (l:=p) (kd:=.i64) (z:=(i:Int)) (by omega) (by omega);rw[Int.toNat_natCast]at hix;have ht:=lK (p.getD i default);have hap:((p.take i).map vr).map au++[au (vr (p.getD i default))]=((p.take (i+1)).map vr).map au:=by rw[bm hlt];simp
   generalize vr (p.getD i default)=y at ht hap;generalize p.getD i default=x at hix ht;simp only[au]at hix ht hap
   repeat' (first|(with_reducible first|refine ac ?_|refine ab ‹_› rfl ?_|refine ai (λhbr=>?_) λhbr=>?_)|simp(disch:=first|omega|(simp only[aq];omega)|simp only[ap,Nat.reduceAdd]) only[go_sem,hix,gn,hap])
   all_goals first|omega|exact⟨i+1,rfl,by omega,by omega⟩|(trace_state;sorry)
  ·obtain rfl:i=p.length:=by omega
   rw[List.take_length]
   repeat' (first|(with_reducible first|refine ac ?_|refine ab ‹_› rfl ?_|refine ai (λhbr=>?_) λhbr=>?_)|simp(disch:=first|omega|(simp only[aq];omega)|simp only[ap,Nat.reduceAdd]) only[go_sem,true_and])
   all_goals first|omega|exact⟨_,_,rfl⟩|(trace_state;sorry)
 rintro vs - ⟨b,i,rfl⟩;simp only[gG];by_cases hv:cd (fV 3 (p.map vr))=true
 ·rw[if_pos hv];have hv:cd (.mk 3 (p.map vr) [] [] [] [] 0 0)=true:=hv;rw[hv]at h1;simp only[aj,fV,af,av,List.map_nil]
  repeat' (first|(with_reducible first|refine ac ?_|refine ab ‹_› rfl ?_|refine ai (λhbr=>?_) λhbr=>?_)|simp(disch:=first|omega|(simp only[aq];omega)|simp only[ap,Nat.reduceAdd]) only[go_sem,true_and])
  all_goals first|omega|rfl|(trace_state;sorry)
 ·rw[if_neg hv];have hv:¬cd (.mk 3 (p.map vr) [] [] [] [] 0 0)=true:=hv;rw[Bool.eq_false_iff.2 hv]at h1;simp only[aj,fV,af,av,List.map_nil]
  repeat' (first|(with_reducible first|refine ac ?_|refine ab ‹_› rfl ?_|refine ai (λhbr=>?_) λhbr=>?_)|simp(disch:=first|omega|(simp only[aq];omega)|simp only[ap,Nat.reduceAdd]) only[go_sem,true_and])
  all_goals first|omega|rfl|(trace_state;sorry)
theorem LQ(l:List Int)(c:Cu)(hc:0<=c.i)(hl:l.length<=1048576):∃a:It×Cu,(a.1.text.size<=60/\0<=a.2.i)/\cG Try.prog 79 85 (aZ l) c.cs [] [(true,au a.1,true)] a.2.cs:=by
 refine ff Try.func79 xm rfl (by intro a;simp) (by kernel_rfl) ?_;simp only[nQ];simp(disch:=first|omega|(simp only[aq];omega)|simp only[ap,Nat.reduceAdd]) only[go_sem,true_and];obtain⟨⟨x,c1⟩,⟨t1,h1⟩,hcb⟩:=DX l c hc hl;simp only at t1 h1 hcb;refine aO hcb rfl ?_;clear hcb;simp(disch:=first|omega|(simp only[aq];omega)|simp only[ap,Nat.reduceAdd]) only[go_sem,au];obtain⟨k,c2,hk,h2,hcb⟩:=eM l c1 20 (by first|assumption|omega) (by omega) (by omega) (by omega);refine aO hcb rfl ?_;clear hcb;simp(disch:=first|omega|(simp only[aq];omega)|simp only[ap,Nat.reduceAdd]) only[go_sem,true_and];refine ai (λhbr=>?_) (λhbr=>?_)
 ·simp(disch:=first|omega|(simp only[aq];omega)|simp only[ap,Nat.reduceAdd]) only[go_sem,true_and];exact⟨(⟨x.num,x.den,⟨#[97]⟩⟩,c2),⟨by show(⟨#[97]⟩:ByteArray).size<=60;decide,h2⟩,_,_,rfl,rfl⟩
 simp(disch:=first|omega|(simp only[aq];omega)|simp only[ap,Nat.reduceAdd]) only[go_sem,true_and];refine ai (λhbr=>?_) (λhbr=>?_)
 ·simp(disch:=first|omega|(simp only[aq];omega)|simp only[ap,Nat.reduceAdd]) only[go_sem,true_and];obtain⟨d,c3,hd,h3,hcb⟩:=xn 3 l c2 [0,-1,2,1000000000,-9223372036854775808] (by first|assumption|omega) (by omega) (by simp) (by simp);refine aO hcb rfl ?_;clear hcb;simp(disch:=first|omega|(simp only[aq];omega)|simp only[ap,Nat.reduceAdd]) only[go_sem,true_and];exact⟨(⟨x.num,d,x.text⟩,c3),⟨t1,h3⟩,_,_,rfl,rfl⟩
 simp(disch:=first|omega|(simp only[aq];omega)|simp only[ap,Nat.reduceAdd]) only[go_sem,true_and];refine ai (λhbr=>?_) (λhbr=>?_)
 ·simp(disch:=first|omega|(simp only[aq];omega)|simp only[ap,Nat.reduceAdd]) only[go_sem,true_and];obtain⟨d,c3,hd,h3,hcb⟩:=xn 3 l c2 [0,1000000000,-9223372036854775808,9223372036854775807] (by first|assumption|omega) (by omega) (by simp) (by simp);refine aO hcb rfl ?_;clear hcb;simp(disch:=first|omega|(simp only[aq];omega)|simp only[ap,Nat.reduceAdd]) only[go_sem,true_and];exact⟨(⟨d,x.den,x.text⟩,c3),⟨t1,h3⟩,_,_,rfl,rfl⟩
 ·simp(disch:=first|omega|(simp only[aq];omega)|simp only[ap,Nat.reduceAdd]) only[go_sem,true_and];exact⟨(x,c2),⟨t1,h2⟩,_,_,rfl,rfl⟩
theorem Oy{k:Int}{its:List It}{ps:List aX}{ns cl lv:List ByteArray}{c e:Int}{B:Nat}(h1:∀x∈its,x.text.size<=60)(h2:its.length<=50)(h3:∀p∈ps,ck p<=B)(h4:ps.length<=6)
 (h5:∀x∈ns,x.size<=60) (h6:ns.length<=10) (h7:∀x∈cl,x.size<=60) (h8:cl.length<=3) (h9:∀x∈lv,x.size<=60) (h10:lv.length<=3):ck (.mk k its ps ns cl lv c e)<=5000+6*B:=by
 have a1:=wT h1 h2;have a2:=ep h5 h6;have a3:=ep h7 h8;have a4:=ep h9 h10;have a5:=fG ck B ps h3;have a6:ps.length*B<=6*B:=Nat.mul_le_mul_right _ h4;rw[eV];omega
structure Dv(B:Nat)(its:List It)(ps:List aX)(ns cl lv:List ByteArray):Prop where
 h1:∀x∈its,x.text.size<=60
 h2:its.length<=50
 h3:∀p∈ps,ck p<=B
 h4:ps.length<=6
 h5:∀x∈ns,x.size<=60
 h6:ns.length<=10
 h7:∀x∈cl,x.size<=60
 h8:cl.length<=3
 h9:∀x∈lv,x.size<=60
 h10:lv.length<=3
def Vk:List ByteArray:=[⟨#[97]⟩,⟨#[98]⟩,⟨#[120]⟩,⟨#[]⟩,⟨#[97,108]⟩,⟨#[110,32,49]⟩,⟨#[97,108,112,104,97]⟩,⟨#[105,102]⟩]
theorem Td:∀x∈Vk,x.size<=60:=by decide
def T5:List ByteArray:=[⟨#[115,113,117,97,114,101]⟩,⟨#[115,104,97,112,101]⟩]
def QP:Nat->Nat
 |0=>5000
 |d+1=>5000+6*QP d
def U0(d:Nat):Prop:=∀(l:List Int) (c:Cu),0<=c.i->l.length<=1048576->∃a:aX×Cu,(ck a.1<=QP d/\0<=a.2.i)/\cG Try.prog 77 85 (aZ l) c.cs [(false,[.sc (.int .i64 d)])] [(true,aj a.1,true)] a.2.cs
set_option maxHeartbeats 8000000 in
theorem DN(d:Nat)(hd:d<=2)(B:Nat)(hB:5000+6*B=QP d)(ih:0<d->∃d',d=d'+1/\QP d'=B/\U0 d'):U0 d:=by
 intro l c hc hl;refine ff Try.func77 vD rfl (by intro a;simp) (by kernel_rfl) ?_;simp only[mG];simp(disch:=first|omega|(simp only[aq];omega)|simp only[ap,Nat.reduceAdd]) only[go_sem,true_and];obtain⟨kind,c1,hk,h1,hcb⟩:=xn 3 l c [1,2,2,2,3,3,4,6,0,5,2,3] hc hl (by simp) (by simp);refine aO hcb rfl ?_;clear hcb;simp(disch:=first|omega|(simp only[aq];omega)|simp only[ap,Nat.reduceAdd]) only[go_sem,true_and];obtain⟨n,c2,hn,h2,hcb⟩:=xn 3 l c1 [1,2,3,0,1,4,2,6] h1 hl (by simp) (by simp);refine aO hcb rfl ?_;clear hcb;simp(disch:=first|omega|(simp only[aq];omega)|simp only[ap,Nat.reduceAdd]) only[go_sem,true_and];have hn6:0<=n/\n<=6:=by simp at hn;omega
 obtain⟨n,rfl⟩:=Int.eq_ofNat_of_zero_le hn6.1;refine jn (λvs=>∃(x y z:DV) (k:Int) (its:List It) (ps:List aX) (cl lv:List ByteArray) (cc ee:Int) (c3:Cu),vs=[x,y,z,iP 85 (aZ l) c3.cs,.sc (.int .i64 k),.sc (.int .i64 cc),.sc (.int .i64 ee),.sl 9 1 (lv.map bQ),.sl 9 1 (cl.map bQ),.sl 9 1 [],.sl 28 8 (ps.map aj),.sl 42 3 (its.map au)]/\Dv B its ps [] cl lv/\0<=c3.i) ?_ ?_
 ·repeat' (first|(with_reducible first|refine ab ‹_› rfl ?_|refine ai (λhbr=>?_) λhbr=>?_)|simp(disch:=first|omega|(simp only[aq];omega)|simp only[ap,Nat.reduceAdd]) only[go_sem,true_and])
  ·refine⟨(fV 0 [],c2),⟨?_,h2⟩,_,_,rfl,by simp only[aj,fV,af,av,List.map_nil];rfl⟩;rw[<-hB];exact Oy (by simp) (by simp) (by simp) (by simp) (by simp) (by simp) (by simp) (by simp) (by simp) (by simp)
  ·obtain⟨z,c3,hz,h3,hcb⟩:=eM l c2 4 (by first|assumption|omega) (by omega) (by omega) (by omega);refine aO hcb rfl ?_;clear hcb;simp(disch:=first|omega|(simp only[aq];omega)|simp only[ap,Nat.reduceAdd]) only[go_sem,true_and];refine⟨(.mk 5 [] [] [] [] [] (z-2) 0,c3),⟨?_,h3⟩,_,_,rfl,by simp only[aj,af,av,List.map_nil];rfl⟩;rw[<-hB];exact Oy (by simp) (by simp) (by simp) (by simp) (by simp) (by simp) (by simp) (by simp) (by simp) (by simp)
  ·obtain⟨⟨⟨its,j⟩,c3⟩,⟨⟨z1,z2,z3⟩,h3⟩,hcb⟩:=Fl l c2 n (by omega) h2 hl;simp only at z1 z2 z3 h3 hcb;simp only[aj,af,av,List.map_nil]at hcb;refine aO hcb rfl ?_;simp(disch:=first|omega|(simp only[aq];omega)|simp only[ap,Nat.reduceAdd]) only[go_sem,true_and];have habc:∀x∈J3,x.size<=60:=by decide
   exact⟨_,_,_,2,its,[],[Ny],J3.take j,0,0,c3,rfl,⟨z2,by omega,by simp,by simp,by simp,by simp,by simp[Ny,TU],by simp,λx hx=>habc x (List.mem_of_mem_take hx),by simp;omega⟩,h3⟩
  ·obtain⟨d',rfl,hbd,hrec⟩:=ih (by omega);refine lp (λs:Nat×Cu×List aX=>[.sc (.int .i64 s.1),iP 85 (aZ l) s.2.1.cs,.sl 28 8 (s.2.2.map aj)]) (λs=>s.1<=n/\0<=s.2.1.i/\s.2.2.length=s.1/\∀x∈s.2.2,ck x<=B) (λs=>n-s.1) (0,c2,[]) rfl ⟨Nat.zero_le _,h2,rfl,by simp⟩ ?_;rintro⟨i,c,cs⟩ ⟨g1,g2,g3,g4⟩;simp only at g1 g2 g3 g4 ⊢;simp only[lW];simp(disch:=first|omega|(simp only[aq];omega)|simp only[ap,Nat.reduceAdd]) only[go_sem,true_and];refine di (λhbr=>?_) (λhbr=>?_)
   ·simp(disch:=first|omega|(simp only[aq];omega)|simp only[ap,Nat.reduceAdd]) only[go_sem,true_and];obtain⟨⟨v,c3⟩,⟨z1,h3⟩,hcb⟩:=hrec l c g2 hl;simp only at z1 h3 hcb;rw[hbd]at z1;have hap:=fE (t:=28) (ti:=42) (l:=cs) (v:=v) (by omega);have hd1:((d'+1:Nat):Int)-1=(d':Int):=by omega
    obtain⟨v0,v1,v2,v3,v4,v5,v6,v7⟩:=v;simp only[aj,af,av]at hcb hap;simp(disch:=first|omega|(simp only[aq];omega)|simp only[ap,Nat.reduceAdd]) only[go_sem,hd1];refine aO hcb rfl ?_;clear hcb;simp(disch:=first|omega|(simp only[aq];omega)|simp only[ap,Nat.reduceAdd]) only[go_sem,hap];exact⟨(i+1,c3,cs++[.mk v0 v1 v2 v3 v4 v5 v6 v7]),rfl,⟨by simp only;omega,h3,by simp[g3],rH g4 z1⟩,by simp only;omega⟩
   ·simp(disch:=first|omega|(simp only[aq];omega)|simp only[ap,Nat.reduceAdd]) only[go_sem,true_and];exact⟨_,_,_,4,[],cs,[],[],0,0,c,rfl,⟨by simp,by simp,g4,by omega,by simp,by simp,by simp,by simp,by simp,by simp⟩,g2⟩
  all_goals
   obtain⟨⟨its,c3⟩,⟨⟨z1,z2⟩,h3⟩,hcb⟩:=tr l c2 (min kind 3) n (by omega) h2 hl;simp only at z1 z2 h3 hcb;simp only[eF]at hcb;refine aO hcb rfl ?_;simp(disch:=first|omega|(simp only[aq];omega)|simp only[ap,Nat.reduceAdd]) only[go_sem,true_and];exact⟨_,_,_,min kind 3,its,[],[],[],0,0,c3,rfl,⟨z2,by omega,by simp,by simp,by simp,by simp,by simp,by simp,by simp,by simp⟩,h3⟩
 rintro vs - ⟨x,y,z,k,its,ps,cl,lv,cc,ee,c3,rfl,hD,h3⟩;simp only[lu];simp(disch:=first|omega|(simp only[aq];omega)|simp only[ap,Nat.reduceAdd]) only[go_sem,true_and];obtain⟨b,c4,h4,hcb⟩:=Gh l c3 2 (by first|assumption|omega) (by omega) (by omega);refine aO hcb rfl ?_;clear hcb;simp(disch:=first|omega|(simp only[aq];omega)|simp only[ap,Nat.reduceAdd]) only[go_sem,true_and];refine jn (λvs=>∃(ns:List ByteArray) (c5:Cu),vs=[iP 85 (aZ l) c5.cs,.sc (.int .i64 k),.sc (.int .i64 cc),.sc (.int .i64 ee),.sl 9 1 (lv.map bQ),.sl 9 1 (cl.map bQ),.sl 9 1 (ns.map bQ),.sl 28 8 (ps.map aj),.sl 42 3 (its.map au)]/\Dv B its ps ns cl lv/\0<=c5.i) ?_ ?_
 ·cases b
  ·simp(disch:=first|omega|(simp only[aq];omega)|simp only[ap,Nat.reduceAdd]) only[go_sem,true_and];exact⟨[],c4,rfl,hD,h4⟩
  ·simp(disch:=first|omega|(simp only[aq];omega)|simp only[ap,Nat.reduceAdd]) only[go_sem,true_and];refine lp (λs:Nat×Cu×List ByteArray=>[.sc (.int .i64 s.1),iP 85 (aZ l) s.2.1.cs,.sl 9 1 (s.2.2.map bQ)]) (λs=>s.1<=n/\0<=s.2.1.i/\s.2.2.length=s.1/\∀x∈s.2.2,x.size<=60) (λs=>n-s.1) (0,c4,[]) rfl ⟨Nat.zero_le _,h4,rfl,by simp⟩ ?_;rintro⟨i,c,cs⟩ ⟨g1,g2,g3,g4⟩;simp only at g1 g2 g3 g4 ⊢;simp only[lD];simp(disch:=first|omega|(simp only[aq];omega)|simp only[ap,Nat.reduceAdd]) only[go_sem,true_and];refine di (λhbr=>?_) (λhbr=>?_)
   ·simp(disch:=first|omega|(simp only[aq];omega)|simp only[ap,Nat.reduceAdd]) only[go_sem,true_and];obtain⟨s,c5,hs,h5,hcb⟩:=NW 9 l c Vk g2 hl (by decide) (by decide);refine aO hcb rfl ?_;clear hcb;simp(disch:=first|omega|(simp only[aq];omega)|simp only[ap,Nat.reduceAdd]) only[go_sem,kP];exact⟨(i+1,c5,cs++[s]),rfl,⟨by simp only;omega,h5,by simp[g3],rH g4 (Td s hs)⟩,by simp only;omega⟩
   ·have hcl:=xL k its ps cs cl lv cc ee (by omega);simp only[aj,af,av]at hcl;simp(disch:=first|omega|(simp only[aq];omega)|simp only[ap,Nat.reduceAdd]) only[go_sem,true_and];refine gY (f:=34) (bits:=1) (by decide) hcl rfl ?_;simp(disch:=first|omega|(simp only[aq];omega)|simp only[ap,Nat.reduceAdd]) only[go_sem,true_and];refine⟨rx cs,c,rfl,⟨hD.h1,hD.h2,hD.h3,hD.h4,λx hx=>g4 x (Gx hx),?_,hD.h7,hD.h8,hD.h9,hD.h10⟩,g2⟩;rcases A5 cs with h|h
    ·rw[h];simp
    ·omega
 rintro vs - ⟨ns,c5,rfl,hD,h5⟩;simp only[ll]
 have fin:∀c6:Cu,0<=c6.i->∀cl2:List ByteArray,(∀x∈cl2,x.size<=60)->cl2.length<=3->(∃a:aX×Cu,(ck a.1<=QP d/\0<=a.2.i)/\Uc 85 [(true,aj a.1,true)] a.2.cs [(false,[iP 85 (aZ l) c6.cs]),(true,[.sc (.int .i64 k),.sl 42 3 (its.map au),.sl 28 8 (ps.map aj),.sl 9 1 (ns.map bQ),.sl 9 1 (cl2.map bQ),.sl 9 1 (lv.map bQ),.sc (.int .i64 cc),.sc (.int .i64 ee)])]):=λc6 h6 cl2 e1 e2=>by
  refine⟨(.mk k its ps ns cl2 lv cc ee,c6),⟨?_,h6⟩,_,_,rfl,by simp only[aj,af,av];rfl⟩;rw[<-hB];exact Oy hD.h1 hD.h2 hD.h3 hD.h4 hD.h5 hD.h6 e1 e2 hD.h9 hD.h10
 simp(disch:=first|omega|(simp only[aq];omega)|simp only[ap,Nat.reduceAdd]) only[go_sem,true_and];refine ai (λhbr=>?_) (λhbr=>?_)
 ·simp(disch:=first|omega|(simp only[aq];omega)|simp only[ap,Nat.reduceAdd]) only[go_sem,true_and];obtain⟨b2,c6,h6,hcb⟩:=Gh l c5 9 (by first|assumption|omega) (by omega) (by omega);refine aO hcb rfl ?_;clear hcb;simp(disch:=first|omega|(simp only[aq];omega)|simp only[ap,Nat.reduceAdd]) only[go_sem,true_and];cases b2
  ·simp(disch:=first|omega|(simp only[aq];omega)|simp only[ap,Nat.reduceAdd]) only[go_sem,true_and];exact fin c6 h6 cl hD.h7 hD.h8
  ·simp(disch:=first|omega|(simp only[aq];omega)|simp only[ap,Nat.reduceAdd]) only[go_sem,true_and];obtain⟨q,c7,hq,h7,hcb⟩:=eM l c6 2 (by first|assumption|omega) (by omega) (by omega) (by omega);refine aO hcb rfl ?_;clear hcb;simp(disch:=first|omega|(simp only[aq];omega)|simp only[ap,Nat.reduceAdd]) only[go_sem,true_and];have lU:Dd (some (.sl 9 1 [[.sc (.string ⟨#[115,113,117,97,114,101]⟩)],[.sc (.string ⟨#[115,104,97,112,101]⟩)]])) (some (.sc (.int .i64 0))) (some (.sc (.int .i64 (1+q))))=some [.sl 9 1 ((T5.take (1+q).toNat).map bQ)]:=EM (t:=9) (k:=1) (e:=bQ) (l:=T5) (v:=1+q) (by show 1+q<=2;omega);simp(disch:=first|omega|(simp only[aq];omega)|simp only[ap,Nat.reduceAdd]) only[go_sem,lU];exact fin c7 h7 _ (λx hx=>(by decide:∀x∈T5,x.size<=60) x (List.mem_of_mem_take hx)) (by simp[T5];omega)
 ·simp(disch:=first|omega|(simp only[aq];omega)|simp only[ap,Nat.reduceAdd]) only[go_sem,true_and];exact fin c5 h5 cl hD.h7 hD.h8
theorem DP:∀d:Nat,d<=2->U0 d
 |0,_=>DN 0 (by omega) 0 rfl λh=>absurd h (by omega)
 |d+1,h=>DN (d+1) h (QP d) rfl λ_=>⟨d,rfl,rfl,DP d (by omega)⟩
theorem GR(l:List ByteArray)(s:ByteArray):qe (l++[s])=qe l+(1+s.size):=by
 unfold qe;rw[sv,sv,uL];simp[bg];omega
theorem GO(l:List It)(x:It):iT (l++[x])=iT l+(1+x.text.size):=by
 unfold iT;rw[uL];simp[bg,yE];omega
theorem Up:QP 2=215000:=rfl
set_option maxHeartbeats 4000000 in
theorem Bb(l:List Int)(c:Cu)(hc:0<=c.i)(hl:l.length<=1048576):∃a:aX×Cu,(ck a.1<=300000/\0<=a.2.i)/\cG Try.prog 47 85 (aZ l) c.cs [] [(true,aj a.1,true)] a.2.cs:=by
 refine ff Try.func47 yO rfl (by intro a;simp) (by kernel_rfl) ?_;simp only[nG];simp(disch:=first|omega|(simp only[aq];omega)|simp only[ap,Nat.reduceAdd]) only[go_sem,true_and];obtain⟨⟨v,c1⟩,⟨t1,h1⟩,hcb⟩:=DP 2 (by omega) l c hc hl;simp only at t1 h1 hcb;rw[Up]at t1;obtain⟨k,its,ps,ns,cl,lv,cc,ee⟩:=v;simp only[aj,af,av]at hcb;refine aO hcb rfl ?_;clear hcb;obtain⟨b1,b2,b3,b4,b5,b6⟩:=rU (Nat.le_trans t1 (by decide));rw[eV]at t1;simp(disch:=first|omega|(simp only[aq];omega)|simp only[ap,Nat.reduceAdd]) only[go_sem,true_and];obtain⟨q,c2,hq,h2,hcb⟩:=eM l c1 30 (by first|assumption|omega) (by omega) (by omega) (by omega);refine aO hcb rfl ?_;clear hcb;simp(disch:=first|omega|(simp only[aq];omega)|simp only[ap,Nat.reduceAdd]) only[go_sem,true_and];refine ai (λhbr=>?_) (λhbr=>?_)
 ·simp(disch:=first|omega|(simp only[aq];omega)|simp only[ap,Nat.reduceAdd]) only[go_sem,true_and];obtain⟨kk,c3,hkk,h3,hcb⟩:=xn 3 l c2 [-1,6,0,3,1,-9223372036854775808] (by first|assumption|omega) (by omega) (by simp) (by simp);refine aO hcb rfl ?_;clear hcb;simp(disch:=first|omega|(simp only[aq];omega)|simp only[ap,Nat.reduceAdd]) only[go_sem,true_and];exact⟨(.mk kk its ps ns cl lv cc ee,c3),⟨by simp only;rw[eV];omega,h3⟩,_,_,rfl,by simp only[aj,af,av];rfl⟩
 simp(disch:=first|omega|(simp only[aq];omega)|simp only[ap,Nat.reduceAdd]) only[go_sem,true_and];refine ai (λhbr=>?_) (λhbr=>?_)
 ·simp(disch:=first|omega|(simp only[aq];omega)|simp only[ap,Nat.reduceAdd]) only[go_sem,kP];exact⟨(.mk k its ps (ns++[⟨#[122]⟩]) cl lv cc ee,c2),⟨by simp only;rw[eV,GR];simp only[TU,List.size_toArray,List.length_cons,List.length_nil];omega,h2⟩,_,_,rfl,by simp only[aj,af,av];rfl⟩
 simp(disch:=first|omega|(simp only[aq];omega)|simp only[ap,Nat.reduceAdd]) only[go_sem,true_and];refine ai (λhbr=>?_) (λhbr=>?_)
 ·simp(disch:=first|omega|(simp only[aq];omega)|simp only[ap,Nat.reduceAdd]) only[go_sem,true_and];obtain⟨⟨x,c3⟩,⟨t3,h3⟩,hcb⟩:=LQ l c2 h2 hl;simp only at t3 h3 hcb;have hap:its.map au++[au x]=(its++[x]).map au:=by simp
  simp only[au]at hcb hap;refine aO hcb rfl ?_;clear hcb;simp(disch:=first|omega|(simp only[aq];omega)|simp only[ap,Nat.reduceAdd]) only[go_sem,gn,hap];exact⟨(.mk k (its++[x]) ps ns cl lv cc ee,c3),⟨by simp only;rw[eV,GO];omega,h3⟩,_,_,rfl,by simp only[aj,af,av];rfl⟩
 simp(disch:=first|omega|(simp only[aq];omega)|simp only[ap,Nat.reduceAdd]) only[go_sem,true_and];refine ai (λhbr=>?_) (λhbr=>?_)
 ·simp(disch:=first|omega|(simp only[aq];omega)|simp only[ap,Nat.reduceAdd]) only[go_sem,true_and];exact⟨(.mk k its ps ns cl [⟨#[97]⟩,⟨#[97]⟩] cc ee,c2),⟨by simp only;rw[eV];have:qe [⟨#[97]⟩,⟨#[97]⟩]=4:=rfl;omega,h2⟩,_,_,rfl,by simp only[aj,af,av];rfl⟩
 simp(disch:=first|omega|(simp only[aq];omega)|simp only[ap,Nat.reduceAdd]) only[go_sem,true_and];refine ai (λhbr=>?_) (λhbr=>?_)
 ·simp(disch:=first|omega|(simp only[aq];omega)|simp only[ap,Nat.reduceAdd]) only[go_sem,true_and];exact⟨(.mk k its ps ns cl lv 1 ee,c2),⟨by simp only;rw[eV];omega,h2⟩,_,_,rfl,by simp only[aj,af,av];rfl⟩
 simp(disch:=first|omega|(simp only[aq];omega)|simp only[ap,Nat.reduceAdd]) only[go_sem,true_and];refine ai (λhbr=>?_) (λhbr=>?_)
 ·simp(disch:=first|omega|(simp only[aq];omega)|simp only[ap,Nat.reduceAdd]) only[go_sem,true_and];obtain⟨⟨is2,c3⟩,⟨⟨z1,z2⟩,h3⟩,hcb⟩:=tr l c2 2 41 (by omega) h2 hl;simp only at z1 z2 h3 hcb;have hb:ck (fV 2 is2)<=300000:=Nat.le_trans (pW (λx hx=>by have:=z2 x hx;omega) (by omega)) (by decide);simp only[eF]at hcb;refine aO hcb rfl ?_;clear hcb;simp(disch:=first|omega|(simp only[aq];omega)|simp only[ap,Nat.reduceAdd]) only[go_sem,true_and];exact⟨(fV 2 is2,c3),⟨hb,h3⟩,_,_,rfl,by simp only[aj,fV,af,av,List.map_nil];rfl⟩
 ·simp(disch:=first|omega|(simp only[aq];omega)|simp only[ap,Nat.reduceAdd]) only[go_sem,true_and];exact⟨(.mk k its ps ns cl lv cc ee,c2),⟨by simp only;rw[eV];omega,h2⟩,_,_,rfl,by simp only[aj,af,av];rfl⟩
def TY:List Int:=[-1,-2,0]
def SS:List ByteArray:=[⟨#[97]⟩,⟨#[98]⟩,⟨#[120]⟩,⟨#[97,108]⟩]
set_option maxHeartbeats 4000000 in
theorem Nw(l:List Int)(c:Cu)(n:Nat)(hn:n<=4)(hc:0<=c.i)(hl:l.length<=1048576):∃a:aX×Cu,(ck a.1<=300000/\0<=a.2.i)/\cG Try.prog 76 85 (aZ l) c.cs [(false,[.sc (.int .i64 n)])] [(true,aj a.1,true)] a.2.cs:=by
 have atom:∀(c:Cu) (k:Int) (m:Int),0<=c.i->0<=m/\m<=100->∃a:aX×Cu,(ck a.1<=300000/\0<=a.2.i)/\cG Try.prog 49 85 (aZ l) c.cs [(false,[.sc (.int .i64 k)]),(false,[.sc (.int .i64 m)])] [(true,aj a.1,true)] a.2.cs:=λc k m h hm=>by
  obtain⟨m,rfl⟩:=Int.eq_ofNat_of_zero_le hm.1;obtain⟨⟨is2,c3⟩,⟨⟨z1,z2⟩,h3⟩,hcb⟩:=tr l c k m (by omega) h hl;simp only at z1 z2 h3 hcb;exact⟨(fV k is2,c3),⟨Nat.le_trans (pW (λx hx=>by have:=z2 x hx;omega) (by omega)) (by decide),h3⟩,by rw[mn];exact hcb⟩
 have numv:∀p:List Int,p.length<=100->∃v:aX,ck v<=300000/\aI Try.prog 13 [(false,[.sl 3 1 (p.map dD)])] [(true,aj v,true)]:=λp hp=>by
  refine⟨fV (la p).1 (la p).2,Nat.le_trans (pW ?_ ?_) (by decide),by rw[mn];exact yX _ p (by omega)⟩
  ·intro x hx;unfold la at hx;split at hx
   ·cases hx
   ·obtain⟨y,hy,rfl⟩:=List.mem_map.1 hx;have:=tf y 1;omega
  ·unfold la;split<;>simp;omega
 refine ff Try.func76 oE rfl (by intro a;simp) (by kernel_rfl) ?_;simp only[gV];simp(disch:=first|omega|(simp only[aq];omega)|simp only[ap,Nat.reduceAdd]) only[go_sem,true_and];obtain⟨k,c1,hk,h1,hcb⟩:=eM l c 8 (by first|assumption|omega) (by omega) (by omega) (by omega);refine aO hcb rfl ?_;clear hcb;simp(disch:=first|omega|(simp only[aq];omega)|simp only[ap,Nat.reduceAdd]) only[go_sem,true_and];refine ai (λhbr=>?_) (λhbr=>?_)
 ·simp(disch:=first|omega|(simp only[aq];omega)|simp only[ap,Nat.reduceAdd]) only[go_sem,true_and];obtain⟨⟨v,c2⟩,⟨t2,h2⟩,hcb⟩:=Bb l c1 h1 hl;simp only at t2 h2 hcb;obtain⟨v0,v1,v2,v3,v4,v5,v6,v7⟩:=v;simp only[aj,af,av]at hcb;refine aO hcb rfl ?_;simp(disch:=first|omega|(simp only[aq];omega)|simp only[ap,Nat.reduceAdd]) only[go_sem,true_and];exact⟨(_,c2),⟨t2,h2⟩,_,_,rfl,by simp only[aj,af,av];rfl⟩
 simp(disch:=first|omega|(simp only[aq];omega)|simp only[ap,Nat.reduceAdd]) only[go_sem,true_and];refine ai (λhbr=>?_) (λhbr=>?_)
 ·simp(disch:=first|omega|(simp only[aq];omega)|simp only[ap,Nat.reduceAdd]) only[go_sem,true_and];obtain⟨q,c2,hq,h2,hcb⟩:=eM l c1 (n+2) h1 hl (by omega) (by omega);refine aO hcb rfl ?_;clear hcb;simp(disch:=first|omega|(simp only[aq];omega)|simp only[ap,Nat.reduceAdd]) only[go_sem,true_and];obtain⟨⟨v,c3⟩,⟨t2,h3⟩,hcb⟩:=atom c2 1 q h2 (by omega);simp only at t2 h3 hcb;obtain⟨v0,v1,v2,v3,v4,v5,v6,v7⟩:=v;simp only[aj,af,av]at hcb;refine aO hcb rfl ?_;simp(disch:=first|omega|(simp only[aq];omega)|simp only[ap,Nat.reduceAdd]) only[go_sem,true_and];exact⟨(_,c3),⟨t2,h3⟩,_,_,rfl,by simp only[aj,af,av];rfl⟩
 simp(disch:=first|omega|(simp only[aq];omega)|simp only[ap,Nat.reduceAdd]) only[go_sem,true_and];refine ai (λhbr=>?_) (λhbr=>?_)
 ·simp(disch:=first|omega|(simp only[aq];omega)|simp only[ap,Nat.reduceAdd]) only[go_sem,true_and];obtain⟨q,c2,hq,h2,hcb⟩:=eM l c1 4 (by first|assumption|omega) (by omega) (by omega) (by omega);refine aO hcb rfl ?_;clear hcb;simp(disch:=first|omega|(simp only[aq];omega)|simp only[ap,Nat.reduceAdd]) only[go_sem,true_and];obtain⟨v,t2,hcb⟩:=QS (SS.take (1+q).toNat) (λx hx=>(by decide:∀x∈SS,x.size<=60) x (List.mem_of_mem_take hx)) (by simp[SS];omega);have lU:ya (some (.sl 9 1 [[.sc (.string ⟨#[97]⟩)],[.sc (.string ⟨#[98]⟩)],[.sc (.string ⟨#[120]⟩)],[.sc (.string ⟨#[97,108]⟩)]])) (some (.sc (.int .i64 0))) (some (.sc (.int .i64 (1+q))))=some [.sl 9 1 ((SS.take (1+q).toNat).map bQ)]:=Bh (t:=9) (k:=1) (e:=bQ) (l:=SS) (u:=0) (v:=1+q);obtain⟨v0,v1,v2,v3,v4,v5,v6,v7⟩:=v;simp only[aj,af,av]at hcb;simp(disch:=first|omega|(simp only[aq];omega)|simp only[ap,Nat.reduceAdd]) only[go_sem,lU];refine ab hcb rfl ?_;simp(disch:=first|omega|(simp only[aq];omega)|simp only[ap,Nat.reduceAdd]) only[go_sem,true_and];exact⟨(.mk v0 v1 v2 v3 v4 v5 v6 v7,c2),⟨by simp only;omega,h2⟩,_,_,rfl,by simp only[aj,af,av];rfl⟩
 simp(disch:=first|omega|(simp only[aq];omega)|simp only[ap,Nat.reduceAdd]) only[go_sem,true_and];refine ai (λhbr=>?_) (λhbr=>?_)
 ·simp(disch:=first|omega|(simp only[aq];omega)|simp only[ap,Nat.reduceAdd]) only[go_sem,true_and];obtain⟨q,c2,hq,h2,hcb⟩:=eM l c1 3 (by first|assumption|omega) (by omega) (by omega) (by omega);refine aO hcb rfl ?_;clear hcb;simp(disch:=first|omega|(simp only[aq];omega)|simp only[ap,Nat.reduceAdd]) only[go_sem,true_and];obtain⟨v,t2,hcb⟩:=numv (TY.take (1+q).toNat) (by simp[TY];omega);have lU:ya (some (.sl 3 1 [[.sc (.int .i64 (-1))],[.sc (.int .i64 (-2))],[.sc (.int .i64 0)]])) (some (.sc (.int .i64 0))) (some (.sc (.int .i64 (1+q))))=some [.sl 3 1 ((TY.take (1+q).toNat).map dD)]:=Bh (t:=3) (k:=1) (e:=dD) (l:=TY) (u:=0) (v:=1+q);obtain⟨v0,v1,v2,v3,v4,v5,v6,v7⟩:=v;simp only[aj,af,av]at hcb;simp(disch:=first|omega|(simp only[aq];omega)|simp only[ap,Nat.reduceAdd]) only[go_sem,lU];refine ab hcb rfl ?_;simp(disch:=first|omega|(simp only[aq];omega)|simp only[ap,Nat.reduceAdd]) only[go_sem,true_and];exact⟨(.mk v0 v1 v2 v3 v4 v5 v6 v7,c2),⟨t2,h2⟩,_,_,rfl,by simp only[aj,af,av];rfl⟩
 simp(disch:=first|omega|(simp only[aq];omega)|simp only[ap,Nat.reduceAdd]) only[go_sem,true_and];refine ai (λhbr=>?_) (λhbr=>?_)
 ·simp(disch:=first|omega|(simp only[aq];omega)|simp only[ap,Nat.reduceAdd]) only[go_sem,true_and];obtain⟨q,c2,hq,h2,hcb⟩:=eM l c1 4 (by first|assumption|omega) (by omega) (by omega) (by omega);refine aO hcb rfl ?_;clear hcb;simp(disch:=first|omega|(simp only[aq];omega)|simp only[ap,Nat.reduceAdd]) only[go_sem,true_and];obtain⟨⟨v,c3⟩,⟨t2,h3⟩,hcb⟩:=atom c2 2 q h2 (by omega);simp only at t2 h3 hcb;obtain⟨v0,v1,v2,v3,v4,v5,v6,v7⟩:=v;simp only[aj,af,av]at hcb;refine aO hcb rfl ?_;simp(disch:=first|omega|(simp only[aq];omega)|simp only[ap,Nat.reduceAdd]) only[go_sem,true_and];exact⟨(_,c3),⟨t2,h3⟩,_,_,rfl,by simp only[aj,af,av];rfl⟩
 simp(disch:=first|omega|(simp only[aq];omega)|simp only[ap,Nat.reduceAdd]) only[go_sem,true_and];obtain⟨q,c2,hq,h2,hcb⟩:=eM l c1 3 (by first|assumption|omega) (by omega) (by omega) (by omega);refine aO hcb rfl ?_;clear hcb;simp(disch:=first|omega|(simp only[aq];omega)|simp only[ap,Nat.reduceAdd]) only[go_sem,true_and];obtain⟨q,rfl⟩:=Int.eq_ofNat_of_zero_le hq.1;refine lp (λs:Nat×Cu×List Int=>[.sc (.int .i64 (s.1:Int)),iP 85 (aZ l) s.2.1.cs,.sl 3 1 (s.2.2.map dD)]) (λs=>s.1<=10/\0<=s.2.1.i/\s.2.2.length+s.1<=10) (λs=>s.1) (1+q,c2,[]) (by simp[gL]) ⟨by simp only;omega,h2,by simp;omega⟩ ?_;rintro⟨i,c,cs⟩ ⟨g1,g2,g3⟩;simp only at g1 g2 g3 ⊢;simp only[fO];simp(disch:=first|omega|(simp only[aq];omega)|simp only[ap,Nat.reduceAdd]) only[go_sem,true_and];refine ai (λhbr=>?_) (λhbr=>?_)
 ·simp(disch:=first|omega|(simp only[aq];omega)|simp only[ap,Nat.reduceAdd]) only[go_sem,true_and];obtain⟨z,c3,hz,h3,hcb⟩:=eM l c (n+1) g2 hl (by omega) (by omega);refine aO hcb rfl ?_;clear hcb;have hap:cs.map dD++[[.sc (.int .i64 (1+z))]]=(cs++[1+z]).map dD:=by simp[dD]
  have hi1:(i:Int)-1=((i-1:Nat):Int):=by omega
  simp(disch:=first|omega|(simp only[aq];omega)|simp only[ap,Nat.reduceAdd]) only[go_sem,hap,hi1];exact⟨(i-1,c3,cs++[1+z]),rfl,⟨by simp only;omega,h3,by simp;omega⟩,by simp only;omega⟩
 ·simp(disch:=first|omega|(simp only[aq];omega)|simp only[ap,Nat.reduceAdd]) only[go_sem,true_and];obtain⟨v,t2,hcb⟩:=numv cs (by omega);obtain⟨v0,v1,v2,v3,v4,v5,v6,v7⟩:=v;simp only[aj,af,av]at hcb;refine ab hcb rfl ?_;simp(disch:=first|omega|(simp only[aq];omega)|simp only[ap,Nat.reduceAdd]) only[go_sem,true_and];exact⟨(.mk v0 v1 v2 v3 v4 v5 v6 v7,c),⟨t2,g2⟩,_,_,rfl,by simp only[aj,af,av];rfl⟩
set_option maxHeartbeats 4000000 in
theorem Nq(l:List Int)(hl:l.length<=1048576):∃a:aX×aX,(ck a.1<=300000/\ck a.2<=300000)/\aI Try.prog 45 [(false,[aZ l])] [(true,aj a.1,true),(true,aj a.2,true)]:=by
 refine CS Try.func45 xc rfl (by kernel_rfl) ?_;simp only[oI];simp(disch:=first|omega|(simp only[aq];omega)|simp only[ap,Nat.reduceAdd]) only[go_sem,true_and];obtain⟨c,hc,hcb⟩:=NI l hl;refine Jt hcb rfl ?_;clear hcb;simp(disch:=first|omega|(simp only[aq];omega)|simp only[ap,Nat.reduceAdd]) only[go_sem,true_and];obtain⟨⟨v,c1⟩,⟨t1,h1⟩,hcb⟩:=Bb l c hc hl;simp only at t1 h1 hcb;obtain⟨k,its,ps,ns,cl,lv,cc,ee⟩:=v;have hln:=gX k its ps ns cl lv cc ee (rU (Nat.le_trans t1 (by decide)));have hnn:=qZ k its.length ps.length;generalize dX k its.length ps.length=n at hln hnn;simp only[aj,af,av]at hcb hln;refine aO hcb rfl ?_;clear hcb;simp(disch:=first|omega|(simp only[aq];omega)|simp only[ap,Nat.reduceAdd]) only[go_sem,true_and];refine ab hln rfl ?_;obtain⟨m,hm⟩:=Int.eq_ofNat_of_zero_le (show 0<=min 4 n by omega);simp(disch:=first|omega|(simp only[aq];omega)|simp only[ap,Nat.reduceAdd]) only[go_sem,hm];obtain⟨⟨v2,c2⟩,⟨t2,h2⟩,hcb⟩:=Nw l c1 m (by omega) h1 hl;simp only at t2 h2 hcb;obtain⟨v0,v1,v2,v3,v4,v5,v6,v7⟩:=v2;simp only[aj,af,av]at hcb;refine aO hcb rfl ?_;simp(disch:=first|omega|(simp only[aq];omega)|simp only[ap,Nat.reduceAdd]) only[go_sem,true_and];exact⟨(.mk k its ps ns cl lv cc ee,.mk v0 v1 v2 v3 v4 v5 v6 v7),⟨t1,t2⟩,by simp only[aj,af,av];rfl⟩
set_option maxHeartbeats 4000000 in
theorem Fb(l:List Int)(hl:l.length<=1048576):∃a:aX×aX×aX,(ck a.1<=300000/\ck a.2.1<=300000/\ck a.2.2<=300000)/\aI Try.prog 15 [(false,[aZ l])] [(true,aj a.1,true),(true,aj a.2.1,true),(true,aj a.2.2,true)]:=by
 refine CS Try.func15 tG rfl (by kernel_rfl) ?_;simp only[kh];simp(disch:=first|omega|(simp only[aq];omega)|simp only[ap,Nat.reduceAdd]) only[go_sem,true_and];obtain⟨⟨⟨k,its,ps,ns,cl,lv,cc,ee⟩,⟨k2,its2,ps2,ns2,cl2,lv2,cc2,ee2⟩⟩,⟨t1,t2⟩,hcb⟩:=Nq l hl;simp only at t1 t2 hcb;simp only[aj,af,av]at hcb;refine ab hcb rfl ?_;clear hcb;simp(disch:=first|omega|(simp only[aq];omega)|simp only[ap,Nat.reduceAdd]) only[go_sem,true_and];obtain⟨c,hc,hcb⟩:=NI l hl;refine Jt hcb rfl ?_;clear hcb;simp(disch:=first|omega|(simp only[aq];omega)|simp only[ap,Nat.reduceAdd]) only[go_sem,true_and];obtain⟨⟨⟨k3,its3,ps3,ns3,cl3,lv3,cc3,ee3⟩,c1⟩,⟨t3,h1⟩,hcb⟩:=Bb l c hc hl;simp only at t3 h1 hcb;simp only[aj,af,av]at hcb;refine aO hcb rfl ?_;clear hcb;simp(disch:=first|omega|(simp only[aq];omega)|simp only[ap,Nat.reduceAdd]) only[go_sem,true_and];obtain⟨b,c2,h2,hcb⟩:=Gh l c1 3 (by first|assumption|omega) (by omega) (by omega);refine aO hcb rfl ?_;clear hcb;simp(disch:=first|omega|(simp only[aq];omega)|simp only[ap,Nat.reduceAdd]) only[go_sem,true_and];have fin:∀v3:aX,ck v3<=300000->∃a:aX×aX×aX,(ck a.1<=300000/\ck a.2.1<=300000/\ck a.2.2<=300000)/\mW [(true,aj a.1,true),(true,aj a.2.1,true),(true,aj a.2.2,true)] [(true,aj (.mk k its ps ns cl lv cc ee)),(true,aj (.mk k2 its2 ps2 ns2 cl2 lv2 cc2 ee2)),(true,aj v3)]:=λv3 h=>⟨(_,_,v3),⟨t1,t2,h⟩,rfl⟩
 refine jn (λvs=>∃(x:DV) (k:Int) (its:List It) (ps:List aX) (ns cl lv:List ByteArray) (cc ee:Int),ck (.mk k its ps ns cl lv cc ee)<=300000/\vs=[x,.sc (.int .i64 k),.sc (.int .i64 cc),.sc (.int .i64 ee),.sl 9 1 (lv.map bQ),.sl 9 1 (cl.map bQ),.sl 9 1 (ns.map bQ),.sl 28 8 (ps.map aj),.sl 42 3 (its.map au)]) ?_ ?_
 ·cases b
  ·simp(disch:=first|omega|(simp only[aq];omega)|simp only[ap,Nat.reduceAdd]) only[go_sem,true_and];obtain⟨p,c3,hp,h3,hcb⟩:=eM l c2 3 (by first|assumption|omega) (by omega) (by omega) (by omega);refine aO hcb rfl ?_;clear hcb;simp(disch:=first|omega|(simp only[aq];omega)|simp only[ap,Nat.reduceAdd]) only[go_sem,true_and];obtain⟨q,c4,hq,h4,hcb⟩:=eM l c3 2 (by first|assumption|omega) (by omega) (by omega) (by omega);refine aO hcb rfl ?_;clear hcb;simp(disch:=first|omega|(simp only[aq];omega)|simp only[ap,Nat.reduceAdd]) only[go_sem,true_and];obtain⟨m,hm⟩:=Int.eq_ofNat_of_zero_le (show 0<=1+q by omega);simp(disch:=first|omega|(simp only[aq];omega)|simp only[ap,Nat.reduceAdd]) only[go_sem,hm];obtain⟨⟨is2,c5⟩,⟨⟨z1,z2⟩,h5⟩,hcb⟩:=tr l c4 (1+p) m (by omega) h4 hl;simp only at z1 z2 h5 hcb;have hb:ck (fV (1+p) is2)<=300000:=Nat.le_trans (pW (λx hx=>by have:=z2 x hx;omega) (by omega)) (by decide);simp only[eF]at hcb;refine aO hcb rfl ?_;simp(disch:=first|omega|(simp only[aq];omega)|simp only[ap,Nat.reduceAdd]) only[go_sem,true_and];exact⟨_,1+p,is2,[],[],[],[],0,0,hb,rfl⟩
  ·simp(disch:=first|omega|(simp only[aq];omega)|simp only[ap,Nat.reduceAdd]) only[go_sem,true_and];exact⟨_,k3,its3,ps3,ns3,cl3,lv3,cc3,ee3,t3,rfl⟩
 rintro vs - ⟨x,k4,its4,ps4,ns4,cl4,lv4,cc4,ee4,t4,rfl⟩;simp only[jy];simp(disch:=first|omega|(simp only[aq];omega)|simp only[ap,Nat.reduceAdd]) only[go_sem,true_and];have hf:=fin (.mk k4 its4 ps4 ns4 cl4 lv4 cc4 ee4) t4;simp only[aj,af,av]at hf;exact hf
theorem HV(l:List Int)(hl:l.length<=1048576):∃a:aX×aX×aX,(ck a.1<=300000/\ck a.2.1<=300000/\ck a.2.2<=300000)/\aI Try.prog 5 [(false,[aZ l])] [(true,aj a.1,true),(true,aj a.2.1,true),(true,aj a.2.2,true)]:=by
 obtain⟨⟨⟨k,its,ps,ns,cl,lv,cc,ee⟩,⟨k2,its2,ps2,ns2,cl2,lv2,cc2,ee2⟩,⟨k3,its3,ps3,ns3,cl3,lv3,cc3,ee3⟩⟩,ht,hcb⟩:=Fb l hl;refine⟨_,ht,?_⟩;simp only[aj,af,av]at hcb ⊢;refine ah Try.func5 jW rfl ?_;simp only[ew]
 repeat' (first|(with_reducible first|refine ac ?_|refine ab ‹_› rfl ?_|refine ai (λhbr=>?_) λhbr=>?_)|simp(disch:=first|omega|(simp only[aq];omega)|simp only[ap,Nat.reduceAdd]) only[go_sem,true_and])
 all_goals rfl
theorem LW:Rq (λl=>[aZ l]) (λl=>l.length<=9223372036854775807/\∀n∈l,0<=n/\n<256) Try.prog 22:=HL (e:=Kz) 5 Try.underlying22 (by kernel_rfl) (by decide) (λ_=>rfl) (Q6 Try.underlying5)
theorem RX(l:List Int)(hl:l.length<=9223372036854775807):aI Try.prog 4 [(false,[aZ l])] [(false,[.sc (.bool (decide (1048576<l.length)))],true)]:=by
 refine ah Try.func4 Bn rfl ?_;simp only[sa];simp only[aZ];simp(disch:=first|omega|(simp only[aq];omega)|simp only[ap,Nat.reduceAdd]) only[go_sem,true_and];exact bo (by rw[decide_eq_decide];omega)
set_option maxHeartbeats 8000000 in
theorem MF(a0:List Int)(hlen:a0.length<=9223372036854775807):aI Try.prog 3 [(false,[aZ a0])] [(false,[.sc (.bool true)],true)]:=by
 have hb:=RX a0 hlen;by_cases hbig:1048576<a0.length
 ·refine ah Try.func3 cX rfl ?_;simp only[cw];simp only[aZ]at hb ⊢;rw[decide_eq_true hbig]at hb
  repeat' (first|(with_reducible first|refine ac ?_|refine ab ‹_› rfl ?_|refine ai (λhbr=>?_) λhbr=>?_)|simp(disch:=first|omega|(simp only[aq];omega)|simp only[ap,Nat.reduceAdd]) only[go_sem,true_and])
  all_goals first|omega|rfl
 rw[decide_eq_false hbig]at hb;obtain⟨⟨v,s,w⟩,⟨t1,t2,t3⟩,hd⟩:=HV a0 (by omega);simp only at t1 t2 t3 hd;have a1:=Of v s w (by omega) (by omega) (by omega);have a2:=Tb v s w (by omega) (by omega) (by omega);generalize hF:AI v s w=F at a1 a2;obtain⟨u,q⟩:=F;simp only at a1 a2;have hwu:ck u<=1000000000:=by have:=QQ v s w (by omega);rw[hF]at this;exact this
 have a3:=HU u hwu;obtain⟨k,its,ps,ns,cl,lv,c,e⟩:=v;obtain⟨k2,its2,ps2,ns2,cl2,lv2,c2,e2⟩:=s;obtain⟨k3,its3,ps3,ns3,cl3,lv3,c3,e3⟩:=w;obtain⟨k4,its4,ps4,ns4,cl4,lv4,c4,e4⟩:=u;cases hu:cd (.mk k4 its4 ps4 ns4 cl4 lv4 c4 e4)
 ·rw[hu]at a3;simp only[aZ,aj,af,av]at hb hd a1 a2 a3 ⊢;refine ah Try.func3 cX rfl ?_;simp only[cw]
  repeat' (first|(with_reducible first|refine ac ?_|refine ab ‹_› rfl ?_|refine ai (λhbr=>?_) λhbr=>?_)|simp(disch:=first|omega|(simp only[aq];omega)|simp only[ap,Nat.reduceAdd]) only[go_sem,true_and])
  all_goals first|rfl|(trace_state;sorry)
 rw[hu]at a3;by_cases hq:q=eW;rotate_left
 ·simp only[aZ,aj,af,av,eW]at hb hd a1 a2 a3 hq ⊢;refine ah Try.func3 cX rfl ?_;simp only[cw]
  repeat' (first|(with_reducible first|refine ac ?_|refine ab ‹_› rfl ?_|refine ai (λhbr=>?_) λhbr=>?_)|simp(disch:=first|omega|(simp only[aq];omega)|simp only[ap,Nat.reduceAdd]) only[go_sem,true_and])
  all_goals first|contradiction|rfl|(trace_state;sorry)
 subst hq;have hok:=KW hF;obtain⟨hv,hv3,h5,hm,h0⟩:=hok;have h:=vw hv;have hw3:=vw hv3;have a4:=P3 hv h5;have a5:=Fm (its.length+ps.length) ns h.l40 h.nmn (Nat.le_trans t2 (by decide));have hrg:=oz (names:=ns) h.l40 (by rcases h.nmn with e|e<;>simp[e]) (.mk k2 its2 ps2 ns2 cl2 lv2 c2 e2);have hR0:dw (its.length+ps.length) ns (.mk k2 its2 ps2 ns2 cl2 lv2 c2 e2)=((dw (its.length+ps.length) ns (.mk k2 its2 ps2 ns2 cl2 lv2 c2 e2)).1,eW):=by rw[<-hm]
 generalize hl:(dw (its.length+ps.length) ns (.mk k2 its2 ps2 ns2 cl2 lv2 c2 e2)).1=l at hR0 h0 hrg a5;rw[hm]at a5;have hl40:=hrg.1
 have hp1:∀p∈l,1<=p/\p<=80:=λp hp=>by
  have h2:=hrg.2 p hp;have h3:p≠0:=λe=>h0 (e▸hp)
  omega
 by_cases hsim:k=k3/\(1<=k/\k<=3)/\lv=[]/\lv3=[];rotate_left
 ·have hl1:lv.length=0->lv=[]:=List.eq_nil_of_length_eq_zero;have hl2:lv3.length=0->lv3=[]:=List.eq_nil_of_length_eq_zero;have hns:k=k3->1<=k->k<=3->lv.length=0->lv3.length=0->False:=λx1 x2 x3 x4 x5=>hsim ⟨x1,⟨x2,x3⟩,hl1 x4,hl2 x5⟩
  simp only[aZ,aj,af,av,bC,eW]at hb hd a1 a2 a3 a4 a5 ⊢;refine ah Try.func3 cX rfl ?_;simp only[cw]
  repeat' (first|(with_reducible first|refine ac ?_|refine ab ‹_› rfl ?_|refine ai (λhbr=>?_) λhbr=>?_)|simp(disch:=first|omega|(simp only[aq];omega)|simp only[ap,Nat.reduceAdd]) only[go_sem,true_and])
  all_goals first|contradiction|rfl|omega|(exfalso;exact hns (by omega) (by omega) (by omega) (by omega) (by omega))|(trace_state;sorry)
 obtain⟨rfl,hk,rfl,rfl⟩:=hsim;have hps:=h.p0 (by omega);have hps3:=hw3.p0 (by omega);subst hps hps3;obtain⟨rfl,rfl⟩:=h.ce h5;simp only[List.length_nil,Nat.add_zero]at hR0 a4 a5;have hs:=LS hk hR0 hF hw3
 have hstay:∀q,q<its.length->¬((q+1:Nat):Int)∈l->its4.getD q default=its.getD q default:=by
  intro q hq hn;rcases hs with⟨-,e⟩|⟨-,-,-,e⟩
  ·cases e;rfl
  ·cases e;exact RN hq (λp hp=>(hp1 p hp).1) hn
 have hlen4:its.length<=its4.length:=by
  rcases hs with⟨-,e⟩|⟨-,-,-,e⟩
  ·cases e;exact Nat.le_refl _
  ·cases e;rw[gu,eR];omega
 have hgp:l≠[]->(∀i,i<l.length->¬l.getD i default∈l.take i)->its3≠[]/\∃y:aX,yW (.mk k4 its4 ps4 ns4 cl4 lv4 c4 e4) (fV (la l).1 (la l).2)=(y,eW)/\(GW y).length=l.length/\∀i,i<l.length->(GW y).getD i default=its3.getD (i % its3.length) default:=by
  intro hn hdif;rcases hs with⟨e,-⟩|⟨-,hw,hx,e⟩
  ·exact absurd e hn
  ·exact⟨hw,MO hk e hu hl40 hp1 hx hdif⟩
 have hz:(∀p∈l,p<=its.length)->AI (.mk k its [] ns cl [] 0 0) (.mk k2 its2 ps2 ns2 cl2 lv2 c2 e2) (gQ (.mk k its [] ns cl [] 0 0) l)=(.mk k its [] ns cl [] 0 0,eW):=λhh=>KH h hk hR0 (λp hp=>⟨(hp1 p hp).1,hh p hp⟩) hl40
 have hsub:yW (.mk k its [] ns cl [] 0 0) (.mk k2 its2 ps2 ns2 cl2 lv2 c2 e2)=(gQ (.mk k its [] ns cl [] 0 0) l,eW):=by
  unfold yW;rw[if_pos hv,show lY (.mk k its [] ns cl [] 0 0)=k from rfl,show zk (.mk k its [] ns cl [] 0 0)=ns from rfl,show rt (.mk k its [] ns cl [] 0 0)=its.length from rfl,if_neg h5,hR0,if_neg (by simp),if_neg (by omega)];unfold pE;rw[if_pos (AL h hk hl40)]
 have hwz:=Bm h hl40;have b1:=O3 (.mk k its [] ns cl [] 0 0) (.mk k2 its2 ps2 ns2 cl2 lv2 c2 e2) (Nat.le_trans t1 (by decide)) (Nat.le_trans t2 (by decide));rw[hsub]at b1;have b2:=Of (.mk k its [] ns cl [] 0 0) (.mk k2 its2 ps2 ns2 cl2 lv2 c2 e2) (gQ (.mk k its [] ns cl [] 0 0) l) (by omega) (by omega) hwz;have hil:=h.il;have hil3:=hw3.il;have hil4:=(vw hu).il;have c1:=yX 3 l (by omega)
 have hnw:ck (fV (la l).1 (la l).2)<=1000000000:=Nat.le_trans (pW (by
  intro x hx;unfold la at hx;split at hx
  ·cases hx
  ·obtain⟨y,hy,rfl⟩:=List.mem_map.1 hx
   have:=tf y 1;omega) (by unfold la;split<;>simp;omega)) (by decide)
 have c2':=Qk (.mk k4 its4 ps4 ns4 cl4 lv4 c4 e4) (fV (la l).1 (la l).2) hwu hnw;generalize gQ (.mk k its [] ns cl [] 0 0) l=Z at b1 b2 hz;generalize hA:AI (.mk k its [] ns cl [] 0 0) (.mk k2 its2 ps2 ns2 cl2 lv2 c2 e2) Z=A at b2 hz;have b3:=HU (.mk k its [] ns cl [] 0 0) (by omega);rw[hv]at b3;clear hs hF hsub hwz hA h hw3 hR0 hl hm hbig;simp only[aZ,aj,af,av,bC,eW,List.map_nil]at hb hd a1 a2 a3 a4 a5;refine ah Try.func3 cX rfl ?_;simp only[cw];simp only[aZ]
 repeat' (first|(with_reducible first|refine ab ‹_› rfl ?_|refine ai (λhbr=>?_) λhbr=>?_)|simp(disch:=first|omega|(simp only[aq];omega)|simp only[ap,Nat.reduceAdd]) only[go_sem,true_and])
 all_goals first|contradiction|omega|skip
 refine lp (λi:Nat=>[.sc (.int .i64 i),.sc (.bool (bP (λj=>decide (l.getD j default<=(its.length:Int))) i))]) (λi=>i<=l.length/\∀j,j<i->¬l.getD j default∈l.take j) (λi=>l.length-i) 0 rfl ⟨Nat.zero_le _,λj hj=>by omega⟩ ?_;rintro i ⟨hi,hdif⟩;simp only[i8];by_cases hlt:i<l.length
 ·clear a1 a2 a3 a4 a5 b1 b2 b3 c1 c2' hstay hgp hz;have hz:=sC (t:=3) (l:=l) (kd:=.i64) (z:=(i:Int)) (by omega) (by omega);rw[Int.toNat_natCast]at hz;have hch:=aY (e:=dD) (k:=1) (t:=3) (l:=l) (kd:=.i64) (z:=(i:Int)) (by omega) (by omega);have hhas:=IM 3 (l.take i) (l.getD i default) (by rw[List.length_take];omega);have hst:=iW (λj=>decide (l.getD j default<=(its.length:Int))) i
  have hd2:¬l.getD i default∈l.take i->∀j,j<i+1->¬l.getD j default∈l.take j:=λhn j hj=>by
   by_cases e:j=i
   ·rw[e];exact hn
   ·exact hdif j (by omega)
  generalize l.getD i default=p at hz hhas hst hd2;by_cases hm:p∈l.take i
  ·rw[decide_eq_true hm]at hhas
   repeat' (first|(with_reducible first|refine ac ?_|refine ab ‹_› rfl ?_|refine ai (λhbr=>?_) λhbr=>?_)|simp(disch:=first|omega|(simp only[aq];omega)|simp only[ap,Nat.reduceAdd]) only[go_sem,hz,hch])
   all_goals first|omega|rfl|(trace_state;sorry)
  ·rw[decide_eq_false hm]at hhas;have hd2:=hd2 hm;cases hin:bP (λj=>decide (l.getD j default<=(its.length:Int))) i
   ·rw[hin,Bool.false_and]at hst
    repeat' (first|(with_reducible first|refine ac ?_|refine ab ‹_› rfl ?_|refine ai (λhbr=>?_) λhbr=>?_)|simp(disch:=first|omega|(simp only[aq];omega)|simp only[ap,Nat.reduceAdd]) only[go_sem,hz,hch])
    all_goals first|omega|exact⟨i+1,by rw[hst],⟨by omega,hd2⟩,by omega⟩|(trace_state;sorry)
   ·rw[hin,Bool.true_and]at hst
    repeat' (first|(with_reducible first|refine ac ?_|refine ab ‹_› rfl ?_|refine ai (λhbr=>?_) λhbr=>?_)|simp(disch:=first|omega|(simp only[aq];omega)|simp only[ap,Nat.reduceAdd]) only[go_sem,hz,hch])
    all_goals first|omega|exact⟨i+1,by rw[hst],⟨by omega,hd2⟩,by omega⟩|(trace_state;sorry)
 obtain rfl:i=l.length:=by omega
 have hln0:l.length=0->l=[]:=List.eq_nil_of_length_eq_zero;have hgp:=λhn=>hgp hn hdif
 repeat' (first|(with_reducible first|refine ab ‹_› rfl ?_|refine ai (λhbr=>?_) λhbr=>?_)|simp(disch:=first|omega|(simp only[aq];omega)|simp only[ap,Nat.reduceAdd]) only[go_sem,true_and])
 all_goals first|omega|skip
 refine jn (λvs=>vs=[]) ?_ ?_
 ·by_cases hln:l=[]
  ·have:l.length=0:=by rw[hln];rfl
   repeat' (first|(with_reducible first|refine ac ?_|refine ab ‹_› rfl ?_|refine ai (λhbr=>?_) λhbr=>?_)|simp(disch:=first|omega|(simp only[aq];omega)|simp only[ap,Nat.reduceAdd]) only[go_sem,true_and])
   all_goals first|omega|rfl|(trace_state;sorry)
  ·obtain⟨hw3n,y,e1,e2',e3'⟩:=hgp hln;have hl3:its3.length≠0:=λhh=>hw3n (List.eq_nil_of_length_eq_zero hh)
   have hll:¬l.length=0:=λhh=>hln (hln0 hh)
   rw[e1]at c2';obtain⟨y0,yi,y2,y3,y4,y5,y6,y7⟩:=y;simp only[GW]at e2' e3';rw[mn]at c2';simp only[eF,aj,af,av,eW,List.map_nil]at c1 c2';clear a1 a2 a3 a4 a5 b1 b2 b3 hb hd
   repeat' (first|(with_reducible first|refine ac ?_|refine ab ‹_› rfl ?_|refine ai (λhbr=>?_) λhbr=>?_)|simp(disch:=first|omega|(simp only[aq];omega)|simp only[ap,Nat.reduceAdd]) only[go_sem,true_and])
   all_goals first|omega|contradiction|skip
   refine lp (λi:Nat=>[.sc (.int .i64 i)]) (λi=>i<=l.length) (λi=>l.length-i) 0 rfl (Nat.zero_le _) ?_;intro i hi;simp only[jH];by_cases hlt:i<l.length
   ·have him:i % its3.length<its3.length:=Nat.mod_lt _ (by omega);have hmod:(i:Int).tmod ((its3.length:Nat):Int)=((i % its3.length:Nat):Int):=rfl;have hx1:=cM (t:=42) (l:=yi) (kd:=.i64) (z:=(i:Int)) (by omega) (by omega);have hx2:=cM (t:=42) (l:=its3) (kd:=.i64) (z:=((i % its3.length:Nat):Int)) (by omega) (by omega);rw[Int.toNat_natCast]at hx1 hx2;rw[e3' i hlt]at hx1;have hch1:=aY (e:=au) (k:=3) (t:=42) (l:=yi) (kd:=.i64) (z:=(i:Int)) (by omega) (by omega);have hch2:=aY (e:=au) (k:=3) (t:=42) (l:=its3) (kd:=.i64) (z:=((i % its3.length:Nat):Int)) (by omega) (by omega);have heq:=Lq (AT (its3.getD (i % its3.length) default) (its3.getD (i % its3.length) default));generalize its3.getD (i % its3.length) default=x at hx1 hx2 heq;simp only[au]at hx1 hx2 heq
    repeat' (first|(with_reducible first|refine ac ?_|refine ab ‹_› rfl ?_|refine ai (λhbr=>?_) λhbr=>?_)|simp(disch:=first|omega|(simp only[aq];omega)|simp only[ap,Nat.reduceAdd]) only[go_sem,hmod,hx1,hx2,hch1,hch2,heq])
    all_goals first|omega|contradiction|exact⟨i+1,rfl,by omega,by omega⟩|(trace_state;sorry)
   ·obtain rfl:i=l.length:=by omega
    repeat' (first|(with_reducible first|refine ac ?_|refine ab ‹_› rfl ?_|refine ai (λhbr=>?_) λhbr=>?_)|simp(disch:=first|omega|(simp only[aq];omega)|simp only[ap,Nat.reduceAdd]) only[go_sem,true_and])
    all_goals first|omega|rfl|(trace_state;sorry)
 rintro vs-rfl;simp only[jt];simp(disch:=first|omega|(simp only[aq];omega)|simp only[ap,Nat.reduceAdd]) only[go_sem,true_and];refine lp (λi:Nat=>[.sc (.int .i64 i)]) (λi=>i<=its.length) (λi=>its.length-i) 0 rfl (Nat.zero_le _) ?_;intro i hi;simp only[ji];by_cases hlt:i<its.length
 ·clear a1 a2 a3 a4 a5 b1 b2 b3 hb hd c1 c2';have hx1:=cM (t:=42) (l:=its4) (kd:=.i64) (z:=(i:Int)) (by omega) (by omega);have hx2:=cM (t:=42) (l:=its) (kd:=.i64) (z:=(i:Int)) (by omega) (by omega);rw[Int.toNat_natCast]at hx1 hx2;have hch1:=aY (e:=au) (k:=3) (t:=42) (l:=its4) (kd:=.i64) (z:=(i:Int)) (by omega) (by omega);have hch2:=aY (e:=au) (k:=3) (t:=42) (l:=its) (kd:=.i64) (z:=(i:Int)) (by omega) (by omega);have hhas:=IM 3 l ((i+1:Nat):Int) (by omega);by_cases hm:((i+1:Nat):Int)∈l
  ·rw[decide_eq_true hm]at hhas
   repeat' (first|(with_reducible first|refine ac ?_|refine ab ‹_› rfl ?_|refine ai (λhbr=>?_) λhbr=>?_)|simp(disch:=first|omega|(simp only[aq];omega)|simp only[ap,Nat.reduceAdd]) only[go_sem,eZ])
   all_goals first|omega|contradiction|exact⟨i+1,rfl,by omega,by omega⟩|(trace_state;sorry)
  ·rw[decide_eq_false hm]at hhas;rw[hstay i hlt hm]at hx1;have heq:=Lq (AT (its.getD i default) (its.getD i default));generalize its.getD i default=x at hx1 hx2 heq;simp only[au]at hx1 hx2 heq
   repeat' (first|(with_reducible first|refine ac ?_|refine ab ‹_› rfl ?_|refine ai (λhbr=>?_) λhbr=>?_)|simp(disch:=first|omega|(simp only[aq];omega)|simp only[ap,Nat.reduceAdd]) only[go_sem,hx1,hx2,hch1,hch2,heq,eZ])
   all_goals first|omega|contradiction|exact⟨i+1,rfl,by omega,by omega⟩|(trace_state;sorry)
 obtain rfl:i=its.length:=by omega
 obtain⟨z0,zi,z2,z3,z4,z5,z6,z7⟩:=Z;cases hin:bP (λj=>decide (l.getD j default<=(its.length:Int))) l.length
 ·obtain⟨⟨f0,f1,f2,f3,f4,f5,f6,f7⟩,fm⟩:=A;simp only[aj,af,av,eW,List.map_nil]at b1 b2;clear a1 a2 a3 a4 a5 b3 hb hd c1 c2'
  repeat' (first|(with_reducible first|refine ac ?_|refine ab ‹_› rfl ?_|refine ai (λhbr=>?_) λhbr=>?_)|simp(disch:=first|omega|(simp only[aq];omega)|simp only[ap,Nat.reduceAdd]) only[go_sem,true_and])
  all_goals first|omega|contradiction|rfl|(trace_state;sorry)
 ·have hz:=hz λp hp=>by
   obtain⟨j,hj,rfl⟩:=List.mem_iff_getElem.1 hp;have:=aV.1 hin j hj;rw[decide_eq_true_eq,List.getD_eq_getElem?_getD,List.getElem?_eq_getElem hj]at this;exact this
  subst hz;simp only[aj,af,av,eW,List.map_nil]at b1 b2 b3;clear a1 a2 a3 a4 a5 hb hd c1 c2'
  repeat' (first|(with_reducible first|refine ac ?_|refine ab ‹_› rfl ?_|refine ai (λhbr=>?_) λhbr=>?_)|simp(disch:=first|omega|(simp only[aq];omega)|simp only[ap,Nat.reduceAdd]) only[go_sem,true_and])
  all_goals first|omega|contradiction|rfl|(trace_state;sorry)
end Go.Proofs.Ytgdbmcoamemmaaa
namespace Go.Proofs.Ytgdbmcoamemmaaa.fnGetPut
open Go.ChangeShapes Go.WideShapes Go.ChangeAt Go.RowKit
open Go.ChangeMaps (open_string shut_string)
theorem own:ownKnob Try.prog.godebug=none:=by kernel_rfl
theorem L6:laidOutB Try.prog=true:=by kernel_rfl
set_option maxRecDepth 100000 in
set_option maxHeartbeats 2000000 in
theorem UW{H:Type}(enc:TypeId×Value->H)(v0:Value)(d0:DataW H)(p0:List MemPlace)(base:Nat)(w:World)
 (ok0:Value.okWide Try.prog w .any base 22 v0) (h0:DataW.Trod enc Try.prog w 0 (λ_=>true) true 22 v0 d0 p0)
 (sz:(DataW.weightsEach Try.prog [22] [d0]).all (·<=reachBytes)=true):
 Calls Try.prog 3 #[v0] w λe w'=>e=.returned (.bool true)/\Below w.heap.size w w':=by
 obtain⟨a0,r0,i0⟩:=Mt (base:=base) LW Try.underlying22 h0 ok0;exact Md (MF a0 i0.1) (eg.cons r0 eg.nil)
set_option maxRecDepth 100000 in
theorem Ra(os:Os)(started:os.Started)(H:Type)(enc:TypeId×Value->H):
 ReturnsInHanded {} Try.checked os 3 .any (Rows.fnGetPutSpec.pre6 enc Try.prog Try.f3 Rows.fnGetPutRow.domain false) (Rows.fnGetPutSpec.post enc Try.prog Try.f3 false true false false):=by
 refine returnsInHanded_of_change_sized (C:=Try.checked) own started (by kernel_rfl) Try.func3
  (ChangeSpec.witness6 (enc:=enc) (C:=Try.checked) false ⟨#[],#[.slice none 0 0],[]⟩ 8 (by kernel_rfl) (by kernel_rfl) (by kernel_rfl) (by kernel_rfl)) ?_
 intro W base args ds gs before hval0 hW hcnd0 hsz0 hholds;have hval:∀(j:Nat) t v,Try.f3.params[j]? =some t->args[j]? =some v->Value.okWide Try.prog W .any base t v:=hval0
 have hsz:(DataW.weightsEach Try.prog (Try.f3.params.toList++Rows.fnGetPutSpec.plain.varTypes Try.prog) (ds++gs)).all (·<=reachBytes)=true:=hsz0
 have hW':=hW;obtain⟨p,q,hA0,hV,rfl,hfz,hnd⟩:=hW;have hA:DataW.TrodAll enc Try.prog W 0 (λ_=>true) true Try.f3.params.toList args.toList ds p:=hA0;rw[Try.params3]at hA hval hsz;obtain⟨v0,vs0,d0,ds0,p0,q0,hargs,rfl,rfl,h0,r0⟩:=trodAll_cons hA;obtain⟨rfl,rfl,rfl⟩:=trodAll_nil r0;obtain rfl:args=#[v0]:=by cases args;simp_all
 obtain⟨rfl,rfl⟩:=trodVars_none hV;have lt0:∀x∈p0,x.block<W.heap.size:=by obtain⟨m,hm⟩:=h0;exact DataW.trod_lt m _ _ _ hm
 refine(UW enc v0 d0 p0 base W (hval 0 22 v0 rfl rfl) h0 hsz).mono λe W' ⟨he,bel⟩=>?_
 subst he;exact⟨_,rfl,_,_,_,[],_,[],hW',trodAll_mk1 (shut_bool Try.underlying4 _),(trodAll_cons_mk (Below.trod L6 (by kernel_rfl) (of_decide_eq_true (by kernel_rfl)) h0 bel lt0) trodAll_mk0),rfl,bel.frame _,λh=>by cases h⟩
theorem U4:Rows.fnGetPutRow.holds Try.pinned (OpenSpec.ofChange Rows.fnGetPutSpec):=
 OpenClaim.holds_of_wide 3 Try.f3 rfl rfl rfl rfl rfl rfl rfl ⟨rfl,rfl,rfl,rfl,rfl⟩ rfl rfl rfl rfl rfl (by kernel_rfl) Try.func3 (by kernel_rfl)
  (of_decide_eq_true (by kernel_rfl)) (by unfold Func.isWrapper;first|(rw[if_pos (by decide+kernel)];kernel_rfl)|(rw[if_neg (by decide+kernel)];exact⟨rfl,rfl⟩))
  (λos started H enc _=>Ra os started H enc)
theorem proved:Rows.FnGetPutSaid:=U4
end Go.Proofs.Ytgdbmcoamemmaaa.fnGetPut
