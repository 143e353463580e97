/- Proved: for every input the law 'FnGetPut' returns true and its arguments read behind the call as before: part 5 of its proof. No condition. -/
import Derived.WalkKit
import Derived.Lib.Hide
import Derived.WalkSpells
import Derived.Laws.OwnMore
import Derived.Deep.AppendLies
import Derived.Deep.Draws
import Derived.Maps.AppendAt
import Derived.RegionTactic
import Derived.OwnWalk
import Derived.Below
import Derived.Laws.AppendOwnNone
import Derived.Deep.QuietTactic
import Derived.BigQuiet
import Derived.StillTailTactics
import Derived.Laws.Cells
import Derived.Laws.IdiomCopy
import Derived.ChangeKeysEq
import Derived.Laws.BytesArg
import Derived.Laws.StructEq
import Derived.Laws.Tables
import Derived.Great.BuildSlice
import Derived.StillTail
import Derived.OrdersHeld
import Derived.Test.YtgdbmcoamemmaaaProg
import Derived.Deep.Slices
import Derived.Deep.Fields
import Derived.ChangeSame
import Derived.OpenShut
import Derived.Laws.ResultCell
import Derived.Deep.RegionWith
import Derived.Test.YtgdbmcoamemmaaaFnGetPutQ4
set_option linter.unusedVariables false
set_option linter.unusedSimpArgs false
namespace Go.Proofs.Ytgdbmcoamemmaaa
open Go.RowKit
set_option maxRecDepth 100000
def zm{α:Type}(f:α->α)(l:List α)(i:Nat):List α:=(l.take i).map f++l.drop i
section
variable {α:Type}{f:α->α}{l:List α}{i:Nat}
theorem DF:zm f l 0=l:=by simp[zm]
theorem Gc:zm f l l.length=l.map f:=by simp[zm]
theorem Be:(zm f l i).length=l.length:=by simp[zm];omega
theorem F1[Inhabited α](h:i<l.length):(zm f l i).getD i default=l.getD i default:=by
 have:i-min i l.length=0:=by omega
 simp[zm,List.getElem?_append,this,Nat.min_eq_left (Nat.le_of_lt h)]
theorem BU[Inhabited α](h:i<l.length):(zm f l i).set i (f (l.getD i default))=zm f l (i+1):=by
 have hlen:((l.take i).map f).length=i:=by rw[List.length_map,List.length_take];omega
 unfold zm;rw[List.drop_eq_getElem_cons h,List.set_append_right _ _ (by omega),hlen,Nat.sub_self,List.set_cons_zero,List.take_succ_eq_append_getElem h,List.map_append,List.append_assoc,List.getD_eq_getElem?_getD,List.getElem?_eq_getElem h];rfl
theorem DD[Inhabited α](h:i<l.length)(e:f (l.getD i default)=l.getD i default):zm f l (i+1)=zm f l i:=by
 rw[<-BU h,e,<-F1 (f:=f) h];apply List.ext_getElem?;intro j;rw[List.getElem?_set];split
 ·rename_i e;subst e;have:=Be (f:=f) (l:=l) (i:=i);rw[if_pos (by omega),List.getD_eq_getElem?_getD,List.getElem?_eq_getElem (by omega)];rfl
 ·rfl
end
def ww(lv:List ByteArray)(x:It):It:=if x=bA then x else vr (lv.getD (x.num-1).toNat default)
def wl(k:Int)(lv:List ByteArray):Int:=if lv=[]then k else 3
def Cm(lv:List ByteArray)(its:List It):List It:=if lv=[]then its else its.map (ww lv)
theorem Bj{k:Int}{m:Nat}{x:It}(h:dd k m x=true)(hm:m≠0)(hx:¬x=bA):1<=x.num/\x.num<=m/\x.den≠0:=by
 unfold dd at h;simp only[Bool.and_eq_true,Bool.or_eq_true,decide_eq_true_eq]at h;have:=sH h.1;have hd:x.den≠0:=λe=>hx (this.2 e)
 omega
theorem BK{t:Nat}{l:List It}{kd:IntKind}{z:Int}{y:It}(h:0<=z)(h1:z<l.length):zv 3 0 (some (.sl t 3 (l.map au))) (some (.sc (.int kd z))) (some (au y))=some [.sl t 3 ((l.set z.toNat y).map au)]:=by
 rw[List.map_set];exact gl (e:=au) (k:=3) (λ_=>rfl) h h1 rfl
theorem NO{k:Int}{its:List It}{ns cl lv:List ByteArray}{c e:Int}(h:VF k its [] ns cl lv c e)(hw:ck (.mk k its [] ns cl lv c e)<=1000000000)(h5:k≠5):
 aI Try.prog 22 [(true,aj (.mk k its [] ns cl lv c e))] [(true,eF (wl k lv) (Cm lv its),true)]:=by
 have g1:=vp _ hw;obtain⟨rfl,rfl⟩:=h.ce h5;have hil:=h.il;have hit:=h.it;have hlb:lv.length<=20:=by have:=h.lb;unfold iR at this;simp only[Bool.and_eq_true,decide_eq_true_eq]at this;omega
 clear h;simp only[aj,af,av,eF,List.map_nil]at g1 ⊢;by_cases hl:lv=[]
 ·subst hl;simp only[List.map_nil]at g1;refine ah Try.func22 n7 rfl ?_;simp only[jq]
  repeat' (first|(with_reducible first|refine ac ?_|refine ab ‹_› rfl ?_|refine ai (λhbr=>?_) λhbr=>?_)|simp(disch:=first|omega|(simp only[aq];omega)|simp only[ap,Nat.reduceAdd]) only[go_sem,true_and])
  all_goals first|omega|rfl
 unfold wl Cm;rw[if_neg hl,if_neg hl];have hl0:lv.length≠0:=λe=>hl (List.eq_nil_of_length_eq_zero e)
 refine ah Try.func22 n7 rfl ?_;simp only[jq]
 repeat' (first|(with_reducible first|refine ac ?_|refine ab ‹_› rfl ?_|refine ai (λhbr=>?_) λhbr=>?_)|simp(disch:=first|omega|(simp only[aq];omega)|simp only[ap,Nat.reduceAdd]) only[go_sem,true_and])
 all_goals first|omega|skip
 refine lp (λi:Nat=>[.sc (.int .i64 i),.sl 42 3 ((zm (ww lv) its i).map au)]) (λi=>i<=its.length) (λi=>its.length-i) 0 (by rw[DF];rfl) (Nat.zero_le _) ?_;intro i hi;simp only[mz];have hml:=Be (f:=ww lv) (l:=its) (i:=i);by_cases hlt:i<its.length
 ·have hix:=cM (t:=42) (l:=its) (kd:=.i64) (z:=(i:Int)) (by omega) (by omega);rw[Int.toNat_natCast]at hix;have hs:=BU (f:=ww lv) hlt;have hk:=DD (f:=ww lv) hlt;have hx:=Bj (hit _ (aG hlt)) hl0;have hms:=ke (its.getD i default);generalize its.getD i default=x at hix hs hk hx hms;have htx:=l5 (lv.getD (x.num-1).toNat default);have hst:=λ(y:It)=>BK (t:=42) (l:=zm (ww lv) its i) (kd:=.i64) (z:=(i:Int)) (y:=y) (by omega) (by omega)
  have hst:=hst (ww lv x);rw[Int.toNat_natCast,hs]at hst;have hch:=aY (e:=au) (k:=3) (t:=42) (l:=zm (ww lv) its i) (kd:=.i64) (z:=(i:Int)) (by omega) (by omega);by_cases h0:x=bA
  ·rw[decide_eq_true h0]at hms;have hk:=hk (by unfold ww;rw[if_pos h0]);simp only[au]at hix hms
   repeat' (first|(with_reducible first|refine ac ?_|refine ab ‹_› rfl ?_|refine ai (λhbr=>?_) λhbr=>?_)|simp(disch:=first|omega|(simp only[aq];omega)|simp only[ap,Nat.reduceAdd]) only[go_sem,hix,ia])
   all_goals first|omega|exact⟨i+1,by rw[hk],by omega,by omega⟩
  ·rw[decide_eq_false h0]at hms;obtain⟨x1,x2,x3⟩:=hx h0;have hpl:ww lv x=vr (lv.getD (x.num-1).toNat default):=by unfold ww;rw[if_neg h0]
   rw[hpl]at hst;generalize hL:zm (ww lv) its (i+1)=L at hst;simp only[au]at hix hms hst htx
   repeat' (first|(with_reducible first|refine ac ?_|refine ab ‹_› rfl ?_|refine ai (λhbr=>?_) λhbr=>?_)|simp(disch:=first|omega|(simp only[aq];omega)|simp only[ap,Nat.reduceAdd]) only[go_sem,hix,hst,hch,ia])
   all_goals first|omega|exact⟨i+1,by rw[hL],by omega,by omega⟩
 ·obtain rfl:i=its.length:=by omega
  rw[Gc]
  repeat' (first|(with_reducible first|refine ac ?_|refine ab ‹_› rfl ?_|refine ai (λhbr=>?_) λhbr=>?_)|simp(disch:=first|omega|(simp only[aq];omega)|simp only[ap,Nat.reduceAdd]) only[go_sem,true_and])
  all_goals first|omega|rfl
theorem Oa{k:Int}{its:List It}{ns cl lv:List ByteArray}{c e:Int}(h:VF k its [] ns cl lv c e)(hw:ck (.mk k its [] ns cl lv c e)<=1000000000):
 aI Try.prog 30 [(true,aj (.mk k its [] ns cl lv c e))] [(true,eF (wl k lv) (Cm lv its),true)]:=by
 obtain⟨b1,-,b3,b4,b5,-⟩:=rU hw;have hil:=h.il;have hit:=h.it;have hlb:lv.length<=20:=by have:=h.lb;unfold iR at this;simp only[Bool.and_eq_true,decide_eq_true_eq]at this;omega
 clear h;simp only[aj,af,av,eF,List.map_nil];by_cases hl:lv=[]
 ·subst hl;simp only[List.map_nil];refine ah Try.func30 lB rfl ?_;simp only[gm]
  repeat' (first|(with_reducible first|refine ac ?_|refine ab ‹_› rfl ?_|refine ai (λhbr=>?_) λhbr=>?_)|simp(disch:=first|omega|(simp only[aq];omega)|simp only[ap,Nat.reduceAdd]) only[go_sem,BV,fq])
  all_goals refine lp (λi:Nat=>[.sc (.int .i64 i),.sc (.int .i64 k),.sl 42 3 (its.map au)]) (λi=>True) (λi=>0) 0 (by first|rfl|(simp only[List.isEmpty_iff]at *;simp_all[gL])) trivial ?_
  all_goals
   intro i _;simp only[fz]
   repeat' (first|(with_reducible first|refine ac ?_|refine ab ‹_› rfl ?_|refine ai (λhbr=>?_) λhbr=>?_)|simp(disch:=first|omega|(simp only[aq];omega)|simp only[ap,Nat.reduceAdd]) only[go_sem,true_and])
   all_goals first|omega|rfl
 unfold wl Cm;rw[if_neg hl,if_neg hl];have hl0:lv.length≠0:=λe=>hl (List.eq_nil_of_length_eq_zero e)
 refine ah Try.func30 lB rfl ?_;simp only[gm]
 repeat' (first|(with_reducible first|refine ac ?_|refine ab ‹_› rfl ?_|refine ai (λhbr=>?_) λhbr=>?_)|simp(disch:=first|omega|(simp only[aq];omega)|simp only[ap,Nat.reduceAdd]) only[go_sem,BV,fq])
 all_goals refine lp (λi:Nat=>[.sc (.int .i64 i),.sc (.int .i64 (if i=0 then k else 3)),.sl 42 3 ((zm (ww lv) its i).map au)]) (λi=>i<=its.length) (λi=>its.length-i) 0 (by rw[DF];first|rfl|(simp only[List.isEmpty_iff]at *;simp_all[gL])) (Nat.zero_le _) ?_
 all_goals
  intro i hi;simp only[fz];have hml:=Be (f:=ww lv) (l:=its) (i:=i);by_cases hlt:i<its.length
  ·have hix:=cM (t:=42) (l:=its) (kd:=.i64) (z:=(i:Int)) (by omega) (by omega);have hix2:=cM (t:=42) (l:=zm (ww lv) its i) (kd:=.i64) (z:=(i:Int)) (by omega) (by omega);rw[Int.toNat_natCast]at hix hix2;rw[F1 hlt]at hix2;have hs:=BU (f:=ww lv) hlt;have hk:=DD (f:=ww lv) hlt;have hx:=Bj (hit _ (aG hlt)) hl0;have hst:=λ(y:It)=>BK (t:=42) (l:=zm (ww lv) its i) (kd:=.i64) (z:=(i:Int)) (y:=y) (by omega) (by omega)
   generalize its.getD i default=x at hix hix2 hs hk hx;have htx:=lK (lv.getD (x.num-1).toNat default);have hst:=hst (ww lv x);rw[Int.toNat_natCast,hs]at hst;have hch:=aY (e:=au) (k:=3) (t:=42) (l:=zm (ww lv) its i) (kd:=.i64) (z:=(i:Int)) (by omega) (by omega);have hch2:=aY (e:=au) (k:=3) (t:=42) (l:=its) (kd:=.i64) (z:=(i:Int)) (by omega) (by omega);by_cases h0:x=bA
   ·have hk:=hk (by unfold ww;rw[if_pos h0]);have hd:x.den=0:=by rw[h0];rfl
    simp only[au]at hix hix2
    repeat' (first|(with_reducible first|refine ac ?_|refine ab ‹_› rfl ?_|refine ai (λhbr=>?_) λhbr=>?_)|simp(disch:=first|omega|(simp only[aq];omega)|simp only[ap,Nat.reduceAdd]) only[go_sem,hix,hix2,hch,hch2,fu])
    all_goals first|omega|exact⟨i+1,by rw[hk];simp,by omega,by omega⟩
   ·obtain⟨x1,x2,x3⟩:=hx h0;have hpl:ww lv x=vr (lv.getD (x.num-1).toNat default):=by unfold ww;rw[if_neg h0]
    rw[hpl]at hst;generalize hL:zm (ww lv) its (i+1)=L at hst;simp only[au]at hix hix2 hst htx
    repeat' (first|(with_reducible first|refine ac ?_|refine ab ‹_› rfl ?_|refine ai (λhbr=>?_) λhbr=>?_)|simp(disch:=first|omega|(simp only[aq];omega)|simp only[ap,Nat.reduceAdd]) only[go_sem,hix,hix2,hst,hch,hch2,fu])
    all_goals first|omega|exact⟨i+1,by rw[hL];simp,by omega,by omega⟩
  ·obtain rfl:i=its.length:=by omega
   rw[Gc]
   repeat' (first|(with_reducible first|refine ac ?_|refine ab ‹_› rfl ?_|refine ai (λhbr=>?_) λhbr=>?_)|simp(disch:=first|omega|(simp only[aq];omega)|simp only[ap,Nat.reduceAdd]) only[go_sem,true_and])
   all_goals first|omega|rfl
end Go.Proofs.Ytgdbmcoamemmaaa
namespace Go.Proofs.Ytgdbmcoamemmaaa
open Go.RowKit
set_option maxRecDepth 100000
def iY:ByteArray:=⟨#[60,78,65,62]⟩
def co{α:Type}[Inhabited α](l:List α)(d:α)(p:Int):α:=if 1<=p/\p<=l.length then l.getD (p-1).toNat default else d
def gQ:aX->List Int->aX
 |.mk k its ps ns cl lv c e,l=>.mk k (if k=4 then[]else l.map (co its bA)) (if k=4 then l.map (co ps (fV 0 []))else[]) (rx (if ns=[]then[]else l.map (co ns iY))) (if lv=[]then[]else cl) (if lv=[]then[]else lv) 0 0
theorem lL{l:List aX}(h:l.length<=1000000000):xQ 28 8 144 (some (.sl 28 8 (l.map aj))) (some (.sl 28 8 [eF 0 []]))=some [.sl 28 8 ((l++[fV 0 []]).map aj)]:=by
 rw[<-mn,fE h]
theorem kO{α:Type}[Inhabited α]{l:List α}{d:α}{p:Int}(h:1<=p)(h':p<=l.length):co l d p=l.getD (p-1).toNat default:=if_pos ⟨h,h'⟩
theorem oW{α:Type}[Inhabited α]{l:List α}{d:α}{p:Int}(h:¬(1<=p/\p<=l.length)):co l d p=d:=if_neg h
set_option maxHeartbeats 2000000 in
theorem S7{k:Int}{its:List It}{ps:List aX}{ns cl lv:List ByteArray}{c e:Int}(h:VF k its ps ns cl lv c e)(hw:ck (.mk k its ps ns cl lv c e)<=1000000000)(hk:1<=k/\k<=4)(l:List Int)(hl:l.length<=1000000):
 aI Try.prog 42 [(true,aj (.mk k its ps ns cl lv c e)),(false,[bC l])] [(true,aj (gQ (.mk k its ps ns cl lv c e) l),true)]:=by
 obtain⟨b1,b2,b3,b4,b5,b6⟩:=rU hw;have g1:=Id k [] [] [] [] [] 0 0 k its ps ns cl lv c e b4 b5;have g2:=jM k its ps ns cl lv c e (rU hw);have hln:dX k its.length ps.length=(its.length+ps.length:Nat):=by unfold dX;rw[if_neg (by omega)];omega
 rw[hln]at g2;have g3:=AZ k (if k=4 then[]else l.map (co its bA)) (if k=4 then l.map (co ps (fV 0 []))else[]) (if ns=[]then[]else l.map (co ns iY)) (if lv=[]then[]else cl) (if lv=[]then[]else lv) 0 0 (by split<;>simp;omega);simp only[gQ];generalize (if lv=[]then([]:List ByteArray)else cl)=cl' at *;generalize (if lv=[]then([]:List ByteArray)else lv)=lv' at *;generalize rx (if ns=[]then[]else l.map (co ns iY))=ns' at *;have hi4:k=4->its=[]:=λe=>h.i0 (.inr (.inl e))
 have hp4:=h.p0;have hnl:=h.nl;clear h hln;simp only[aj,af,av,bC,List.map_nil]at g1 g2 g3 ⊢;refine ah Try.func42 vH rfl ?_;simp only[mS]
 repeat' (first|(with_reducible first|refine ac ?_|refine ab ‹_› rfl ?_|refine ai (λhbr=>?_) λhbr=>?_)|simp(disch:=first|omega|(simp only[aq];omega)|simp only[ap,Nat.reduceAdd]) only[go_sem,true_and])
 refine gY (f:=74) (bits:=1) (by decide) g1 rfl ?_
 repeat' (first|(with_reducible first|refine ac ?_|refine ab ‹_› rfl ?_|refine ai (λhbr=>?_) λhbr=>?_)|simp(disch:=first|omega|(simp only[aq];omega)|simp only[ap,Nat.reduceAdd]) only[go_sem,true_and])
 refine lp (λi:Nat=>[.sc (.int .i64 i),.sl 9 1 ((if ns=[]then[]else(l.take i).map (co ns iY)).map bQ),.sl 28 8 ((if k=4 then(l.take i).map (co ps (fV 0 []))else[]).map aj),.sl 42 3 ((if k=4 then[]else(l.take i).map (co its bA)).map au)]) (λi=>i<=l.length) (λi=>l.length-i) 0 (by simp[gL]) (Nat.zero_le _) ?_;intro i hi;simp only[lI];by_cases hlt:i<l.length
 ·have hz:=sC (t:=3) (l:=l) (kd:=.i64) (z:=(i:Int)) (by omega) (by omega);rw[Int.toNat_natCast]at hz;have ht:l.take (i+1)=l.take i++[l.getD i default]:=bm hlt;generalize l.getD i default=p at hz ht;have e1:=@kO It _ its bA p;have e2:=@kO aX _ ps (fV 0 []) p;have e3:=@kO ByteArray _ ns iY p;have f1:=@oW It _ its bA p;have f2:=@oW aX _ ps (fV 0 []) p;have f3:=@oW ByteArray _ ns iY p;by_cases h4:k=4
  ·have hits:=hi4 h4;subst hits h4;simp only[if_true,List.length_nil,Nat.zero_add,List.map_nil]at g2 ⊢;by_cases hn:ns=[]
   ·simp only[if_pos hn];subst hn;clear hnl;simp only[List.map_nil]at g2 ⊢;by_cases hin:1<=p/\p<=ps.length
    ·have hm:=aG (l:=ps) (i:=(p-1).toNat) (by omega);have hc:=vp _ (b6 _ hm);have hix:d6 8 (some (.sl 28 8 (ps.map aj))) (some (.sc (.int .i64 (p-1))))=some (aj (ps.getD (p-1).toNat default)):=py (by omega) (by omega);have hap:=fE (t:=28) (ti:=42) (l:=(l.take i).map (co ps (fV 0 []))) (v:=ps.getD (p-1).toNat default) (by simp;omega);have hM:(l.take i).map (co ps (fV 0 []))++[ps.getD (p-1).toNat default]=(l.take (i+1)).map (co ps (fV 0 [])):=by rw[ht,List.map_append,List.map_singleton,e2 hin.1 hin.2]
     rw[hM]at hap;generalize ps.getD (p-1).toNat default=x at hc hix hap;obtain⟨x0,x1,x2,x3,x4,x5,x6,x7⟩:=x;simp only[aj,af,av]at hc hix hap
     repeat' (first|(with_reducible first|refine ac ?_|refine ab ‹_› rfl ?_|refine ai (λhbr=>?_) λhbr=>?_)|simp(disch:=first|omega|(simp only[aq];omega)|simp only[ap,Nat.reduceAdd]) only[go_sem,hz,hix,hap,bE,bG,bJ,bH])
     all_goals first|omega|exact⟨i+1,rfl,by omega,by omega⟩|skip
    ·have hap:=lL (l:=(l.take i).map (co ps (fV 0 []))) (by simp;omega);have hM:(l.take i).map (co ps (fV 0 []))++[fV 0 []]=(l.take (i+1)).map (co ps (fV 0 [])):=by rw[ht,List.map_append,List.map_singleton,f2 hin]
     rw[hM]at hap;simp only[eF,List.map_nil]at hap
     repeat' (first|(with_reducible first|refine ac ?_|refine ab ‹_› rfl ?_|refine ai (λhbr=>?_) λhbr=>?_)|simp(disch:=first|omega|(simp only[aq];omega)|simp only[ap,Nat.reduceAdd]) only[go_sem,hz,hap,bE,bG,bJ,bH])
     all_goals first|omega|exact⟨i+1,rfl,by omega,by omega⟩|skip
   ·simp only[if_neg hn];have hnl:=(hnl.resolve_left hn).2;simp only[List.length_nil,Nat.zero_add]at hnl;have hn0:ns.length≠0:=λe=>hn (List.eq_nil_of_length_eq_zero e)
    by_cases hin:1<=p/\p<=ps.length
    ·have hm:=aG (l:=ps) (i:=(p-1).toNat) (by omega);have hc:=vp _ (b6 _ hm);have hix:d6 8 (some (.sl 28 8 (ps.map aj))) (some (.sc (.int .i64 (p-1))))=some (aj (ps.getD (p-1).toNat default)):=py (by omega) (by omega);have hap:=fE (t:=28) (ti:=42) (l:=(l.take i).map (co ps (fV 0 []))) (v:=ps.getD (p-1).toNat default) (by simp;omega);have hM:(l.take i).map (co ps (fV 0 []))++[ps.getD (p-1).toNat default]=(l.take (i+1)).map (co ps (fV 0 [])):=by rw[ht,List.map_append,List.map_singleton,e2 hin.1 hin.2]
     rw[hM]at hap;have hN:(l.take i).map (co ns iY)++[ns.getD (p-1).toNat default]=(l.take (i+1)).map (co ns iY):=by rw[ht,List.map_append,List.map_singleton,e3 hin.1 (by omega)]
     generalize ps.getD (p-1).toNat default=x at hc hix hap;obtain⟨x0,x1,x2,x3,x4,x5,x6,x7⟩:=x;simp only[aj,af,av]at hc hix hap
     repeat' (first|(with_reducible first|refine ac ?_|refine ab ‹_› rfl ?_|refine ai (λhbr=>?_) λhbr=>?_)|simp(disch:=first|omega|(simp only[aq];omega)|simp only[ap,Nat.reduceAdd]) only[go_sem,hz,hix,hap,hN,bE,bG,bJ,bH])
     all_goals first|omega|exact⟨i+1,rfl,by omega,by omega⟩|skip
    ·have hap:=lL (l:=(l.take i).map (co ps (fV 0 []))) (by simp;omega);have hM:(l.take i).map (co ps (fV 0 []))++[fV 0 []]=(l.take (i+1)).map (co ps (fV 0 [])):=by rw[ht,List.map_append,List.map_singleton,f2 hin]
     rw[hM]at hap;simp only[eF,List.map_nil]at hap;have hN:(l.take i).map (co ns iY)++[iY]=(l.take (i+1)).map (co ns iY):=by rw[ht,List.map_append,List.map_singleton,f3 (by omega)]
     unfold iY at hN ⊢
     repeat' (first|(with_reducible first|refine ac ?_|refine ab ‹_› rfl ?_|refine ai (λhbr=>?_) λhbr=>?_)|simp(disch:=first|omega|(simp only[aq];omega)|simp only[ap,Nat.reduceAdd]) only[go_sem,hz,hap,hN,bE,bG,bJ,bH])
     all_goals first|omega|exact⟨i+1,rfl,by omega,by omega⟩|skip
  ·have hps:=hp4 h4;subst hps;simp only[if_neg h4,List.length_nil,Nat.add_zero,List.map_nil]at g2 ⊢;by_cases hn:ns=[]
   ·simp only[if_pos hn];subst hn;clear hnl;simp only[List.map_nil]at g2 ⊢;by_cases hin:1<=p/\p<=its.length
    ·have hix:d6 3 (some (.sl 42 3 (its.map au))) (some (.sc (.int .i64 (p-1))))=some (au (its.getD (p-1).toNat default)):=cM (by omega) (by omega);have hM:(l.take i).map (co its bA)++[its.getD (p-1).toNat default]=(l.take (i+1)).map (co its bA):=by rw[ht,List.map_append,List.map_singleton,e1 hin.1 hin.2]
     generalize its.getD (p-1).toNat default=x at hix hM;have hM:=congrArg (List.map au) hM;simp only[au,List.map_append,List.map_cons,List.map_nil]at hix hM
     repeat' (first|(with_reducible first|refine ac ?_|refine ab ‹_› rfl ?_|refine ai (λhbr=>?_) λhbr=>?_)|simp(disch:=first|omega|(simp only[aq];omega)|simp only[ap,Nat.reduceAdd]) only[go_sem,hz,hix,gn,hM,h4,bE,bG,bJ,bH])
     all_goals first|omega|exact⟨i+1,rfl,by omega,by omega⟩|skip
    ·have hM:(l.take i).map (co its bA)++[bA]=(l.take (i+1)).map (co its bA):=by rw[ht,List.map_append,List.map_singleton,f1 hin]
     have hM:((l.take i).map (co its bA)).map au++[[.sc (.int .i64 0),.sc (.int .i64 0),.sc (.string ⟨#[]⟩)]]=((l.take (i+1)).map (co its bA)).map au:=by rw[<-hM,List.map_append];rfl
     repeat' (first|(with_reducible first|refine ac ?_|refine ab ‹_› rfl ?_|refine ai (λhbr=>?_) λhbr=>?_)|simp(disch:=first|omega|(simp only[aq];omega)|simp only[ap,Nat.reduceAdd]) only[go_sem,hz,gn,hM,h4,bE,bG,bJ,bH])
     all_goals first|omega|exact⟨i+1,rfl,by omega,by omega⟩|skip
   ·simp only[if_neg hn];have hnl:=(hnl.resolve_left hn).2;simp only[List.length_nil,Nat.add_zero]at hnl;have hn0:ns.length≠0:=λe=>hn (List.eq_nil_of_length_eq_zero e)
    by_cases hin:1<=p/\p<=its.length
    ·have hix:d6 3 (some (.sl 42 3 (its.map au))) (some (.sc (.int .i64 (p-1))))=some (au (its.getD (p-1).toNat default)):=cM (by omega) (by omega);have hM:(l.take i).map (co its bA)++[its.getD (p-1).toNat default]=(l.take (i+1)).map (co its bA):=by rw[ht,List.map_append,List.map_singleton,e1 hin.1 hin.2]
     have hN:(l.take i).map (co ns iY)++[ns.getD (p-1).toNat default]=(l.take (i+1)).map (co ns iY):=by rw[ht,List.map_append,List.map_singleton,e3 hin.1 (by omega)]
     generalize its.getD (p-1).toNat default=x at hix hM;have hM:=congrArg (List.map au) hM;simp only[au,List.map_append,List.map_cons,List.map_nil]at hix hM
     repeat' (first|(with_reducible first|refine ac ?_|refine ab ‹_› rfl ?_|refine ai (λhbr=>?_) λhbr=>?_)|simp(disch:=first|omega|(simp only[aq];omega)|simp only[ap,Nat.reduceAdd]) only[go_sem,hz,hix,gn,hM,h4,hN,bE,bG,bJ,bH])
     all_goals first|omega|exact⟨i+1,rfl,by omega,by omega⟩|skip
    ·have hM:(l.take i).map (co its bA)++[bA]=(l.take (i+1)).map (co its bA):=by rw[ht,List.map_append,List.map_singleton,f1 hin]
     have hM:((l.take i).map (co its bA)).map au++[[.sc (.int .i64 0),.sc (.int .i64 0),.sc (.string ⟨#[]⟩)]]=((l.take (i+1)).map (co its bA)).map au:=by rw[<-hM,List.map_append];rfl
     have hN:(l.take i).map (co ns iY)++[iY]=(l.take (i+1)).map (co ns iY):=by rw[ht,List.map_append,List.map_singleton,f3 (by omega)]
     unfold iY at hN ⊢
     repeat' (first|(with_reducible first|refine ac ?_|refine ab ‹_› rfl ?_|refine ai (λhbr=>?_) λhbr=>?_)|simp(disch:=first|omega|(simp only[aq];omega)|simp only[ap,Nat.reduceAdd]) only[go_sem,hz,gn,hM,h4,hN,bE,bG,bJ,bH])
     all_goals first|omega|exact⟨i+1,rfl,by omega,by omega⟩|skip
 ·obtain rfl:i=l.length:=by omega
  rw[List.take_length]
  repeat' (first|(with_reducible first|refine ac ?_|refine ab ‹_› rfl ?_|refine ai (λhbr=>?_) λhbr=>?_)|simp(disch:=first|omega|(simp only[aq];omega)|simp only[ap,Nat.reduceAdd]) only[go_sem,true_and])
  all_goals first|omega|skip
  refine gY (f:=52) (bits:=1) (by decide) g3 rfl ?_
  repeat' (first|(with_reducible first|refine ac ?_|refine ab ‹_› rfl ?_|refine ai (λhbr=>?_) λhbr=>?_)|simp(disch:=first|omega|(simp only[aq];omega)|simp only[ap,Nat.reduceAdd]) only[go_sem,true_and])
  all_goals first|omega|rfl
set_option maxHeartbeats 4000000 in
theorem Ol{k:Int}{its:List It}{ps:List aX}{ns cl lv:List ByteArray}{c e:Int}(hv:gZ 3 (.mk k its ps ns cl lv c e)=true)(hw:ck (.mk k its ps ns cl lv c e)<=1000000000)(hk:1<=k/\k<=4)(l:List Int)(hl:l.length<=1000000)(hr:∀p∈l,0<=p/\p<=1000000):
 aI Try.prog 44 [(true,aj (.mk k its ps ns cl lv c e)),(false,[bC l])] [(true,aj (gQ (.mk k its ps ns cl lv c e) l),true)]:=by
 have h:=vf hv;obtain⟨b1,b2,b3,b4,b5,b6⟩:=rU hw;have g2:=gX k its ps ns cl lv c e (rU hw);have hln:dX k its.length ps.length=(its.length+ps.length:Nat):=by unfold dX;rw[if_neg (by omega)];omega
 rw[hln]at g2;have g3:=xL k (if k=4 then[]else l.map (co its bA)) (if k=4 then l.map (co ps (fV 0 []))else[]) (if ns=[]then[]else l.map (co ns iY)) (if lv=[]then[]else cl) (if lv=[]then[]else lv) 0 0 (by split<;>simp;omega);simp only[gQ]
 have hcl:(lv=[]/\(if lv=[]then([]:List ByteArray)else cl)=[]/\(if lv=[]then([]:List ByteArray)else lv)=[])\/(lv.length≠0/\(if lv=[]then([]:List ByteArray)else cl)=cl/\(if lv=[]then([]:List ByteArray)else lv)=lv):=by
  by_cases h:lv=[]
  ·exact .inl ⟨h,if_pos h,if_pos h⟩
  ·exact .inr ⟨λe=>h (List.eq_nil_of_length_eq_zero e),if_neg h,if_neg h⟩
 generalize (if lv=[]then([]:List ByteArray)else cl)=cl' at *;generalize (if lv=[]then([]:List ByteArray)else lv)=lv' at *;generalize rx (if ns=[]then[]else l.map (co ns iY))=ns' at *;have hi4:k=4->its=[]:=λe=>h.i0 (.inr (.inl e))
 have hp4:=h.p0;have hnl:=h.nl;have hkd:∀p∈ps,gZ 3 p=true:=λp hp=>qz 2 p (h.kd p hp)
 clear h hln hv;simp only[aj,af,av,bC,List.map_nil]at g2 g3 ⊢;refine ah Try.func44 wh rfl ?_;simp only[m0];rcases hcl with⟨rfl,rfl,rfl⟩|⟨hcl,rfl,rfl⟩
 all_goals (try simp only[List.map_nil]at g2 g3 ⊢)
 all_goals repeat' (first|(with_reducible first|refine ac ?_|refine ab ‹_› rfl ?_|refine ai (λhbr=>?_) λhbr=>?_)|simp(disch:=first|omega|(simp only[aq];omega)|simp only[ap,Nat.reduceAdd]) only[go_sem,lm])
 all_goals first|omega|skip
 all_goals refine lp (λi:Nat=>[.sc (.int .i64 i),.sl 9 1 ((if ns=[]then[]else(l.take i).map (co ns iY)).map bQ),.sl 28 8 ((if k=4 then(l.take i).map (co ps (fV 0 []))else[]).map aj),.sl 42 3 ((if k=4 then[]else(l.take i).map (co its bA)).map au)]) (λi=>i<=l.length) (λi=>l.length-i) 0 (by simp[gL]) (Nat.zero_le _) ?_
 all_goals
  intro i hi;simp only[lX];by_cases hlt:i<l.length
  ·have hz:=sC (t:=3) (l:=l) (kd:=.i64) (z:=(i:Int)) (by omega) (by omega);rw[Int.toNat_natCast]at hz;have ht:l.take (i+1)=l.take i++[l.getD i default]:=bm hlt;have hpr:=hr _ (aG hlt);have hq:=L8 (l.getD i default-1) 0 ((its.length+ps.length:Nat)-1);generalize l.getD i default=p at hz ht hq hpr;have e1:=@kO It _ its bA p;have e2:=@kO aX _ ps (fV 0 []) p;have e3:=@kO ByteArray _ ns iY p;have f1:=@oW It _ its bA p;have f2:=@oW aX _ ps (fV 0 []) p;have f3:=@oW ByteArray _ ns iY p;by_cases h4:k=4
   ·have hits:=hi4 h4;subst hits h4;simp only[if_true,List.length_nil,Nat.zero_add,List.map_nil]at g2 hq ⊢;by_cases hn:ns=[]
    ·simp only[if_pos hn];subst hn;clear hnl;simp only[List.map_nil]at g2 hq ⊢;by_cases hin:1<=p/\p<=ps.length
     ·rw[decide_eq_true (by omega)]at hq;have hm:=aG (l:=ps) (i:=(p-1).toNat) (by omega);have hc:=zU _ (b6 _ hm) (lz (hkd _ hm)) (lT (hkd _ hm));have hix:d6 8 (some (.sl 28 8 (ps.map aj))) (some (.sc (.int .i64 (p-1))))=some (aj (ps.getD (p-1).toNat default)):=py (by omega) (by omega);have hap:=fE (t:=28) (ti:=42) (l:=(l.take i).map (co ps (fV 0 []))) (v:=ps.getD (p-1).toNat default) (by simp;omega);have hM:(l.take i).map (co ps (fV 0 []))++[ps.getD (p-1).toNat default]=(l.take (i+1)).map (co ps (fV 0 [])):=by rw[ht,List.map_append,List.map_singleton,e2 hin.1 hin.2]
      rw[hM]at hap;generalize ps.getD (p-1).toNat default=x at hc hix hap;obtain⟨x0,x1,x2,x3,x4,x5,x6,x7⟩:=x;simp only[aj,af,av]at hc hix hap
      repeat' (first|(with_reducible first|refine ac ?_|refine ab ‹_› rfl ?_|refine ai (λhbr=>?_) λhbr=>?_)|simp(disch:=first|omega|(simp only[aq];omega)|simp only[ap,Nat.reduceAdd]) only[go_sem,hz,hix,hap,bK,bI,bF])
      all_goals first|omega|exact⟨i+1,rfl,by omega,by omega⟩|skip
     ·rw[decide_eq_false (by omega)]at hq;have hap:=lL (l:=(l.take i).map (co ps (fV 0 []))) (by simp;omega);have hM:(l.take i).map (co ps (fV 0 []))++[fV 0 []]=(l.take (i+1)).map (co ps (fV 0 [])):=by rw[ht,List.map_append,List.map_singleton,f2 hin]
      rw[hM]at hap;simp only[eF,List.map_nil]at hap
      repeat' (first|(with_reducible first|refine ac ?_|refine ab ‹_› rfl ?_|refine ai (λhbr=>?_) λhbr=>?_)|simp(disch:=first|omega|(simp only[aq];omega)|simp only[ap,Nat.reduceAdd]) only[go_sem,hz,hap,bK,bI,bF])
      all_goals first|omega|exact⟨i+1,rfl,by omega,by omega⟩|skip
    ·simp only[if_neg hn];have hnl:=(hnl.resolve_left hn).2;simp only[List.length_nil,Nat.zero_add]at hnl;have hn0:ns.length≠0:=λe=>hn (List.eq_nil_of_length_eq_zero e)
     by_cases hin:1<=p/\p<=ps.length
     ·rw[decide_eq_true (by omega)]at hq;have hm:=aG (l:=ps) (i:=(p-1).toNat) (by omega);have hc:=zU _ (b6 _ hm) (lz (hkd _ hm)) (lT (hkd _ hm));have hix:d6 8 (some (.sl 28 8 (ps.map aj))) (some (.sc (.int .i64 (p-1))))=some (aj (ps.getD (p-1).toNat default)):=py (by omega) (by omega);have hap:=fE (t:=28) (ti:=42) (l:=(l.take i).map (co ps (fV 0 []))) (v:=ps.getD (p-1).toNat default) (by simp;omega);have hM:(l.take i).map (co ps (fV 0 []))++[ps.getD (p-1).toNat default]=(l.take (i+1)).map (co ps (fV 0 [])):=by rw[ht,List.map_append,List.map_singleton,e2 hin.1 hin.2]
      rw[hM]at hap;have hN:(l.take i).map (co ns iY)++[ns.getD (p-1).toNat default]=(l.take (i+1)).map (co ns iY):=by rw[ht,List.map_append,List.map_singleton,e3 hin.1 (by omega)]
      generalize ps.getD (p-1).toNat default=x at hc hix hap;obtain⟨x0,x1,x2,x3,x4,x5,x6,x7⟩:=x;simp only[aj,af,av]at hc hix hap
      repeat' (first|(with_reducible first|refine ac ?_|refine ab ‹_› rfl ?_|refine ai (λhbr=>?_) λhbr=>?_)|simp(disch:=first|omega|(simp only[aq];omega)|simp only[ap,Nat.reduceAdd]) only[go_sem,hz,hix,hap,hN,bK,bI,bF])
      all_goals first|omega|exact⟨i+1,rfl,by omega,by omega⟩|skip
     ·rw[decide_eq_false (by omega)]at hq;have hap:=lL (l:=(l.take i).map (co ps (fV 0 []))) (by simp;omega);have hM:(l.take i).map (co ps (fV 0 []))++[fV 0 []]=(l.take (i+1)).map (co ps (fV 0 [])):=by rw[ht,List.map_append,List.map_singleton,f2 hin]
      rw[hM]at hap;simp only[eF,List.map_nil]at hap;have hN:(l.take i).map (co ns iY)++[iY]=(l.take (i+1)).map (co ns iY):=by rw[ht,List.map_append,List.map_singleton,f3 (by omega)]
      unfold iY at hN ⊢
      repeat' (first|(with_reducible first|refine ac ?_|refine ab ‹_› rfl ?_|refine ai (λhbr=>?_) λhbr=>?_)|simp(disch:=first|omega|(simp only[aq];omega)|simp only[ap,Nat.reduceAdd]) only[go_sem,hz,hap,hN,bK,bI,bF])
      all_goals first|omega|exact⟨i+1,rfl,by omega,by omega⟩|skip
   ·have hps:=hp4 h4;subst hps;simp only[if_neg h4,List.length_nil,Nat.add_zero,List.map_nil]at g2 hq ⊢;by_cases hn:ns=[]
    ·simp only[if_pos hn];subst hn;clear hnl;simp only[List.map_nil]at g2 hq ⊢;by_cases hin:1<=p/\p<=its.length
     ·rw[decide_eq_true (by omega)]at hq;have hix:d6 3 (some (.sl 42 3 (its.map au))) (some (.sc (.int .i64 (p-1))))=some (au (its.getD (p-1).toNat default)):=cM (by omega) (by omega);have hM:(l.take i).map (co its bA)++[its.getD (p-1).toNat default]=(l.take (i+1)).map (co its bA):=by rw[ht,List.map_append,List.map_singleton,e1 hin.1 hin.2]
      generalize its.getD (p-1).toNat default=x at hix hM;have hM:=congrArg (List.map au) hM;simp only[au,List.map_append,List.map_cons,List.map_nil]at hix hM
      repeat' (first|(with_reducible first|refine ac ?_|refine ab ‹_› rfl ?_|refine ai (λhbr=>?_) λhbr=>?_)|simp(disch:=first|omega|(simp only[aq];omega)|simp only[ap,Nat.reduceAdd]) only[go_sem,hz,hix,gn,hM,h4,bK,bI,bF])
      all_goals first|omega|exact⟨i+1,rfl,by omega,by omega⟩|skip
     ·rw[decide_eq_false (by omega)]at hq;have hM:(l.take i).map (co its bA)++[bA]=(l.take (i+1)).map (co its bA):=by rw[ht,List.map_append,List.map_singleton,f1 hin]
      have hM:((l.take i).map (co its bA)).map au++[[.sc (.int .i64 0),.sc (.int .i64 0),.sc (.string ⟨#[]⟩)]]=((l.take (i+1)).map (co its bA)).map au:=by rw[<-hM,List.map_append];rfl
      repeat' (first|(with_reducible first|refine ac ?_|refine ab ‹_› rfl ?_|refine ai (λhbr=>?_) λhbr=>?_)|simp(disch:=first|omega|(simp only[aq];omega)|simp only[ap,Nat.reduceAdd]) only[go_sem,hz,gn,hM,h4,bK,bI,bF])
      all_goals first|omega|exact⟨i+1,rfl,by omega,by omega⟩|skip
    ·simp only[if_neg hn];have hnl:=(hnl.resolve_left hn).2;simp only[List.length_nil,Nat.add_zero]at hnl;have hn0:ns.length≠0:=λe=>hn (List.eq_nil_of_length_eq_zero e)
     by_cases hin:1<=p/\p<=its.length
     ·rw[decide_eq_true (by omega)]at hq;have hix:d6 3 (some (.sl 42 3 (its.map au))) (some (.sc (.int .i64 (p-1))))=some (au (its.getD (p-1).toNat default)):=cM (by omega) (by omega);have hM:(l.take i).map (co its bA)++[its.getD (p-1).toNat default]=(l.take (i+1)).map (co its bA):=by rw[ht,List.map_append,List.map_singleton,e1 hin.1 hin.2]
      have hN:(l.take i).map (co ns iY)++[ns.getD (p-1).toNat default]=(l.take (i+1)).map (co ns iY):=by rw[ht,List.map_append,List.map_singleton,e3 hin.1 (by omega)]
      generalize its.getD (p-1).toNat default=x at hix hM;have hM:=congrArg (List.map au) hM;simp only[au,List.map_append,List.map_cons,List.map_nil]at hix hM
      repeat' (first|(with_reducible first|refine ac ?_|refine ab ‹_› rfl ?_|refine ai (λhbr=>?_) λhbr=>?_)|simp(disch:=first|omega|(simp only[aq];omega)|simp only[ap,Nat.reduceAdd]) only[go_sem,hz,hix,gn,hM,h4,hN,bK,bI,bF])
      all_goals first|omega|exact⟨i+1,rfl,by omega,by omega⟩|skip
     ·rw[decide_eq_false (by omega)]at hq;have hM:(l.take i).map (co its bA)++[bA]=(l.take (i+1)).map (co its bA):=by rw[ht,List.map_append,List.map_singleton,f1 hin]
      have hM:((l.take i).map (co its bA)).map au++[[.sc (.int .i64 0),.sc (.int .i64 0),.sc (.string ⟨#[]⟩)]]=((l.take (i+1)).map (co its bA)).map au:=by rw[<-hM,List.map_append];rfl
      have hN:(l.take i).map (co ns iY)++[iY]=(l.take (i+1)).map (co ns iY):=by rw[ht,List.map_append,List.map_singleton,f3 (by omega)]
      unfold iY at hN ⊢
      repeat' (first|(with_reducible first|refine ac ?_|refine ab ‹_› rfl ?_|refine ai (λhbr=>?_) λhbr=>?_)|simp(disch:=first|omega|(simp only[aq];omega)|simp only[ap,Nat.reduceAdd]) only[go_sem,hz,gn,hM,h4,hN,bK,bI,bF])
      all_goals first|omega|exact⟨i+1,rfl,by omega,by omega⟩|skip
  ·obtain rfl:i=l.length:=by omega
   rw[List.take_length]
   repeat' (first|(with_reducible first|refine ac ?_|refine ab ‹_› rfl ?_|refine ai (λhbr=>?_) λhbr=>?_)|simp(disch:=first|omega|(simp only[aq];omega)|simp only[ap,Nat.reduceAdd]) only[go_sem,true_and])
   all_goals first|omega|skip
   refine gY (f:=34) (bits:=1) (by decide) g3 rfl ?_
   repeat' (first|(with_reducible first|refine ac ?_|refine ab ‹_› rfl ?_|refine ai (λhbr=>?_) λhbr=>?_)|simp(disch:=first|omega|(simp only[aq];omega)|simp only[ap,Nat.reduceAdd]) only[go_sem,true_and])
   all_goals first|omega|rfl
def jU:List aP:=[⟨2000006,8,⟨[bi 8 1 3,aa 16 32,aa 137 33,aa 129 34,al 15 3 2 0,aa 114 31,aa 14 27,aa 106 25,bi 13 2 1,aa 57 20,aa 44 18,aa 39 16,aa 23 14,aa 18 13,aa 7 10,(6,.p false [.nil]),al 5 0 0 0,aa 0 0,aa 1 1,(2,.p true [.d 2,.d 3,.d 4,.d 5,.d 6,.d 7,.d 8,.d 9])],[(0,.var 0 28 [.d 2,.d 3,.d 4,.d 5,.d 6,.d 7,.d 8,.d 9]),(2,.row 1 9 1 35),(3,.var 2 42 [.d 36,.d 37,.d 38]),(1,.row 3 3 1 39)],4,4,40,[(31,true),(25,false),(20,false),(18,false),(16,false),(14,false),(13,false)]⟩,[]⟩,⟨28,1,⟨[aa 129 38,al 15 3 3 0,aa 114 31,aa 14 27,aa 106 25,bi 13 2 2,aa 57 20,aa 44 18,aa 39 16,aa 23 14,aa 18 13,bi 8 1 1,aa 7 10,(6,.p false [.nil]),al 5 0 0 0,aa 0 0,aa 1 1,(2,.p true [.d 2,.d 3,.d 4,.d 5,.d 6,.d 7,.d 8,.d 9])],[(0,.var 0 28 [.d 2,.d 3,.d 4,.d 5,.d 6,.d 7,.d 8,.d 9]),(1,.row 1 3 1 28),(2,.row 2 9 1 29),(3,.var 3 42 [.d 32,.d 33,.d 34])],4,4,39,[(31,true),(25,false),(20,false),(18,false),(16,false),(14,false),(13,false)]⟩,[]⟩,⟨3000025,3,⟨[aa 14 27,aa 106 25,bi 13 2 2,aa 57 20,aa 44 18,aa 39 16,aa 23 14,aa 18 13,bi 8 1 1,aa 7 10,(6,.p false [.nil]),al 5 0 0 0,aa 0 0,aa 1 1,(2,.p true [.d 2,.d 3,.d 4,.d 5,.d 6,.d 7,.d 8,.d 9])],[(0,.var 0 28 [.d 2,.d 3,.d 4,.d 5,.d 6,.d 7,.d 8,.d 9]),(1,.row 1 3 1 28),(2,.row 2 9 1 29)],3,3,30,[(25,false),(20,false),(18,false),(16,false),(14,false),(13,false)]⟩,[]⟩,⟨3000022,1,⟨[bi 13 2 2,aa 57 20,aa 44 18,aa 39 16,aa 23 14,aa 18 13,bi 8 1 1,aa 7 10,(6,.p false [.nil]),al 5 0 0 0,aa 0 0,aa 1 1,(2,.p true [.d 2,.d 3,.d 4,.d 5,.d 6,.d 7,.d 8,.d 9])],[(0,.var 0 28 [.d 2,.d 3,.d 4,.d 5,.d 6,.d 7,.d 8,.d 9]),(1,.row 1 3 1 11),(2,.row 2 9 1 23)],3,3,24,[(20,false),(18,false),(16,false),(14,false),(13,false)]⟩,[]⟩,⟨2000002,5,⟨[bi 8 1 2,aa 87 30,al 12 2 1 0,aa 73 29,aa 11 22,aa 57 20,aa 44 18,aa 39 16,aa 23 14,aa 18 13,aa 7 10,(6,.p false [.nil]),al 5 0 0 0,aa 0 0,aa 1 1,(2,.p true [.d 2,.d 3,.d 4,.d 5,.d 6,.d 7,.d 8,.d 9])],[(0,.var 0 28 [.d 2,.d 3,.d 4,.d 5,.d 6,.d 7,.d 8,.d 9]),(2,.var 1 42 [.d 31,.d 32,.d 33]),(1,.row 2 3 1 34)],3,3,35,[(29,true),(26,true),(20,true),(18,false),(16,false),(14,false),(13,false)]⟩,[]⟩,⟨3000013,2,⟨[aa 11 22,aa 57 20,aa 44 18,aa 39 16,aa 23 14,aa 18 13,bi 8 1 1,aa 7 10,(6,.p false [.nil]),al 5 0 0 0,aa 0 0,aa 1 1,(2,.p true [.d 2,.d 3,.d 4,.d 5,.d 6,.d 7,.d 8,.d 9])],[(0,.var 0 28 [.d 2,.d 3,.d 4,.d 5,.d 6,.d 7,.d 8,.d 9]),(1,.row 1 3 1 23)],2,2,24,[(20,true),(18,false),(16,false),(14,false),(13,false)]⟩,[]⟩,⟨4,1,⟨[aa 23 14,aa 18 13,bi 8 1 1,aa 7 10,(6,.p false [.nil]),al 5 0 0 0,aa 0 0,aa 1 1,(2,.p true [.d 2,.d 3,.d 4,.d 5,.d 6,.d 7,.d 8,.d 9])],[(0,.var 0 28 [.d 2,.d 3,.d 4,.d 5,.d 6,.d 7,.d 8,.d 9]),(1,.row 1 3 1 11)],2,2,15,[(13,false)]⟩,[]⟩]
def j0:List (Nat×Nat×Bool×List Nat):=[(15,10,false,[])]
def eh:UP:=.i 1<|.a 7 0<|.jump 0 [0,2]
def cR:UP:=.l 4<|.i 0<|.b .gtr 1 0<|.ite 0 (.l 7<|.po (.mm true 9 0)<|.b .lss 6 0<|.ite 0 (.sel [6,7,10]<|.join 5 eh<|.l 2<|.c 0<|.b .rem 2 0<|.c 0<|.z 0<|.x 3 4 0<|.c 2<|.c 1<|.c 0<|.i 0<|.i 0<|.s #[]<|.i 0<|.e 5 0<|.ite 0 (.i 0<|.c 0<|.po (.mk 3 1 [[0]])<|.po (.flat 0)<|.po (.app 3 1 8 12 0)<|.jump 1 [3,10,9,8,0])<|.i 1<|.e 8 0<|.ite 0 (.i 1<|.a 14 0<|.c 0<|.po (.mk 3 1 [[0]])<|.po (.flat 0)<|.po (.app 3 1 8 15 0)<|.jump 1 [6,13,12,11,0])<|.jump 1 [2,9,8,7,12])<|.s #[]<|.c 0<|.ret [(false,[7]),(false,[0])])<|.f<|.s #[]<|.c 0<|.ret [(false,[5]),(false,[0])]
def bp:UP:=.ite 0 (.po (.mk 3 1 [])<|.s #[105,110,118,97,108,105,100,32,115,117,98,115,99,114,105,112,116]<|.c 0<|.ret [(false,[1]),(false,[0])])<|.cl 38 [(false,[4]),(false,[1])] aD<|.i 0<|.e 4 0<|.ite 0 (.i (-1)<|.i 1<|.a 1 0<|.c 0<|.po (.mk 3 1 [[0]])<|.po (.flat 0)<|.po (.app 3 1 8 12 0)<|.jump 2 [4,5,8,12,11,10,9,0])<|.i 0<|.b .lss 3 0<|.ite 0 (.l 9<|.c 7<|.po (.mk 9 1 [[7]])<|.po (.flat 0)<|.po (.app 9 1 16 11 0)<|.i 1<|.a 3 0<|.c 0<|.po (.mk 3 1 [[0]])<|.po (.flat 0)<|.po (.app 3 1 8 16 0)<|.jump 2 [6,9,12,4,15,14,13,0])<|.i 1<|.a 5 0<|.c 0<|.po (.mk 3 1 [[0]])<|.po (.flat 0)<|.po (.app 3 1 8 13 0)<|.jump 2 [8,6,9,13,12,11,10,0]
def bk:UP:=.i 1<|.a 11 0<|.jump 1 [0,2,6]
def ej:UP:=.l 6<|.b .lss 3 0<|.ite 0 (.sel [2,3,4,8]<|.join 8 bk<|.z 2<|.x 3 3 2<|.i 0<|.i 0<|.s #[]<|.sel [3,4,5,6,7]<|.join 1 bp<|.i 0<|.b .neq 2 0<|.ite 0 (.s #[]<|.e 3 0<|.jump 3 [0])<|.f<|.jump 3 [0])<|.s #[]<|.c 0<|.ret [(false,[4]),(false,[0])]
def eb:UP:=.l 0<|.b .lss 0 5<|.ite 0 (.s #[]<|.c 0<|.po (.mk 9 1 [[0]])<|.po (.flat 0)<|.po (.app 9 1 16 4 0)<|.jump 0 [0])<|.i 0<|.sel [0,3,5,6]<|.loop [0,2,1] ej
def bn:UP:=.ite 0 (.s #[105,110,118,97,108,105,100,32,110,97,109,101,115]<|.c 0<|.ret [(false,[2]),(false,[0])])<|.i 4<|.b .geq 4 0<|.ite 0 (.s #[105,110,118,97,108,105,100,32,115,117,98,115,99,114,105,112,116]<|.c 0<|.ret [(false,[4]),(false,[0])])<|.i 2<|.e 6 0<|.ite 0 (.sel [6,9]<|.cl 37 [(false,[1]),(false,[0])] rV<|.c 0<|.ret [(false,[1]),(false,[0])])<|.i 1<|.e 8 0<|.ite 0 (.i 0<|.sel [0,8,9,12]<|.loop [0,1] cR)<|.po (.mk 9 1 [])<|.po (.flat 11)<|.po (.app 9 1 16 0 11)<|.sel [0,9,10,13]<|.loop [0] eb
def bd:UP:=.s #[]<|.po (.mk 3 1 [])<|.cl 24 [(true,[9,8,7,6,5,4,3,2])] aD<|.n 0<|.ite 0 (.s #[105,110,118,97,108,105,100,32,118,101,99,116,111,114]<|.c 0<|.ret [(false,[3]),(false,[0])])<|.sel [2,10,11,12,13]<|.join 1 bn<|.i 0<|.i 40<|.cl 36 [(false,[6]),(false,[1]),(false,[0])] aD<|.n 0<|.ite 0 (.t<|.jump 0 [0])<|.l 7<|.i 0<|.b .neq 1 0<|.ite 0 (.l 10<|.b .neq 0 12<|.jump 0 [0])<|.f<|.jump 0 [0]
theorem bq:aR Try.prog 9 Try.f9 cV jU j0=some ([(false,1),(false,1),(true,8)],bd):=by kernel_rfl
def jV:List aP:=[⟨2000002,3,⟨[bi 8 1 1,aa 76 32,aa 75 33,aa 63 31,aa 9 27,aa 56 24,aa 51 21,aa 42 19,aa 34 17,aa 32 15,aa 31 2,aa 29 13,aa 12 12,aa 7 10,(6,.p false [.nil]),al 5 0 0 0,aa 0 0,aa 1 1,(2,.p true [.d 2,.d 3,.d 4,.d 5,.d 6,.d 7,.d 8,.d 9])],[(0,.var 0 28 [.d 2,.d 3,.d 4,.d 5,.d 6,.d 7,.d 8,.d 9]),(1,.row 1 3 1 34)],2,2,35,[(31,true),(24,false),(21,true),(19,false),(17,false),(15,false),(13,false),(12,false)]⟩,[]⟩,⟨3000017,2,⟨[bi 8 1 1,aa 9 27,aa 56 24,aa 51 21,aa 42 19,aa 34 17,aa 32 15,aa 31 2,aa 29 13,aa 12 12,aa 7 10,(6,.p false [.nil]),al 5 0 0 0,aa 0 0,aa 1 1,(2,.p true [.d 2,.d 3,.d 4,.d 5,.d 6,.d 7,.d 8,.d 9])],[(0,.var 0 28 [.d 2,.d 3,.d 4,.d 5,.d 6,.d 7,.d 8,.d 9]),(1,.row 1 3 1 28)],2,2,29,[(24,false),(21,true),(19,false),(17,false),(15,false),(13,false),(12,false)]⟩,[⟨true,8,0,3,1⟩]⟩,⟨3,1,⟨[aa 29 13,aa 12 12,aa 7 10,(6,.p false [.nil]),al 5 0 0 0,aa 0 0,aa 1 1,(2,.p true [.d 2,.d 3,.d 4,.d 5,.d 6,.d 7,.d 8,.d 9])],[(0,.var 0 28 [.d 2,.d 3,.d 4,.d 5,.d 6,.d 7,.d 8,.d 9])],1,1,14,[(12,false)]⟩,[]⟩]
def jS:List (Nat×Nat×Bool×List Nat):=[(19,10,false,[])]
def ea:UP:=.i 1<|.a 5 0<|.jump 0 [0,2]
def ec:UP:=.l 4<|.po (.mm true 6 0)<|.b .lss 3 0<|.ite 0 (.sel [3,4,7]<|.join 3 ea<|.l 2<|.c 0<|.b .rem 2 0<|.c 0<|.z 0<|.x 3 4 0<|.c 2<|.c 1<|.c 0<|.cl 73 [(true,[2,1,0])] aD<|.i 1<|.e 1 0<|.ite 0 (.i 1<|.a 10 0<|.c 0<|.po (.mk 3 1 [[0]])<|.po (.flat 0)<|.po (.app 3 1 8 11 0)<|.jump 1 [4,6,0])<|.i 2<|.e 3 0<|.ite 0 (.i 0<|.c 0<|.po (.mk 3 1 [[0]])<|.po (.flat 0)<|.po (.app 3 1 8 12 0)<|.jump 1 [5,7,0])<|.jump 1 [2,4,10])<|.s #[]<|.c 0<|.ret [(false,[4]),(false,[0])]
def ba:UP:=.ite 0 (.s #[105,110,118,97,108,105,100,32,110,97,109,101,115]<|.po (.e 3 1)<|.c 1<|.ret [(false,[0]),(false,[1])])<|.i 0<|.e 3 0<|.ite 0 (.s #[]<|.po (.e 3 1)<|.c 1<|.ret [(false,[0]),(false,[1])])<|.i 2<|.e 5 0<|.ite 0 (.sel [5,8]<|.cl 71 [(false,[1]),(false,[0])] rV<|.c 0<|.ret [(false,[1]),(false,[0])])<|.i 3<|.e 7 0<|.ite 0 (.sel [7,9,10]<|.cl 72 [(false,[2]),(false,[1]),(false,[0])] rV<|.c 0<|.ret [(false,[1]),(false,[0])])<|.i 1<|.e 9 0<|.ite 0 (.l 9<|.i 0<|.e 1 0<|.ite 0 (.s #[]<|.po (.e 3 1)<|.c 1<|.ret [(false,[0]),(false,[1])])<|.i 0<|.po (.e 3 1)<|.sel [0,1,14,17]<|.loop [1,0] ec)<|.s #[105,110,118,97,108,105,100,32,115,117,98,115,99,114,105,112,116]<|.po (.e 3 1)<|.c 1<|.ret [(false,[0]),(false,[1])]
def aT:UP:=.s #[]<|.cl 39 [(true,[8,7,6,5,4,3,2,1])] aD<|.n 0<|.ite 0 (.s #[105,110,118,97,108,105,100,32,118,101,99,116,111,114]<|.po (.e 3 1)<|.c 1<|.ret [(false,[0]),(false,[1])])<|.sel [9,10,11,12]<|.join 1 ba<|.i 0<|.b .lss 4 0<|.ite 0 (.t<|.t<|.jump 0 [0])<|.i 40<|.b .gtr 6 0<|.ite 0 (.t<|.jump 0 [0])<|.l 6<|.i 0<|.b .gtr 1 0<|.ite 0 (.l 9<|.b .neq 0 11<|.jump 0 [0])<|.f<|.jump 0 [0]
theorem bf:aR Try.prog 40 Try.f40 cV jV jS=some ([(false,1),(false,1),(true,8)],aT):=by kernel_rfl
def mi:List aP:=[⟨2000001,6,⟨[bi 8 0 2,aa 20 12,al 11 2 1 0,aa 16 11,bi 9 1 0,aa 15 8,aa 14 4,aa 13 2,aa 7 3,(6,.p false [.nil]),aa 0 0,aa 1 1,aa 2 2],[(1,.row 0 9 1 13),(2,.var 1 42 [.d 14,.d 15,.d 16]),(0,.row 2 3 1 17)],3,3,18,[(11,true)]⟩,[⟨true,9,0,9,1⟩]⟩,⟨3000004,3,⟨[bi 9 1 1,bi 8 0 0,aa 15 8,aa 14 4,aa 13 2,aa 7 3,(6,.p false [.nil]),aa 0 0,aa 1 1,aa 2 2],[(0,.row 0 3 1 9),(1,.row 1 9 1 10)],2,2,11,[]⟩,[⟨true,8,0,3,1⟩,⟨true,9,0,9,1⟩]⟩]
def mp:List (Nat×Nat×Bool×List Nat):=[]
def bS:UP:=.i 1<|.a 9 0<|.jump 0 [0,2,6]
def fa:UP:=.b .lss 2 6<|.ite 0 (.sel [1,2,3,9,10,11]<|.join 6 bS<|.z 2<|.x 3 3 2<|.i 0<|.i 0<|.s #[]<|.sel [3,4,5,6,7,10,11]<|.cl 55 [(true,[2,1,0])] aD<|.ite 0 (.i 0<|.c 0<|.po (.mk 3 1 [[0]])<|.po (.flat 0)<|.po (.app 3 1 8 7 0)<|.jump 1 [3,7,6,5,4,0])<|.s #[]<|.e 2 0<|.ite 0 (.s #[105,110,118,97,108,105,100,32,115,117,98,115,99,114,105,112,116]<|.po (.e 3 1)<|.c 1<|.ret [(false,[0]),(false,[1])])<|.cl 56 [(false,[8]),(false,[3])] aD<|.i 0<|.b .lss 1 0<|.ite 0 (.sel [5,6,7,8,9,10,12]<|.cl 56 [(false,[4]),(false,[1])] aD<|.i 0<|.b .lss 1 0<|.ite 0 (.l 7<|.c 5<|.po (.mk 9 1 [[5]])<|.po (.flat 0)<|.po (.app 9 1 16 9 0)<|.a 2 12<|.i 1<|.a 1 0<|.c 0<|.po (.mk 3 1 [[0]])<|.po (.flat 0)<|.po (.app 3 1 8 15 0)<|.jump 1 [11,5,14,13,12,0])<|.a 2 9<|.i 1<|.a 1 0<|.c 0<|.po (.mk 3 1 [[0]])<|.po (.flat 0)<|.po (.app 3 1 8 12 0)<|.jump 1 [8,12,11,10,9,0])<|.i 1<|.a 3 0<|.c 0<|.po (.mk 3 1 [[0]])<|.po (.flat 0)<|.po (.app 3 1 8 13 0)<|.jump 1 [9,13,12,11,10,0])<|.s #[]<|.c 0<|.ret [(false,[3]),(false,[0])]
def fJ:UP:=.s #[]<|.l 1<|.i 0<|.po (.e 3 1)<|.po (.e 9 1)<|.loop [2,1,0] fa
theorem ma:aR Try.prog 72 Try.f72 cV mi mp=some ([(false,1),(false,1),(false,1)],fJ):=by kernel_rfl
def x8:List aP:=[]
def xN:List (Nat×Nat×Bool×List Nat):=[]
def jo:UP:=.i 0<|.cl 55 [(true,[3,2,1])] aD<|.ite 0 (.i 2<|.c 0<|.r 0)<|.i 0<|.e 5 0<|.ite 0 (.i 0<|.c 0<|.r 0)<|.i 1<|.c 0<|.r 0
theorem oU:aR Try.prog 73 Try.f73 cV x8 xN=some ([(true,3)],jo):=by kernel_rfl
def kT:List aP:=[⟨2000004,2,⟨[bi 6 1 1,aa 75 23,aa 68 22,aa 12 20,aa 65 12,aa 63 17,aa 19 16,aa 18 11,aa 17 8,aa 16 1,bi 9 0 0,aa 8 12,aa 7 13,aa 5 2,(4,.p false [.nil]),aa 0 0,aa 1 1],[(0,.row 0 4 1 14),(1,.row 1 3 1 24)],2,2,25,[(22,true),(12,false),(17,false),(16,false),(4,false),(3,false)]⟩,[]⟩,⟨3000028,2,⟨[bi 6 1 1,aa 12 20,aa 65 12,aa 63 17,aa 19 16,aa 18 11,aa 17 8,aa 16 1,bi 9 0 0,aa 8 12,aa 7 13,aa 5 2,(4,.p false [.nil]),aa 0 0,aa 1 1],[(0,.row 0 4 1 14),(1,.row 1 3 1 21)],2,2,22,[(12,false),(17,false),(16,false),(4,false),(3,false)]⟩,[⟨true,6,0,3,1⟩]⟩,⟨2000001,8,⟨[bi 6 1 2,aa 8 17,aa 23 18,al 11 2 1 0,aa 19 16,aa 18 11,aa 17 8,aa 16 1,bi 9 0 0,aa 7 19,aa 5 2,(4,.p false [.nil]),aa 0 0,aa 1 1],[(0,.row 0 4 1 20),(2,.var 1 42 [.d 21,.d 22,.d 23]),(1,.row 2 3 1 24)],3,3,25,[(16,true),(4,false),(3,false)]⟩,[]⟩,⟨3000005,5,⟨[bi 6 1 1,aa 18 11,aa 17 8,aa 16 1,bi 9 0 0,aa 8 12,aa 7 13,aa 5 2,(4,.p false [.nil]),aa 0 0,aa 1 1],[(0,.row 0 4 1 14),(1,.row 1 3 1 15)],2,2,16,[(4,false),(3,false)]⟩,[⟨true,6,0,3,1⟩]⟩]
def kY:List (Nat×Nat×Bool×List Nat):=[]
def cg:UP:=.i 1<|.a 13 0<|.jump 0 [0,9,7,6,2]
def ez:UP:=.i 1<|.a 4 0<|.jump 1 [0,2]
def eA:UP:=.b .leq 1 5<|.ite 0 (.sel [1,2,5]<|.join 2 ez<|.z 1<|.po (.chk 1 2 1)<|.x 1 2 1<|.n 0<|.ite 0 (.c 3<|.po (.mk 3 1 [[3]])<|.po (.flat 0)<|.po (.app 3 1 8 3 0)<|.jump 2 [2,0])<|.jump 2 [0,2])<|.s #[]<|.c 0<|.ret [(false,[2]),(false,[0])]
def et:UP:=.b .lss 4 7<|.ite 0 (.sel [1,2,3,4,5,15,16]<|.join 8 cg<|.z 4<|.x 3 5 4<|.i 0<|.i 0<|.s #[]<|.sel [3,4,5,6,7,8,9,12]<|.cl 55 [(true,[2,1,0])] aD<|.ite 0 (.t<|.i 0<|.c 0<|.po (.mk 3 1 [[0]])<|.po (.flat 0)<|.po (.app 3 1 8 7 0)<|.jump 1 [3,4,10,9,7,6,5,0])<|.i 1<|.b .neq 3 0<|.ite 0 (.s #[105,110,118,97,108,105,100,32,115,117,98,115,99,114,105,112,116]<|.po (.e 3 1)<|.c 1<|.ret [(false,[0]),(false,[1])])<|.i (-40)<|.b .lss 6 0<|.ite 0 (.t<|.s #[115,117,98,115,99,114,105,112,116,32,111,117,116,32,111,102,32,98,111,117,110,100,115]<|.po (.e 3 1)<|.c 1<|.ret [(false,[0]),(false,[1])])<|.i 40<|.b .gtr 8 0<|.ite 0 (.s #[115,117,98,115,99,114,105,112,116,32,111,117,116,32,111,102,32,98,111,117,110,100,115]<|.po (.e 3 1)<|.c 1<|.ret [(false,[0]),(false,[1])])<|.i 0<|.b .gtr 10 0<|.ite 0 (.t<|.c 12<|.po (.mk 3 1 [[12]])<|.po (.flat 0)<|.po (.app 3 1 8 14 0)<|.jump 1 [2,11,17,16,14,13,12,0])<|.i 0<|.b .lss 12 0<|.ite 0 (.t<|.po (.un .neg 14)<|.b .leq 0 20<|.ite 0 (.po (.un .neg 16)<|.z 0<|.po (.chk 1 19 0)<|.t<|.c 0<|.po (.set 1 20 1 0 [0])<|.jump 1 [23,16,5,0,19,18,17,20])<|.jump 1 [20,13,2,18,16,15,14,17])<|.jump 1 [17,10,16,15,13,12,11,14])<|.n 3<|.ite 0 (.s #[]<|.c 0<|.ret [(false,[3]),(false,[0])])<|.ite 5 (.s #[105,110,118,97,108,105,100,32,115,117,98,115,99,114,105,112,116]<|.po (.e 3 1)<|.c 1<|.ret [(false,[0]),(false,[1])])<|.i 1<|.po (.e 3 1)<|.sel [0,1,5,19]<|.loop [1,0] eA
def eP:UP:=.s #[]<|.f<|.f<|.i 1<|.a 5 0<|.po (.make 4 1 1 [.sc (.bool false)] 0)<|.l 6<|.i 0<|.po (.e 3 1)<|.loop [1,6,7,3,0] et
theorem kS:aR Try.prog 71 Try.f71 cV kT kY=some ([(false,1),(false,1)],eP):=by kernel_rfl
def qQ:List aP:=[⟨2000003,4,⟨[bi 11 1 1,aa 95 20,aa 82 21,aa 14 22,aa 13 20,aa 76 19,aa 12 17,aa 71 14,aa 68 13,aa 19 12,aa 9 7,aa 8 8,aa 7 9,bi 6 0 0,aa 5 2,(4,.p false [.nil]),aa 0 0,aa 1 1],[(0,.row 0 3 1 10),(1,.row 1 3 1 23)],2,2,24,[(19,true),(14,false),(13,false),(12,false),(5,false),(4,false)]⟩,[]⟩,⟨3000026,2,⟨[aa 14 22,aa 13 23,aa 76 19,aa 12 17,bi 11 1 1,aa 71 14,aa 68 13,aa 19 12,aa 9 7,aa 8 8,aa 7 9,bi 6 0 0,aa 5 2,(4,.p false [.nil]),aa 0 0,aa 1 1],[(0,.row 0 3 1 10),(1,.row 1 3 1 18)],2,2,24,[(20,true),(19,true),(14,false),(13,false),(12,false),(5,false),(4,false)]⟩,[]⟩,⟨3000022,2,⟨[aa 12 17,bi 11 1 1,aa 71 14,aa 68 13,aa 19 12,aa 9 7,aa 8 8,aa 7 9,bi 6 0 0,aa 5 2,(4,.p false [.nil]),aa 0 0,aa 1 1],[(0,.row 0 3 1 10),(1,.row 1 3 1 18)],2,2,19,[(14,false),(13,false),(12,false),(5,false),(4,false)]⟩,[]⟩,⟨16,1,⟨[aa 68 13,aa 19 12,aa 9 7,aa 8 8,aa 7 9,bi 6 0 0,aa 5 2,(4,.p false [.nil]),aa 0 0,aa 1 1],[(0,.row 0 3 1 10)],1,1,14,[(12,false),(5,false),(4,false)]⟩,[]⟩,⟨13,1,⟨[aa 8 26,aa 7 25,aa 33 24,aa 28 20,al 10 1 1 0,aa 19 12,aa 9 7,bi 6 0 0,aa 5 2,(4,.p false [.nil]),aa 0 0,aa 1 1],[(0,.row 0 3 1 10),(1,.var 1 42 [.d 13,.d 14,.d 15])],2,2,27,[(24,false),(20,false),(12,true),(5,false),(4,false)]⟩,[]⟩,⟨12,1,⟨[aa 7 25,aa 33 24,aa 28 20,al 10 1 1 0,aa 19 12,aa 9 7,aa 8 8,bi 6 0 0,aa 5 2,(4,.p false [.nil]),aa 0 0,aa 1 1],[(0,.row 0 3 1 10),(1,.var 1 42 [.d 13,.d 14,.d 15])],2,2,26,[(24,false),(20,false),(12,true),(5,false),(4,false)]⟩,[]⟩,⟨2000001,9,⟨[bi 6 0 1,aa 59 13,aa 8 14,aa 7 15,aa 33 16,aa 28 17,al 10 1 0 0,aa 19 12,aa 9 7,aa 5 2,(4,.p false [.nil]),aa 0 0,aa 1 1],[(1,.var 0 42 [.d 18,.d 19,.d 20]),(0,.row 1 3 1 21)],2,2,22,[(12,true),(5,false),(4,false)]⟩,[]⟩,⟨3000005,4,⟨[aa 9 7,aa 8 8,aa 7 9,bi 6 0 0,aa 5 2,(4,.p false [.nil]),aa 0 0,aa 1 1],[(0,.row 0 3 1 10)],1,1,11,[(5,false),(4,false)]⟩,[]⟩]
def qU:List (Nat×Nat×Bool×List Nat):=[]
def io:UP:=.i 0<|.b .neq 7 0<|.ite 0 (.t<|.c 9<|.po (.mk 3 1 [[9]])<|.po (.flat 0)<|.po (.app 3 1 8 11 0)<|.jump 1 [2,5,6,7,8,11,10,9,0])<|.i 0<|.e 8 0<|.ite 0 (.c 10<|.po (.mk 3 1 [[10]])<|.po (.flat 0)<|.po (.app 3 1 8 12 0)<|.jump 1 [2,6,7,8,9,12,11,10,0])<|.jump 1 [0,4,5,6,7,10,9,8,11]
def iJ:UP:=.sel [0,1,5,6,7,8,9,11]<|.join 1 io<|.ite 7 (.t<|.t<|.jump 2 [0])<|.i 0<|.b .gtr 6 0<|.ite 0 (.t<|.jump 2 [0])<|.i 0<|.e 7 0<|.jump 2 [0]
def iL:UP:=.i 1<|.a 13 0<|.jump 0 [0,9,8,2]
def iu:UP:=.l 6<|.b .lss 2 0<|.ite 0 (.ite 2 (.z 3<|.po (.chk 1 8 3)<|.x 1 8 3<|.po (.un .neg 8)<|.b .neq 1 0<|.i 1<|.a 7 0<|.jump 3 [0,2])<|.f<|.i 1<|.a 5 0<|.jump 3 [0,2])<|.ite 2 (.c 7<|.po (.mk 3 1 [[7]])<|.po (.flat 0)<|.po (.app 3 1 8 7 0)<|.jump 2 [4,2,5,0])<|.jump 2 [2,0,3,6]
def ir:UP:=.i 1<|.a 6 0<|.jump 1 [0,2]
def ik:UP:=.b .leq 1 5<|.ite 0 (.sel [1,2,5]<|.join 4 ir<|.t<|.i 0<|.loop [0,1] iu)<|.s #[]<|.c 0<|.ret [(false,[2]),(false,[0])]
def iD:UP:=.ite 0 (.po (.mk 3 1 [])<|.s #[105,110,118,97,108,105,100,32,115,117,98,115,99,114,105,112,116]<|.c 0<|.ret [(false,[1]),(false,[0])])<|.n 2<|.ite 0 (.s #[]<|.c 0<|.ret [(false,[3]),(false,[0])])<|.po (.mk 3 1 [])<|.i 1<|.sel [0,1,4,7]<|.loop [0,1] ik
def iI:UP:=.l 9<|.b .lss 4 0<|.ite 0 (.sel [2,3,4,5,11]<|.join 9 iL<|.z 3<|.x 3 4 3<|.i 0<|.i 0<|.s #[]<|.i 1<|.b .gtr 5 0<|.ite 0 (.po (.mk 3 1 [])<|.s #[105,110,118,97,108,105,100,32,115,117,98,115,99,114,105,112,116]<|.c 0<|.ret [(false,[1]),(false,[0])])<|.i (-40)<|.i 40<|.sel [0,1,2,7,8,9,10,11,12]<|.cl 36 [(false,[5]),(false,[1]),(false,[0])] aD<|.n 0<|.ite 0 (.po (.mk 3 1 [])<|.s #[115,117,98,115,99,114,105,112,116,32,111,117,116,32,111,102,32,98,111,117,110,100,115]<|.c 0<|.ret [(false,[1]),(false,[0])])<|.join 1 iJ<|.ite 9 (.t<|.jump 2 [0])<|.i 0<|.b .lss 8 0<|.jump 2 [0])<|.sel [2,3,4,12]<|.join 1 iD<|.ite 1 (.jump 1 [2])<|.f<|.jump 1 [0]
def je:UP:=.s #[]<|.po (.mk 3 1 [])<|.f<|.f<|.i 0<|.loop [0,1,2,3] iI
theorem qd:aR Try.prog 37 Try.f37 cV qQ qU=some ([(false,1),(false,1)],je):=by kernel_rfl
def zx:ByteArray:=⟨#[105,110,118,97,108,105,100,32,115,117,98,115,99,114,105,112,116]⟩
def Rf:ByteArray:=⟨#[115,117,98,115,99,114,105,112,116,32,111,117,116,32,111,102,32,98,111,117,110,100,115]⟩
def eW:ByteArray:=⟨#[]⟩
def Af(x:It):Option ByteArray:=if 1<x.den then some zx else if -40<=x.num/\x.num<=40 then none else some Rf
def wo(x:It):Bool:=decide (x.num<0)
def Cz(x:It):Bool:=decide (0<x.num)||decide (x.den=0)
def rz(x:It):Option Int:=if x.num≠0\/x.den=0 then some x.num else none
def Ry(n:Nat)(its:List It):List Int:=((List.range n).map λj:Nat=>((j+1:Nat):Int)).filter λi=>!its.any λx=>decide (x.num= -i)
def oc(n:Nat)(its:List It):List Int×ByteArray:=match its.findSome? Af with
 |some m=>([],m)
 |none=>if its.any wo&&its.any Cz then([],zx)else if its.any wo then(Ry n its,eW)else(its.filterMap rz,eW)
section
variable {α β:Type}[Inhabited α]{l:List α}{i:Nat}
theorem xl{f:α->Option β}{m:β}:∀{l:List α} {i:Nat},(∀j,j<i->f (l.getD j default)=none)->i<l.length->f (l.getD i default)=some m->l.findSome? f=some m
 |[],_,_,h,_=>by simp at h
 |x::l,0,_,_,h=>by
  have h:f x=some m:=h
  rw[List.findSome?_cons,h]
 |x::l,i+1,h0,h1,h=>by
  have hx:f x=none:=h0 0 (by omega);rw[List.findSome?_cons,hx];exact xl (λj hj=>h0 (j+1) (by omega)) (by simpa using h1) h
theorem wS{f:α->Option β}(h:∀j,j<l.length->f (l.getD j default)=none):l.findSome? f=none:=by
 rw[List.findSome?_eq_none_iff];intro x hx;obtain⟨j,hj,rfl⟩:=List.mem_iff_getElem.1 hx;have:=h j hj
 rwa [List.getD_eq_getElem?_getD,List.getElem?_eq_getElem hj]at this
theorem yj{α β:Type}{f g:α->Option β}:∀{l:List α},(∀x∈l,f x=g x)->l.filterMap f=l.filterMap g
 |[],_=>rfl
 |x::l,h=>by rw[List.filterMap_cons,List.filterMap_cons,h x (List.mem_cons_self ..),yj λy hy=>h y (List.mem_cons_of_mem _ hy)]
theorem sD(p:α->Bool)(h:i<l.length):(l.take (i+1)).any p=((l.take i).any p||p (l.getD i default)):=by
 rw[bm h,List.any_append];simp
theorem FO(f:α->Option β)(h:i<l.length):(l.take (i+1)).filterMap f=(l.take i).filterMap f++(f (l.getD i default)).toList:=by
 rw[bm h,List.filterMap_append];congr 1
end
theorem R5(its:List It)(i:Nat):(!its.any λx=>decide (x.num= -(((i+1:Nat):Int))))=bP (λj=>!decide ((its.filterMap rz).getD j default= -(((i+1:Nat):Int)))) (its.filterMap rz).length:=by
 rw[Bool.eq_iff_iff,Bool.not_eq_true',List.any_eq_false,aV];constructor
 ·intro h j hj;have hm:=aG hj;generalize (its.filterMap rz).getD j default=y at hm ⊢;obtain⟨x,hx,hxa⟩:=List.mem_filterMap.1 hm;have:=h x hx;unfold rz at hxa;split at hxa
  ·injection hxa with hxa;rw[<-hxa];simpa using this
  ·cases hxa
 ·intro h x hx;rw[decide_eq_true_eq];intro e;have hm: -(((i+1:Nat):Int))∈its.filterMap rz:=List.mem_filterMap.2 ⟨x,hx,by unfold rz;rw[if_pos (.inl (by omega)),e]⟩;obtain⟨j,hj,hje⟩:=List.mem_iff_getElem.1 hm;have:=h j hj;rw[List.getD_eq_getElem?_getD,List.getElem?_eq_getElem hj]at this;simp[hje]at this
theorem PH(n:Nat)(its:List It)(m:Nat)(hit:∀x∈its,dd 2 m x=true)(hl:its.length<=40)(hn:n<=1000):
 aI Try.prog 37 [(false,[.sc (.int .i64 n)]),(false,[.sl 42 3 (its.map au)])] [(false,[bC (oc n its).1],true),(false,[.sc (.string (oc n its).2)],true)]:=by
 simp only[bC];refine ah Try.func37 qd rfl ?_;simp only[je];simp(disch:=first|omega|(simp only[aq];omega)|simp only[ap,Nat.reduceAdd]) only[go_sem,true_and];refine lp (λi:Nat=>[.sc (.int .i64 i),.sc (.bool ((its.take i).any Cz)),.sc (.bool ((its.take i).any wo)),.sl 3 1 (((its.take i).filterMap rz).map dD)]) (λi=>i<=its.length/\∀j,j<i->Af (its.getD j default)=none) (λi=>its.length-i) 0 rfl ⟨Nat.zero_le _,λj hj=>by omega⟩ ?_;rintro i ⟨hi,hok⟩;simp only[iI];by_cases hlt:i<its.length
 ·have hix:=cM (t:=42) (l:=its) (kd:=.i64) (z:=(i:Int)) (by omega) (by omega);rw[Int.toNat_natCast]at hix;have s1:=sD Cz hlt;have s2:=sD wo hlt;have s3:=FO rz hlt;have hen:Af (its.getD i default)=none->∀j,j<i+1->Af (its.getD j default)=none:=sB hok;have hes:∀m,Af (its.getD i default)=some m->oc n its=([],m):=λm hm=>by unfold oc;rw[xl hok hlt hm]
  have hv:=hit _ (aG hlt);generalize its.getD i default=x at hix s1 s2 s3 hen hes hv;have g1:=L8 x.num (-40) 40;have hL:((its.take i).filterMap rz).length<=40:=Nat.le_trans (List.length_filterMap_le _ _) (by simp;omega);unfold Af at hen hes;rw[show Cz x=(decide (0<x.num)||decide (x.den=0))from rfl]at s1;rw[show wo x=decide (x.num<0)from rfl]at s2;rw[show rz x=(if x.num≠0\/x.den=0 then some x.num else none)from rfl]at s3;generalize (its.take i).any Cz=b1 at s1;generalize (its.take i).any wo=b2 at s2;generalize (its.take i).filterMap rz=L at s3 hL
  have fin:∀c1 c2 M,(its.take (i+1)).any Cz=c1->(its.take (i+1)).any wo=c2->(its.take (i+1)).filterMap rz=M->(∀j,j<i+1->Af (its.getD j default)=none)->∃a':Nat,([.sc (.int .i64 ((i+1:Nat):Int)),.sc (.bool c1),.sc (.bool c2),.sl 3 1 (M.map dD)]:List DV)=[.sc (.int .i64 (a':Int)),.sc (.bool ((its.take a').any Cz)),.sc (.bool ((its.take a').any wo)),.sl 3 1 (((its.take a').filterMap rz).map dD)]/\(a'<=its.length/\∀j,j<a'->Af (its.getD j default)=none)/\its.length-a'<its.length-i:=
   λc1 c2 M e1 e2 e3 h=>⟨i+1,by rw[e1,e2,e3],⟨by omega,h⟩,by omega⟩
  rw[s1,s2,s3]at fin;simp only[au]at hix;by_cases hd:1<x.den
  ·rw[hes zx (if_pos hd)]
   repeat' (first|(with_reducible first|refine ac ?_|refine ab ‹_› rfl ?_|refine ai (λhbr=>?_) λhbr=>?_)|simp(disch:=first|omega|(simp only[aq];omega)|simp only[ap,Nat.reduceAdd]) only[go_sem,hix])
   all_goals first|omega|rfl
  by_cases hr: -40<=x.num/\x.num<=40
  ·rw[decide_eq_true hr]at g1;have hen:=hen (by rw[if_neg hd,if_pos hr]);cases b1<;>cases b2
   all_goals repeat' (first|(with_reducible first|refine ac ?_|refine ab ‹_› rfl ?_|refine ai (λhbr=>?_) λhbr=>?_)|simp(disch:=first|omega|(simp only[aq];omega)|simp only[ap,Nat.reduceAdd]) only[go_sem,hix,iL,iJ,io])
   all_goals first|omega|exact fin _ _ _ (by simp[*]) (by simp[*]) (by simp[*]) hen
  ·rw[decide_eq_false hr]at g1;rw[hes Rf (by rw[if_neg hd,if_neg hr])]
   repeat' (first|(with_reducible first|refine ac ?_|refine ab ‹_› rfl ?_|refine ai (λhbr=>?_) λhbr=>?_)|simp(disch:=first|omega|(simp only[aq];omega)|simp only[ap,Nat.reduceAdd]) only[go_sem,hix])
   all_goals first|omega|rfl
 ·obtain rfl:i=its.length:=by omega
  have hfs:=wS hok;have hnp:oc n its=if its.any wo&&its.any Cz then([],zx)else if its.any wo then(Ry n its,eW)else(its.filterMap rz,eW):=by unfold oc;rw[hfs]
  rw[List.take_length,hnp];have hrp:=R5 its;have hO:(its.filterMap rz).length<=40:=Nat.le_trans (List.length_filterMap_le _ _) hl
  have hOb:∀j,j<(its.filterMap rz).length->-40<=(its.filterMap rz).getD j default/\(its.filterMap rz).getD j default<=40:=λj hj=>by
   have hm:=aG hj;generalize (its.filterMap rz).getD j default=y at hm ⊢;obtain⟨x,hx,hxa⟩:=List.mem_filterMap.1 hm;obtain⟨q,hq,rfl⟩:=List.mem_iff_getElem.1 hx;have h1:=hok q hq;rw[List.getD_eq_getElem?_getD,List.getElem?_eq_getElem hq]at h1;simp only[Option.getD_some]at h1;unfold Af at h1;unfold rz at hxa;split at hxa
   ·injection hxa with hxa;split at h1
    ·cases h1
    ·split at h1
     ·rw[<-hxa];assumption
     ·cases h1
   ·cases hxa
  unfold Ry;generalize its.filterMap rz=O at *;generalize its.any Cz=b1 at *;generalize its.any wo=b2 at *;cases b1<;>cases b2
  all_goals simp only[Bool.and_self,Bool.and_true,Bool.and_false,Bool.false_and,Bool.true_and,if_true,Bool.false_eq_true,if_false]
  all_goals repeat' (first|(with_reducible first|refine ac ?_|refine ab ‹_› rfl ?_|refine ai (λhbr=>?_) λhbr=>?_)|simp(disch:=first|omega|(simp only[aq];omega)|simp only[ap,Nat.reduceAdd]) only[go_sem,iD])
  all_goals first|omega|rfl|skip
  refine lp (λi:Nat=>[.sc (.int .i64 ((i+1:Nat):Int)),.sl 3 1 ((((List.range i).map λj:Nat=>((j+1:Nat):Int)).filter λi=>!its.any λx=>decide (x.num= -i)).map dD)]) (λi=>i<=n) (λi=>n-i) 0 rfl (Nat.zero_le _) ?_;intro i hi;simp only[ik];by_cases hlt:i<n
  ·have hst:((List.range (i+1)).map λj:Nat=>((j+1:Nat):Int)).filter (λi=>!its.any λx=>decide (x.num= -i))=((List.range i).map λj:Nat=>((j+1:Nat):Int)).filter (λi=>!its.any λx=>decide (x.num= -i))++if bP (λj=>!decide (O.getD j default= -(((i+1:Nat):Int)))) O.length then[((i+1:Nat):Int)]else[]:=by
    rw[List.range_succ,List.map_append,List.filter_append,<-hrp i];simp[List.filter_cons]
   have hL:(((List.range i).map λj:Nat=>((j+1:Nat):Int)).filter λi=>!its.any λx=>decide (x.num= -i)).length<=1000:=Nat.le_trans (List.length_filter_le _ _) (by simp;omega);generalize ((List.range i).map λj:Nat=>((j+1:Nat):Int)).filter (λi=>!its.any λx=>decide (x.num= -i))=L at hst hL
   repeat' (first|(with_reducible first|refine ac ?_|refine ab ‹_› rfl ?_|refine ai (λhbr=>?_) λhbr=>?_)|simp(disch:=first|omega|(simp only[aq];omega)|simp only[ap,Nat.reduceAdd]) only[go_sem,true_and])
   all_goals first|omega|skip
   refine lp (λq:Nat=>[.sc (.int .i64 q),.sc (.bool (bP (λj=>!decide (O.getD j default= -(((i+1:Nat):Int)))) q))]) (λq=>q<=O.length) (λq=>O.length-q) 0 rfl (Nat.zero_le _) ?_;intro q hq;simp only[iu];by_cases hql:q<O.length
   ·have hz:=sC (t:=3) (l:=O) (kd:=.i64) (z:=(q:Int)) (by omega) (by omega);have hch:=aY (e:=dD) (k:=1) (t:=3) (l:=O) (kd:=.i64) (z:=(q:Int)) (by omega) (by omega);rw[Int.toNat_natCast]at hz;have hs:=iW (λj=>!decide (O.getD j default= -(((i+1:Nat):Int)))) q;have hyb:=hOb q hql;generalize O.getD q default=y at hz hs hyb;generalize bP (λj=>!decide (O.getD j default= -(((i+1:Nat):Int)))) q=b at hs;cases b
    all_goals repeat' (first|(with_reducible first|refine ac ?_|refine ab ‹_› rfl ?_|refine ai (λhbr=>?_) λhbr=>?_)|simp(disch:=first|omega|(simp only[aq];omega)|simp only[ap,Nat.reduceAdd]) only[go_sem,hz,hch])
    all_goals first|omega|exact⟨q+1,by simp only[hs,Bool.false_and,Bool.true_and,Int.zero_sub],by omega,by omega⟩
   ·obtain rfl:q=O.length:=by omega
    repeat' (first|(with_reducible first|refine ac ?_|refine ab ‹_› rfl ?_|refine ai (λhbr=>?_) λhbr=>?_)|simp(disch:=first|omega|(simp only[aq];omega)|simp only[ap,Nat.reduceAdd]) only[go_sem,ir])
    all_goals first|omega|exact⟨i+1,by rw[hst,if_pos ‹_›],by omega,by omega⟩|exact⟨i+1,by rw[hst,‹bP _ O.length=false›,if_neg (by decide),List.append_nil],by omega,by omega⟩
  ·obtain rfl:i=n:=by omega
   repeat' (first|(with_reducible first|refine ac ?_|refine ab ‹_› rfl ?_|refine ai (λhbr=>?_) λhbr=>?_)|simp(disch:=first|omega|(simp only[aq];omega)|simp only[ap,Nat.reduceAdd]) only[go_sem,true_and])
   all_goals first|omega|rfl
def iH(b:Bool):List DV:=[.sc (.bool b)]
def M8(x:It):Option Int:=if 0<x.num\/x.den=0 then some x.num else none
def L3(l:List It)(j:Nat):Bool:=l.any λx=>decide (x.num= -(j:Int))&&decide (x.num<0)
def Bs(n:Nat)(l:List It):List Bool:=(List.range (n+1)).map (L3 l)
theorem wQ{n:Nat}{l:List It}:(Bs n l).length=n+1:=by simp[Bs]
theorem P1{n:Nat}{l:List It}{j:Nat}(h:j<=n):(Bs n l).getD j default=L3 l j:=by simp[Bs,List.getElem?_map,List.getElem?_range (show j<n+1 by omega)]
theorem Mn{n:Nat}:Bs n []=List.replicate (n+1) false:=by
 rw[List.eq_replicate_iff];exact⟨wQ,λb hb=>by unfold Bs at hb;obtain⟨j,-,rfl⟩:=List.mem_map.1 hb;rfl⟩
theorem JA{n:Nat}{l:List It}{x:It}(h:¬(x.num<0/\-x.num<=n)):Bs n (l++[x])=Bs n l:=by
 unfold Bs;refine List.map_congr_left λj hj=>?_
 have hj:=List.mem_range.1 hj
 have:(decide (x.num= -(j:Int))&&decide (x.num<0))=false:=by
  rw[Bool.and_eq_false_iff,decide_eq_false_iff_not,decide_eq_false_iff_not];omega
 simp[L3,List.any_append,this]
theorem Mu{n:Nat}{l:List It}{x:It}(h:x.num<0/\-x.num<=n):Bs n (l++[x])=(Bs n l).set (-x.num).toNat true:=by
 apply List.ext_getElem?;intro j;rw[List.getElem?_set]
 have e1:∀l:List It,(Bs n l)[j]? =if j<n+1 then some (L3 l j)else none:=λl=>by
  unfold Bs;rw[List.getElem?_map];split
  ·rename_i h;rw[List.getElem?_range h];rfl
  ·rename_i h;rw[List.getElem?_eq_none (by simpa using h)];rfl
 rw[e1,e1,wQ];by_cases hj:j<n+1
 ·rw[if_pos hj,if_pos hj];split
  ·rename_i e;rw[if_pos (by omega)];have:(decide (x.num= -(j:Int))&&decide (x.num<0))=true:=by rw[Bool.and_eq_true,decide_eq_true_eq,decide_eq_true_eq];omega
   simp[L3,List.any_append,this]
  ·rename_i e;have:(decide (x.num= -(j:Int))&&decide (x.num<0))=false:=by rw[Bool.and_eq_false_iff,decide_eq_false_iff_not,decide_eq_false_iff_not];omega
   simp[L3,List.any_append,this]
 ·rw[if_neg hj,if_neg hj];split<;>first|rfl|omega
theorem Qq(n:Nat)(its:List It)(m:Nat)(hit:∀x∈its,dd 2 m x=true)(hl:its.length<=40)(hn:n<=1000):
 aI Try.prog 71 [(false,[.sc (.int .i64 n)]),(false,[.sl 42 3 (its.map au)])] [(false,[bC (oc n its).1],true),(false,[.sc (.string (oc n its).2)],true)]:=by
 simp only[bC];refine ah Try.func71 kS rfl ?_;simp only[eP];simp(disch:=first|omega|(simp only[aq];omega)|simp only[ap,Nat.reduceAdd]) only[go_sem,true_and];refine lp (λi:Nat=>[.sc (.int .i64 i),.sc (.bool ((its.take i).any Cz)),.sc (.bool ((its.take i).any wo)),.sl 4 1 ((Bs n (its.take i)).map iH),.sl 3 1 (((its.take i).filterMap M8).map dD)]) (λi=>i<=its.length/\∀j,j<i->Af (its.getD j default)=none) (λi=>its.length-i) 0 (by simp only[List.take_zero,Mn,List.map_replicate];rfl) ⟨Nat.zero_le _,λj hj=>by omega⟩ ?_;rintro i ⟨hi,hok⟩;simp only[et];by_cases hlt:i<its.length
 ·have hix:=cM (t:=42) (l:=its) (kd:=.i64) (z:=(i:Int)) (by omega) (by omega);rw[Int.toNat_natCast]at hix;have s1:=sD Cz hlt;have s2:=sD wo hlt;have s3:=FO M8 hlt;have d1:=λh=>JA (n:=n) (l:=its.take i) (x:=its.getD i default) h
  have d2:=λh=>Mu (n:=n) (l:=its.take i) (x:=its.getD i default) h
  rw[<-bm hlt]at d1 d2;have hen:Af (its.getD i default)=none->∀j,j<i+1->Af (its.getD j default)=none:=sB hok;have hes:∀m,Af (its.getD i default)=some m->oc n its=([],m):=λm hm=>by unfold oc;rw[xl hok hlt hm]
  have hv:=hit _ (aG hlt);have g1:=ke (its.getD i default);generalize its.getD i default=x at hix s1 s2 s3 hen hes hv g1 d1 d2;have hL:((its.take i).filterMap M8).length<=40:=Nat.le_trans (List.length_filterMap_le _ _) (by simp;omega);have hD:(Bs n (its.take i)).length=n+1:=wQ;unfold Af at hen hes;rw[show Cz x=(decide (0<x.num)||decide (x.den=0))from rfl]at s1;rw[show wo x=decide (x.num<0)from rfl]at s2;rw[show M8 x=(if 0<x.num\/x.den=0 then some x.num else none)from rfl]at s3;generalize (its.take i).any Cz=b1 at s1;generalize (its.take i).any wo=b2 at s2;generalize (its.take i).filterMap M8=L at s3 hL;generalize Bs n (its.take i)=D at d1 d2 hD
  have fin:∀c1 c2 K M,(its.take (i+1)).any Cz=c1->(its.take (i+1)).any wo=c2->Bs n (its.take (i+1))=K->(its.take (i+1)).filterMap M8=M->(∀j,j<i+1->Af (its.getD j default)=none)->∃a':Nat,([.sc (.int .i64 ((i+1:Nat):Int)),.sc (.bool c1),.sc (.bool c2),.sl 4 1 (K.map iH),.sl 3 1 (M.map dD)]:List DV)=[.sc (.int .i64 (a':Int)),.sc (.bool ((its.take a').any Cz)),.sc (.bool ((its.take a').any wo)),.sl 4 1 ((Bs n (its.take a')).map iH),.sl 3 1 (((its.take a').filterMap M8).map dD)]/\(a'<=its.length/\∀j,j<a'->Af (its.getD j default)=none)/\its.length-a'<its.length-i:=
   λc1 c2 K M e1 e2 e3 e4 h=>⟨i+1,by rw[e1,e2,e3,e4],⟨by omega,h⟩,by omega⟩
  rw[s1,s2,s3]at fin;by_cases h0:x=bA
  ·rw[decide_eq_true h0]at g1;subst h0;have d1:=d1 (λh=>absurd h.1 (by decide));have hen:=hen (by decide);have hix:d6 3 (some (.sl 42 3 (its.map au))) (some (.sc (.int .i64 (i:Int))))=some [.sc (.int .i64 0),.sc (.int .i64 0),.sc (.string ByteArray.empty)]:=hix;have g1:aI Try.prog 55 [(true,[.sc (.int .i64 0),.sc (.int .i64 0),.sc (.string ByteArray.empty)])] [(false,[.sc (.bool true)],true)]:=g1
   repeat' (first|(with_reducible first|refine ac ?_|refine ab ‹_› rfl ?_|refine ai (λhbr=>?_) λhbr=>?_)|simp(disch:=first|omega|(simp only[aq];omega)|simp only[ap,Nat.reduceAdd]) only[go_sem,hix,cg])
   all_goals first|omega|exact fin _ _ _ _ (by cases b1<;>rfl) (by cases b2<;>rfl) d1 rfl hen
  ·rw[decide_eq_false h0]at g1;simp only[au]at hix g1
   have hd1:1<=x.den:=by
    unfold dd at hv;simp only[Bool.and_eq_true]at hv;have h1:=hv.1;unfold ry at h1;simp only[Bool.or_eq_true,decide_eq_true_eq]at h1;have h2:cI x=true:=by simpa[h0]using h1
    exact(wR h2).1
   by_cases hd:1<x.den
   ·rw[hes zx (if_pos hd)]
    repeat' (first|(with_reducible first|refine ac ?_|refine ab ‹_› rfl ?_|refine ai (λhbr=>?_) λhbr=>?_)|simp(disch:=first|omega|(simp only[aq];omega)|simp only[ap,Nat.reduceAdd]) only[go_sem,hix])
    all_goals first|omega|rfl
   by_cases hr: -40<=x.num/\x.num<=40
   ·have hen:=hen (by rw[if_neg hd,if_pos hr]);have hst:=λ(h:x.num<0/\-x.num<=n)=>gl (e:=iH) (k:=1) (t:=4) (l:=D) (kd:=.i64) (z:=-x.num) (ds:=[.sc (.bool true)]) (λ_=>rfl) (by omega) (by omega) rfl
    have hch:=λ(h:x.num<0/\-x.num<=n)=>aY (e:=iH) (k:=1) (t:=4) (l:=D) (kd:=.i64) (z:=-x.num) (by omega) (by omega)
    by_cases hs:x.num<0/\-x.num<=n
    ·have hst:=hst hs;have hch:=hch hs;have d2:=d2 hs;rw[show([.sc (.bool true)]:List DV)=iH true from rfl,<-List.map_set,<-d2]at hst;simp only[iH]at hst hch
     repeat' (first|(with_reducible first|refine ac ?_|refine ab ‹_› rfl ?_|refine ai (λhbr=>?_) λhbr=>?_)|simp(disch:=first|omega|(simp only[aq];omega)|simp only[ap,Nat.reduceAdd]) only[go_sem,hix,hst,hch,Int.zero_sub,cg])
     all_goals first|omega|exact fin _ _ _ _ (by first|(simp[*];done)|(simp[*];omega)) (by first|(simp[*];done)|(simp[*];omega)) rfl (by first|(simp[*];done)|(simp[*];omega)) hen|skip
     all_goals (trace_state;sorry)
    ·have d1:=d1 hs
     repeat' (first|(with_reducible first|refine ac ?_|refine ab ‹_› rfl ?_|refine ai (λhbr=>?_) λhbr=>?_)|simp(disch:=first|omega|(simp only[aq];omega)|simp only[ap,Nat.reduceAdd]) only[go_sem,hix,cg])
     all_goals first|omega|exact fin _ _ _ _ (by first|(simp[*];done)|(simp[*];omega)) (by first|(simp[*];done)|(simp[*];omega)) d1 (by first|(simp[*];done)|(simp[*];omega)) hen
   ·rw[hes Rf (by rw[if_neg hd,if_neg hr])]
    repeat' (first|(with_reducible first|refine ac ?_|refine ab ‹_› rfl ?_|refine ai (λhbr=>?_) λhbr=>?_)|simp(disch:=first|omega|(simp only[aq];omega)|simp only[ap,Nat.reduceAdd]) only[go_sem,hix])
    all_goals first|omega|rfl
 ·obtain rfl:i=its.length:=by omega
  have hfs:=wS hok;have hnp:oc n its=if its.any wo&&its.any Cz then([],zx)else if its.any wo then(Ry n its,eW)else(its.filterMap rz,eW):=by unfold oc;rw[hfs]
  have hpo:its.any wo=false->its.filterMap M8=its.filterMap rz:=λh=>by
   rw[List.any_eq_false]at h;refine yj λx hx=>?_
   have:=h x hx;unfold wo at this;unfold M8 rz;have e:(0<x.num\/x.den=0)=(x.num≠0\/x.den=0):=propext (by simp only[decide_eq_true_eq]at this;omega);simp only[e]
  have hnr:Ry n its=((List.range n).map λj:Nat=>((j+1:Nat):Int)).filter λi=>!L3 its i.toNat:=by
   unfold Ry;apply List.filter_congr;intro i hi;obtain⟨j,-,rfl⟩:=List.mem_map.1 hi;unfold L3;congr 2;funext x;rw[Int.toNat_natCast,Bool.eq_iff_iff,Bool.and_eq_true,decide_eq_true_eq,decide_eq_true_eq];omega
  rw[List.take_length,hnp,hnr];have hdl:=wQ (n:=n) (l:=its);have hdt:=λj h=>P1 (n:=n) (l:=its) (j:=j) h
  generalize L3 its=dr at *;generalize Bs n its=D at *;generalize its.any Cz=b1 at *;generalize its.any wo=b2 at *;cases b1<;>cases b2
  all_goals simp only[Bool.and_self,Bool.and_true,Bool.and_false,Bool.false_and,Bool.true_and,if_true,Bool.false_eq_true,if_false]
  all_goals (try rw[hpo rfl])
  all_goals repeat' (first|(with_reducible first|refine ac ?_|refine ab ‹_› rfl ?_|refine ai (λhbr=>?_) λhbr=>?_)|simp(disch:=first|omega|(simp only[aq];omega)|simp only[ap,Nat.reduceAdd]) only[go_sem,true_and])
  all_goals first|omega|rfl|skip
  refine lp (λi:Nat=>[.sc (.int .i64 ((i+1:Nat):Int)),.sl 3 1 ((((List.range i).map λj:Nat=>((j+1:Nat):Int)).filter λi=>!dr i.toNat).map dD)]) (λi=>i<=n) (λi=>n-i) 0 rfl (Nat.zero_le _) ?_;intro i hi;simp only[eA];by_cases hlt:i<n
  ·have hst:((List.range (i+1)).map λj:Nat=>((j+1:Nat):Int)).filter (λi=>!dr i.toNat)=((List.range i).map λj:Nat=>((j+1:Nat):Int)).filter (λi=>!dr i.toNat)++if dr (i+1)=true then[]else[((i+1:Nat):Int)]:=by
    have q:[((i+1:Nat):Int)].filter (λi=>!dr i.toNat)=if dr (i+1)=true then[]else[((i+1:Nat):Int)]:=by
     rw[List.filter_cons,List.filter_nil,Int.toNat_natCast];cases dr (i+1)<;>rfl
    rw[List.range_succ,List.map_append,List.filter_append];congr 1
   have hL:(((List.range i).map λj:Nat=>((j+1:Nat):Int)).filter λi=>!dr i.toNat).length<=1000:=Nat.le_trans (List.length_filter_le _ _) (by simp;omega);generalize ((List.range i).map λj:Nat=>((j+1:Nat):Int)).filter (λi=>!dr i.toNat)=L at hst hL
   have hix:d6 1 (some (.sl 4 1 (D.map iH))) (some (.sc (.int .i64 ((i+1:Nat):Int))))=some [.sc (.bool (dr (i+1)))]:=by
    rw[fc (e:=iH) (k:=1) (λ_=>rfl) (by omega) (by omega),Int.toNat_natCast,hdt _ (by omega)];rfl
   have hch:=aY (e:=iH) (k:=1) (t:=4) (l:=D) (kd:=.i64) (z:=((i+1:Nat):Int)) (by omega) (by omega);generalize dr (i+1)=b at hst hix;cases b
   all_goals repeat' (first|(with_reducible first|refine ac ?_|refine ab ‹_› rfl ?_|refine ai (λhbr=>?_) λhbr=>?_)|simp(disch:=first|omega|(simp only[aq];omega)|simp only[ap,Nat.reduceAdd]) only[go_sem,hix,hch,ez])
   all_goals first|omega|exact⟨i+1,by rw[hst];simp,by omega,by omega⟩|skip
   all_goals (trace_state;sorry)
  ·obtain rfl:i=n:=by omega
   repeat' (first|(with_reducible first|refine ac ?_|refine ab ‹_› rfl ?_|refine ai (λhbr=>?_) λhbr=>?_)|simp(disch:=first|omega|(simp only[aq];omega)|simp only[ap,Nat.reduceAdd]) only[go_sem,true_and])
   all_goals first|omega|rfl
end Go.Proofs.Ytgdbmcoamemmaaa
namespace Go.Proofs.Ytgdbmcoamemmaaa
open Go.RowKit
set_option maxRecDepth 100000
def sg:List aP:=[⟨2000001,7,⟨[aa 25 26,aa 8 27,aa 19 28,al 7 5 4 0,aa 14 25,aa 13 23,aa 12 20,bi 11 3 3,al 5 2 2 0,al 4 1 1 0,al 2 0 0 0,(0,.p true [.d 0,.d 1,.d 2,.d 3,.d 4,.d 5,.d 6,.d 7]),aa 1 8],[(0,.var 0 28 [.d 0,.d 1,.d 2,.d 3,.d 4,.d 5,.d 6,.d 7]),(1,.var 1 28 [.d 9,.nil,.nil,.nil,.nil,.nil,.d 10,.d 11]),(2,.var 2 28 [.d 15,.own 4 5,.nil,.nil,.nil,.nil,.d 13,.d 14]),(4,.row 5 42 3 29),(3,.row 3 42 3 19),(5,.var 4 42 [.d 30,.d 31,.d 32])],6,6,33,[(25,true)]⟩,[]⟩,⟨1000007,1,⟨[aa 8 35,aa 19 34,al 7 5 5 0,aa 14 25,aa 13 23,aa 12 20,bi 11 3 3,al 5 2 2 0,al 4 1 1 0,al 2 0 0 0,(0,.p true [.d 0,.d 1,.d 2,.d 3,.d 4,.d 5,.d 6,.d 7]),aa 1 8],[(0,.var 0 28 [.d 0,.d 1,.d 2,.d 3,.d 4,.d 5,.d 6,.d 7]),(1,.var 1 28 [.d 9,.nil,.nil,.nil,.nil,.nil,.d 10,.d 11]),(2,.var 2 28 [.d 15,.own 4 4,.nil,.nil,.nil,.nil,.d 13,.d 14]),(4,.row 4 42 3 24),(3,.row 3 42 3 19),(5,.var 5 42 [.d 26,.d 27,.d 28])],6,6,36,[(25,true)]⟩,[]⟩,⟨3000003,2,⟨[aa 13 23,aa 12 20,bi 11 3 3,al 5 2 2 0,al 4 1 1 0,al 2 0 0 0,(0,.p true [.d 0,.d 1,.d 2,.d 3,.d 4,.d 5,.d 6,.d 7]),aa 1 8],[(0,.var 0 28 [.d 0,.d 1,.d 2,.d 3,.d 4,.d 5,.d 6,.d 7]),(1,.var 1 28 [.d 9,.nil,.nil,.nil,.nil,.nil,.d 10,.d 11]),(2,.var 2 28 [.d 15,.own 4 4,.nil,.nil,.nil,.nil,.d 13,.d 14]),(4,.row 4 42 3 24),(3,.row 3 42 3 19)],5,5,25,[]⟩,[⟨false,2,1,42,3⟩]⟩]
def rM:List (Nat×Nat×Bool×List Nat):=[(10,6,false,[])]
def dA:UP:=.i 0<|.b .lss 1 0<|.ite 0 (.i 0<|.i 0<|.s #[]<|.c 2<|.c 1<|.c 0<|.po (.mk 42 3 [[2,1,0]])<|.po (.flat 0)<|.po (.app 42 3 32 13 0)<|.jump 1 [5,7,8,0,13,12,11])<|.i 1<|.a 3 0<|.c 0<|.sel [0,2,4,5,8,9,10,11]<|.cl 57 [(false,[0])] eO<|.po (.mk 42 3 [[2,1,0]])<|.c 3<|.c 2<|.c 1<|.po (.mk 42 3 [[3,2,1]])<|.po (.flat 0)<|.po (.app 42 3 32 12 0)<|.jump 1 [7,8,9,0,12,11,10]
def du:UP:=.i 1<|.a 9 0<|.jump 0 [0,5]
def jJ:UP:=.b .lss 1 4<|.ite 0 (.sel [1,2,6,10]<|.join 7 du<|.z 1<|.po (.chk 3 2 1)<|.x 3 2 1<|.i 0<|.i 0<|.s #[]<|.i (-1)<|.sel [0,4,5,6,7,10]<|.cl 55 [(true,[3,2,1])] aD<|.n 0<|.join 1 dA<|.ite 0 (.sel [3,7]<|.cl 56 [(false,[1]),(false,[0])] aD<|.jump 2 [0])<|.jump 2 [2])<|.c 7<|.po (.e 28 8)<|.po (.e 9 1)<|.po (.e 9 1)<|.po (.e 9 1)<|.c 13<|.c 12<|.ret [(true,[11,5,3,2,1,0,13,12])]
def kL:UP:=.i 0<|.i 0<|.i 0<|.i 0<|.i 0<|.i 0<|.i 2<|.i 0<|.i 0<|.i 0<|.sel [3,4,5,10,11,12,13,14,15,16,17,18]<|.cl 54 [(true,[11,10,9,8,7,6,5,4])] [(false,[some (42,3)],true)]<|.l 0<|.i 0<|.po (.e 42 3)<|.sel [0,1,2,3,4,5,6,7]<|.loop [1,0] jJ
theorem sy:aR Try.prog 20 Try.f20 cV sg rM=some ([(true,8),(false,1)],kL):=by kernel_rfl
def ux:List aP:=[]
def uh:List (Nat×Nat×Bool×List Nat):=[]
def lA:UP:=.cl 22 [(true,[7,6,5,4,3,2,1,0])] cb<|.i 3<|.sel [0,1,2,3,4,5,6,7,8]<|.cl 60 [(true,[8,7,6,5,4,3,2,1]),(false,[0])] fX<|.i 0<|.i 0<|.i 0<|.r 10
theorem vi:aR Try.prog 54 Try.f54 cV ux uh=some ([(true,8)],lA):=by kernel_rfl
def sR:List aP:=[⟨2000001,3,⟨[aa 40 36,aa 8 37,aa 16 35,aa 7 32,al 6 8 8 0,al 5 2 2 0,al 4 1 1 0,al 2 0 0 0,(0,.p true [.d 0,.d 1,.d 2,.d 3,.d 4,.d 5,.d 6,.d 7]),aa 1 8],[(0,.var 0 28 [.d 0,.d 1,.d 2,.d 3,.d 4,.d 5,.d 6,.d 7]),(1,.var 1 28 [.d 9,.nil,.nil,.nil,.nil,.nil,.d 10,.d 11]),(2,.var 2 28 [.d 15,.own 9 9,.nil,.nil,.nil,.nil,.d 13,.d 14]),(9,.row 9 42 3 38),(8,.var 8 28 [.d 19,.own 3 3,.own 4 4,.own 5 5,.own 6 6,.own 7 7,.d 25,.d 26]),(7,.row 7 9 1 24),(6,.row 6 9 1 23),(5,.row 5 9 1 22),(4,.row 4 28 8 21),(3,.row 3 42 3 20)],10,10,39,[(35,true)]⟩,[]⟩,⟨3000004,2,⟨[aa 7 32,al 6 8 8 0,al 5 2 2 0,al 4 1 1 0,al 2 0 0 0,(0,.p true [.d 0,.d 1,.d 2,.d 3,.d 4,.d 5,.d 6,.d 7]),aa 1 8],[(0,.var 0 28 [.d 0,.d 1,.d 2,.d 3,.d 4,.d 5,.d 6,.d 7]),(1,.var 1 28 [.d 9,.nil,.nil,.nil,.nil,.nil,.d 10,.d 11]),(2,.var 2 28 [.d 15,.own 9 9,.nil,.nil,.nil,.nil,.d 13,.d 14]),(9,.row 9 42 3 33),(8,.var 8 28 [.d 19,.own 3 3,.own 4 4,.own 5 5,.own 6 6,.own 7 7,.d 25,.d 26]),(7,.row 7 9 1 24),(6,.row 6 9 1 23),(5,.row 5 9 1 22),(4,.row 4 28 8 21),(3,.row 3 42 3 20)],10,10,34,[]⟩,[⟨false,2,1,42,3⟩]⟩]
def tq:List (Nat×Nat×Bool×List Nat):=[(9,6,false,[]),(6,12,false,[])]
def dH:UP:=.i 1<|.a 5 0<|.jump 0 [0,2]
def jk:UP:=.l 4<|.b .lss 2 0<|.ite 0 (.sel [2,3,6,7,11]<|.join 3 dH<|.c 3<|.z 1<|.po (.chk 3 2 1)<|.x 3 2 1<|.c 2<|.c 1<|.c 0<|.i 3<|.cl 64 [(false,[7]),(false,[0]),(true,[3,2,1])] eO<|.c 0<|.sel [0,7,8,9,11]<|.cl 38 [(false,[4]),(false,[0])] aD<|.c 0<|.z 3<|.po (.chk 3 4 3)<|.x 3 4 3<|.i 0<|.e 2 0<|.ite 0 (.t<|.i 0<|.i 0<|.s #[]<|.c 2<|.c 1<|.c 0<|.po (.mk 42 3 [[2,1,0]])<|.po (.flat 0)<|.po (.app 42 3 32 12 0)<|.jump 1 [5,11,0])<|.i 0<|.b .lss 6 0<|.ite 0 (.i 0<|.i 0<|.s #[]<|.c 2<|.c 1<|.c 0<|.po (.mk 42 3 [[2,1,0]])<|.po (.flat 0)<|.po (.app 42 3 32 13 0)<|.jump 1 [5,12,0])<|.i 1<|.a 8 0<|.c 0<|.sel [0,2,9,11]<|.cl 65 [(false,[0])] eO<|.po (.mk 42 3 [[2,1,0]])<|.c 3<|.c 2<|.c 1<|.po (.mk 42 3 [[3,2,1]])<|.po (.flat 0)<|.po (.app 42 3 32 8 0)<|.jump 1 [7,8,0])<|.c 8<|.po (.e 28 8)<|.po (.e 9 1)<|.po (.e 9 1)<|.po (.e 9 1)<|.c 14<|.c 13<|.ret [(true,[12,6,3,2,1,0,14,13])]
def j8:UP:=.i 0<|.i 0<|.i 0<|.i 0<|.i 0<|.i 0<|.i 2<|.i 0<|.i 0<|.i 0<|.sel [3,4,5,10,11,12,13,14,15,16,17,18]<|.cl 30 [(true,[11,10,9,8,7,6,5,4])] cb<|.i 0<|.i 0<|.i 0<|.i 0<|.po (.e 42 3)<|.sel [0,1,11,12,13,14,15,16]<|.loop [1,0] jk
theorem tU:aR Try.prog 29 Try.f29 cV sR tq=some ([(true,8),(false,1)],j8):=by kernel_rfl
theorem dN{l:List ByteArray}{m:Int}(h:iR l m=true){x:ByteArray}(hx:x∈l):x.size<=60:=by
 unfold iR at h;simp only[Bool.and_eq_true]at h;obtain⟨j,hj,rfl⟩:=List.mem_iff_getElem.1 hx;have:=aV.1 h.2 j hj;unfold lQ at this;simp only[Bool.and_eq_true,decide_eq_true_eq]at this;have h2:=this.2.1;rw[List.getD_eq_getElem?_getD,List.getElem?_eq_getElem hj]at h2;exact Int.ofNat_le.1 h2
theorem AP:GM []=true:=rfl
theorem dR{m:Int}(h:0<=m):iR [] m=true:=by unfold iR;simp[h,zT]
theorem Pq{k:Int}{its:List It}{ns cl lv:List ByteArray}{c e:Int}(h:VF k its [] ns cl lv c e)(hk:k<=3):VF (wl k lv) (Cm lv its) [] [] [] [] 0 0:=by
 have h0:=h.k0;have hlen:(Cm lv its).length=its.length:=by unfold Cm;split<;>simp
 have hkr:0<=wl k lv/\wl k lv<=3:=by unfold wl;split<;>omega
 refine⟨by omega,by omega,λhh=>?_,λ_=>rfl,by rw[hlen];exact h.il,by simp,.inl rfl,λ_=>rfl,AP,λ_=>rfl,dR (by decide),dR (by decide),λ_=>⟨rfl,rfl⟩,λx hx=>?_,by simp,λ_=>rfl⟩
 ·have:wl k lv=0:=by omega
  unfold wl at this;split at this
  ·rename_i hl;rw[hl];exact h.i0 (.inl this)
  ·omega
 ·unfold wl Cm at *;by_cases hl:lv=[]
  ·rw[if_pos hl]at hx ⊢;have:=h.it x hx;rw[hl]at this;exact this
  ·rw[if_neg hl]at hx ⊢;obtain⟨y,hy,rfl⟩:=List.mem_map.1 hx;have h1:=h.it y hy;unfold ww;split
   ·rename_i e;rw[e];decide
   ·rename_i hy0;have h2:=Bj h1 (λe=>hl (List.eq_nil_of_length_eq_zero e)) hy0;have h3:=dN h.lb (aG (l:=lv) (i:=(y.num-1).toNat) (by omega));generalize lv.getD (y.num-1).toNat default=s at h3;unfold dd ry vr;simp;right;exact Int.ofNat_le.2 h3
theorem fD{k:Int}{m:Nat}{x:It}(h:dd k m x=true):x.text.size<=60:=by
 unfold dd ry cI at h;simp only[Bool.and_eq_true,Bool.or_eq_true,decide_eq_true_eq]at h;rcases h.1 with h1|h1
 ·rw[h1];decide
 ·split at h1
  ·simp only[Bool.and_eq_true,decide_eq_true_eq]at h1;rw[h1.2.2];decide
  ·split at h1
   ·simp only[Bool.and_eq_true,decide_eq_true_eq]at h1;rw[h1.1];decide
   ·simp only[Bool.and_eq_true,decide_eq_true_eq]at h1;omega
theorem pW{k:Int}{its:List It}(h:∀x∈its,x.text.size<=100)(hl:its.length<=100):ck (fV k its)<=20000:=by
 have:=fG yE 100 its h;unfold fV;rw[eV];have e1:qe []=0:=rfl;have e2:bg ck []=0:=rfl;have e3:its.length*100<=100*100:=Nat.mul_le_mul_right _ hl;unfold iT;rw[e1,e2];simp only[List.length_nil];omega
def wF(k:Int)(lv:List ByteArray)(its:List It):List It:=(Cm lv its).map (cvI (wl k lv) 3)
theorem P6{k:Int}{its:List It}{ns cl lv:List ByteArray}{c e:Int}(h:VF k its [] ns cl lv c e)(hw:ck (.mk k its [] ns cl lv c e)<=1000000000)(hk:k<=3):
 aI Try.prog 54 [(true,aj (.mk k its [] ns cl lv c e))] [(false,[.sl 42 3 ((wF k lv its).map au)],true)]:=by
 have h2:=Pq h hk;have g1:=NO h hw (by omega);have g2:=Jk h2 (Nat.le_trans (pW (λx hx=>Nat.le_trans (fD (h2.it x hx)) (by decide)) (by have:=h2.il;omega)) (by decide)) (m:=3) (.inl (by unfold wl;split<;>omega)) (by decide) (λe=>by unfold wl at e;split at e<;>omega);unfold wF;simp only[nv,if_neg (show¬(3:Int)=4 by decide)]at g2;simp only[aj,af,av,eF,List.map_nil]at g1 g2 ⊢;refine ah Try.func54 vi rfl ?_;simp only[lA]
 repeat' (first|(with_reducible first|refine ac ?_|refine ab ‹_› rfl ?_|refine ai (λhbr=>?_) λhbr=>?_)|simp(disch:=first|omega|(simp only[aq];omega)|simp only[ap,Nat.reduceAdd]) only[go_sem,true_and])
 all_goals rfl
def uo(L:List ByteArray)(y:It):It:=if y=bA\/bV L y.text<0 then bA else Dp (bV L y.text+1)
theorem Ta{k:Int}{its:List It}{ns cl lv:List ByteArray}{c e:Int}(h:VF k its [] ns cl lv c e)(hw:ck (.mk k its [] ns cl lv c e)<=1000000000)(hk:k<=3)(L:List ByteArray)(hL:L.length<=1000000):
 aI Try.prog 20 [(true,aj (.mk k its [] ns cl lv c e)),(false,[av L])] [(true,eF 2 ((wF k lv its).map (uo L)),true)]:=by
 have g1:=P6 h hw hk;have hl:(wF k lv its).length<=40:=by have:=h.il;unfold wF Cm;split<;>simpa
 generalize wF k lv its=S at g1 hl ⊢;simp only[aj,af,av,eF,List.map_nil]at g1 ⊢;refine ah Try.func20 sy rfl ?_;simp only[kL]
 repeat' (first|(with_reducible first|refine ac ?_|refine ab ‹_› rfl ?_|refine ai (λhbr=>?_) λhbr=>?_)|simp(disch:=first|omega|(simp only[aq];omega)|simp only[ap,Nat.reduceAdd]) only[go_sem,true_and])
 all_goals first|omega|skip
 refine lp (λi:Nat=>[.sc (.int .i64 i),.sl 42 3 (((S.take i).map (uo L)).map au)]) (λi=>i<=S.length) (λi=>S.length-i) 0 rfl (Nat.zero_le _) ?_;intro i hi;simp only[jJ];by_cases hlt:i<S.length
 ·have hix:=cM (t:=42) (l:=S) (kd:=.i64) (z:=(i:Int)) (by omega) (by omega);have hch:=aY (e:=au) (k:=3) (t:=42) (l:=S) (kd:=.i64) (z:=(i:Int)) (by omega) (by omega);rw[Int.toNat_natCast]at hix;have hM:(S.take i).map (uo L)++[uo L (S.getD i default)]=(S.take (i+1)).map (uo L):=by rw[bm hlt,List.map_append];rfl
  generalize S.getD i default=x at hix hM;have q1:=ke x;have q2:=kj 9 L x.text (by omega);have q3:=HW (bV L x.text+1);have hf:=en L x.text;rw[F7 (by omega)]at q3;have hM:=congrArg (List.map au) hM;rw[List.map_append]at hM;unfold uo at hM;by_cases h0:x=bA
  ·rw[if_pos (.inl h0)]at hM;have hM:((S.take i).map (uo L)).map au++[[.sc (.int .i64 0),.sc (.int .i64 0),.sc (.string ⟨#[]⟩)]]=((S.take (i+1)).map (uo L)).map au:=hM;simp only[au]at hix q1 q3;rw[decide_eq_true h0]at q1
   repeat' (first|(with_reducible first|refine ac ?_|refine ab ‹_› rfl ?_|refine ai (λhbr=>?_) λhbr=>?_)|simp(disch:=first|omega|(simp only[aq];omega)|simp only[ap,Nat.reduceAdd]) only[go_sem,hix,hch,gn,hM,dA,du])
   all_goals first|omega|exact⟨i+1,rfl,by omega,by omega⟩|skip
  ·rw[decide_eq_false h0]at q1;by_cases h1:bV L x.text<0
   ·rw[if_pos (.inr h1)]at hM;have hM:((S.take i).map (uo L)).map au++[[.sc (.int .i64 0),.sc (.int .i64 0),.sc (.string ⟨#[]⟩)]]=((S.take (i+1)).map (uo L)).map au:=hM;simp only[au]at hix q1 q3
    repeat' (first|(with_reducible first|refine ac ?_|refine ab ‹_› rfl ?_|refine ai (λhbr=>?_) λhbr=>?_)|simp(disch:=first|omega|(simp only[aq];omega)|simp only[ap,Nat.reduceAdd]) only[go_sem,hix,hch,gn,hM,dA,du])
    all_goals first|omega|exact⟨i+1,rfl,by omega,by omega⟩|skip
   ·rw[if_neg (by rintro(h|h)<;>contradiction)]at hM;have hM:((S.take i).map (uo L)).map au++[[.sc (.int .i64 (bV L x.text+1)),.sc (.int .i64 1),.sc (.string ByteArray.empty)]]=((S.take (i+1)).map (uo L)).map au:=hM;simp only[au,Dp]at hix q1 q3
    repeat' (first|(with_reducible first|refine ac ?_|refine ab ‹_› rfl ?_|refine ai (λhbr=>?_) λhbr=>?_)|simp(disch:=first|omega|(simp only[aq];omega)|simp only[ap,Nat.reduceAdd]) only[go_sem,hix,hch,gn,hM,dA,du])
    all_goals first|omega|exact⟨i+1,rfl,by omega,by omega⟩|skip
 ·obtain rfl:i=S.length:=by omega
  rw[List.take_length]
  repeat' (first|(with_reducible first|refine ac ?_|refine ab ‹_› rfl ?_|refine ai (λhbr=>?_) λhbr=>?_)|simp(disch:=first|omega|(simp only[aq];omega)|simp only[ap,Nat.reduceAdd]) only[go_sem,true_and])
  all_goals first|omega|rfl
theorem Mx{k m:Int}{x:It}(h:x=bA):cvI k m x=bA:=by unfold cvI;rw[if_pos (.inl h)];exact h
theorem Jc(s:ByteArray):¬vr s=bA:=λe=>absurd (congrArg It.den e) (show¬(1:Int)=0 by decide)
theorem Pm{k m:Int}{x:It}(h:¬x=bA):¬cvI k m x=bA:=by
 unfold cvI;split
 ·exact h
 ·split
  ·exact Jc _
  ·split<;>exact Jc _
theorem Te{k:Int}{its:List It}{ns cl lv:List ByteArray}{c e:Int}(h:VF k its [] ns cl lv c e)(hw:ck (.mk k its [] ns cl lv c e)<=1000000000)(hk:k<=3)(L:List ByteArray)(hL:L.length<=1000000):
 aI Try.prog 29 [(true,aj (.mk k its [] ns cl lv c e)),(false,[av L])] [(true,eF 2 ((wF k lv its).map (uo L)),true)]:=by
 have h2:=Pq h hk;have g1:=Oa h hw;have hkr:0<=wl k lv/\wl k lv<=3:=by have:=h.k0;unfold wl;split<;>omega
 unfold wF;generalize wl k lv=k' at *;generalize Cm lv its=S at *;have hl:=h2.il;simp only[aj,af,av,eF,List.map_nil]at g1 ⊢;refine ah Try.func29 tU rfl ?_;simp only[j8]
 repeat' (first|(with_reducible first|refine ac ?_|refine ab ‹_› rfl ?_|refine ai (λhbr=>?_) λhbr=>?_)|simp(disch:=first|omega|(simp only[aq];omega)|simp only[ap,Nat.reduceAdd]) only[go_sem,true_and])
 all_goals first|omega|skip
 refine lp (λi:Nat=>[.sc (.int .i64 i),.sl 42 3 ((((S.take i).map (cvI k' 3)).map (uo L)).map au)]) (λi=>i<=S.length) (λi=>S.length-i) 0 rfl (Nat.zero_le _) ?_;intro i hi;simp only[jk];by_cases hlt:i<S.length
 ·have hix:=cM (t:=42) (l:=S) (kd:=.i64) (z:=(i:Int)) (by omega) (by omega);have hch:=aY (e:=au) (k:=3) (t:=42) (l:=S) (kd:=.i64) (z:=(i:Int)) (by omega) (by omega);rw[Int.toNat_natCast]at hix;have hM:((S.take i).map (cvI k' 3)).map (uo L)++[uo L (cvI k' 3 (S.getD i default))]=((S.take (i+1)).map (cvI k' 3)).map (uo L):=by rw[bm hlt,List.map_append,List.map_append];rfl
  have hit:=h2.it _ (aG hlt)
  have hk1:1<=k':=by
   rcases Int.lt_or_le 0 k' with h1|h1
   ·omega
   ·rw[h2.i0 (.inl (by omega))]at hlt;simp at hlt
  generalize S.getD i default=x at hix hM hit
  have q1:=JI x k' 3 ⟨hk1,hkr.2⟩ (by decide) (λe1=>by
   unfold dd ry at hit;simp only[Bool.and_eq_true,Bool.or_eq_true,decide_eq_true_eq,e1,if_true]at hit;rcases hit.1 with h3|h3
   ·exact .inl h3
   ·right;omega)
  have hd:x=bA↔x.den=0:=by unfold dd at hit;simp only[Bool.and_eq_true]at hit;exact sH hit.1
  have hy1:x=bA->cvI k' 3 x=bA:=Mx;have hy2:¬x=bA->¬cvI k' 3 x=bA:=Pm;generalize cvI k' 3 x=y at q1 hM hy1 hy2;have q2:=yx 9 L y.text (by omega);have q3:=Bq (bV L y.text+1);have hf:=en L y.text;have hM:=congrArg (List.map au) hM;rw[List.map_append]at hM;unfold uo at hM;by_cases h0:x=bA
  ·have hd0:=hd.1 h0;rw[if_pos (.inl (hy1 h0))]at hM;have hM:(((S.take i).map (cvI k' 3)).map (uo L)).map au++[[.sc (.int .i64 0),.sc (.int .i64 0),.sc (.string ⟨#[]⟩)]]=(((S.take (i+1)).map (cvI k' 3)).map (uo L)).map au:=hM;simp only[au]at hix q1 q3
   repeat' (first|(with_reducible first|refine ac ?_|refine ab ‹_› rfl ?_|refine ai (λhbr=>?_) λhbr=>?_)|simp(disch:=first|omega|(simp only[aq];omega)|simp only[ap,Nat.reduceAdd]) only[go_sem,hix,hch,gn,hM,dH])
   all_goals first|omega|exact⟨i+1,rfl,by omega,by omega⟩
  ·have hd0:¬x.den=0:=λe=>h0 (hd.2 e)
   by_cases h1:bV L y.text<0
   ·rw[if_pos (.inr h1)]at hM;have hM:(((S.take i).map (cvI k' 3)).map (uo L)).map au++[[.sc (.int .i64 0),.sc (.int .i64 0),.sc (.string ⟨#[]⟩)]]=(((S.take (i+1)).map (cvI k' 3)).map (uo L)).map au:=hM;simp only[au]at hix q1 q3
    repeat' (first|(with_reducible first|refine ac ?_|refine ab ‹_› rfl ?_|refine ai (λhbr=>?_) λhbr=>?_)|simp(disch:=first|omega|(simp only[aq];omega)|simp only[ap,Nat.reduceAdd]) only[go_sem,hix,hch,gn,hM,dH])
    all_goals first|omega|exact⟨i+1,rfl,by omega,by omega⟩
   ·rw[if_neg (by rintro(h|h);exact hy2 h0 h;exact h1 h)]at hM;have hM:(((S.take i).map (cvI k' 3)).map (uo L)).map au++[[.sc (.int .i64 (bV L y.text+1)),.sc (.int .i64 1),.sc (.string ByteArray.empty)]]=(((S.take (i+1)).map (cvI k' 3)).map (uo L)).map au:=hM;simp only[au,Dp]at hix q1 q3
    repeat' (first|(with_reducible first|refine ac ?_|refine ab ‹_› rfl ?_|refine ai (λhbr=>?_) λhbr=>?_)|simp(disch:=first|omega|(simp only[aq];omega)|simp only[ap,Nat.reduceAdd]) only[go_sem,hix,hch,gn,hM,dH])
    all_goals first|omega|exact⟨i+1,rfl,by omega,by omega⟩
 ·obtain rfl:i=S.length:=by omega
  rw[List.take_length]
  repeat' (first|(with_reducible first|refine ac ?_|refine ab ‹_› rfl ?_|refine ai (λhbr=>?_) λhbr=>?_)|simp(disch:=first|omega|(simp only[aq];omega)|simp only[ap,Nat.reduceAdd]) only[go_sem,true_and])
  all_goals first|omega|rfl
def Fg(x:It):Option ByteArray:=if x≠bA/\x.text=⟨#[]⟩then some zx else none
def jd(n:Nat)(names:List ByteArray)(s:List ByteArray×List Int)(x:It):List ByteArray×List Int:=
 if x=bA then(s.1,s.2++[0])else if 0<=bV names x.text then(s.1,s.2++[bV names x.text+1])else if 0<=bV s.1 x.text then(s.1,s.2++[bV s.1 x.text+n+1])else(s.1++[x.text],s.2++[(s.1.length:Int)+n+1])
def wY(n:Nat)(names:List ByteArray)(l:List It):List ByteArray×List Int:=l.foldl (jd n names) ([],[])
def qh(n:Nat)(names:List ByteArray)(its:List It):List Int×ByteArray:=match its.findSome? Fg with
 |some m=>([],m)
 |none=>((wY n names its).2,eW)
theorem CV{n:Nat}{names:List ByteArray}{l:List It}{i:Nat}(h:i<l.length):wY n names (l.take (i+1))=jd n names (wY n names (l.take i)) (l.getD i default):=by
 unfold wY;rw[bm h,List.foldl_append];rfl
theorem su{n:Nat}{names:List ByteArray}:∀{l:List It} {s:List ByteArray×List Int},(l.foldl (jd n names) s).1.length<=s.1.length+l.length/\(l.foldl (jd n names) s).2.length=s.2.length+l.length
 |[],s=>by simp
 |x::l,s=>by
  have:=su (n:=n) (names:=names) (l:=l) (s:=jd n names s x);rw[List.foldl_cons]
  have h1:(jd n names s x).1.length<=s.1.length+1/\(jd n names s x).2.length=s.2.length+1:=by
   unfold jd;split
   ·simp
   ·split
    ·simp
    ·split<;>simp
  simp only[List.length_cons];omega
theorem OG(n:Nat)(names:List ByteArray)(its:List It)(hl:its.length<=40)(hn:n<=1000)(hnm:names.length<=1000):
 aI Try.prog 72 [(false,[.sc (.int .i64 n)]),(false,[av names]),(false,[.sl 42 3 (its.map au)])] [(false,[bC (qh n names its).1],true),(false,[.sc (.string (qh n names its).2)],true)]:=by
 simp only[bC,av];refine ah Try.func72 ma rfl ?_;simp only[fJ];simp(disch:=first|omega|(simp only[aq];omega)|simp only[ap,Nat.reduceAdd]) only[go_sem,true_and];refine lp (λi:Nat=>[.sc (.int .i64 i),.sl 3 1 ((wY n names (its.take i)).2.map dD),.sl 9 1 ((wY n names (its.take i)).1.map bQ)]) (λi=>i<=its.length/\∀j,j<i->Fg (its.getD j default)=none) (λi=>its.length-i) 0 rfl ⟨Nat.zero_le _,λj hj=>by omega⟩ ?_;rintro i ⟨hi,hok⟩;simp only[fa];by_cases hlt:i<its.length
 ·have hix:=cM (t:=42) (l:=its) (kd:=.i64) (z:=(i:Int)) (by omega) (by omega);rw[Int.toNat_natCast]at hix;have s1:=CV (n:=n) (names:=names) hlt;have hen:Fg (its.getD i default)=none->∀j,j<i+1->Fg (its.getD j default)=none:=sB hok;have hes:∀m,Fg (its.getD i default)=some m->qh n names its=([],m):=λm hm=>by unfold qh;rw[xl hok hlt hm]
  have g1:=ke (its.getD i default);have hln:=su (n:=n) (names:=names) (l:=its.take i) (s:=([],[]));rw[show(its.take i).foldl (jd n names) ([],[])=wY n names (its.take i)from rfl]at hln;simp only[List.length_nil,List.length_take,Nat.zero_add]at hln;generalize its.getD i default=x at hix s1 hen hes g1
  have fin:∀S,wY n names (its.take (i+1))=S->(∀j,j<i+1->Fg (its.getD j default)=none)->∃a':Nat,([.sc (.int .i64 ((i+1:Nat):Int)),.sl 3 1 (S.2.map dD),.sl 9 1 (S.1.map bQ)]:List DV)=[.sc (.int .i64 (a':Int)),.sl 3 1 ((wY n names (its.take a')).2.map dD),.sl 9 1 ((wY n names (its.take a')).1.map bQ)]/\(a'<=its.length/\∀j,j<a'->Fg (its.getD j default)=none)/\its.length-a'<its.length-i:=
   λS e h=>⟨i+1,by rw[e],⟨by omega,h⟩,by omega⟩
  generalize wY n names (its.take i)=S at s1 hln;obtain⟨F,O⟩:=S;simp only at hln;have g2:=kj 9 names x.text (by omega);have g3:=kj 9 F x.text (by omega);have f1:=en names x.text;have f2:=en F x.text;unfold Fg at hen hes;unfold jd at s1;rw[s1]at fin;simp only at fin;by_cases h0:x=bA
  ·rw[decide_eq_true h0]at g1;have hen:=hen (if_neg λh=>h.1 h0);rw[if_pos h0]at fin;simp only[au]at hix g1
   repeat' (first|(with_reducible first|refine ac ?_|refine ab ‹_› rfl ?_|refine ai (λhbr=>?_) λhbr=>?_)|simp(disch:=first|omega|(simp only[aq];omega)|simp only[ap,Nat.reduceAdd]) only[go_sem,hix,bS])
   all_goals first|omega|exact fin _ rfl hen
  ·rw[decide_eq_false h0]at g1;rw[if_neg h0]at fin;simp only[au]at hix g1;by_cases ht:x.text=⟨#[]⟩
   ·rw[hes zx (if_pos ⟨h0,ht⟩)]
    repeat' (first|(with_reducible first|refine ac ?_|refine ab ‹_› rfl ?_|refine ai (λhbr=>?_) λhbr=>?_)|simp(disch:=first|omega|(simp only[aq];omega)|simp only[ap,Nat.reduceAdd]) only[go_sem,hix])
    all_goals first|omega|contradiction|rfl
   ·have hen:=hen (if_neg λh=>ht h.2);by_cases c1:0<=bV names x.text
    ·rw[if_pos c1]at fin
     repeat' (first|(with_reducible first|refine ac ?_|refine ab ‹_› rfl ?_|refine ai (λhbr=>?_) λhbr=>?_)|simp(disch:=first|omega|(simp only[aq];omega)|simp only[ap,Nat.reduceAdd]) only[go_sem,hix,bS])
     all_goals first|omega|contradiction|exact fin _ rfl hen
    ·rw[if_neg c1]at fin;by_cases c2:0<=bV F x.text
     ·rw[if_pos c2]at fin
      repeat' (first|(with_reducible first|refine ac ?_|refine ab ‹_› rfl ?_|refine ai (λhbr=>?_) λhbr=>?_)|simp(disch:=first|omega|(simp only[aq];omega)|simp only[ap,Nat.reduceAdd]) only[go_sem,hix,bS])
      all_goals first|omega|contradiction|exact fin _ rfl hen
     ·rw[if_neg c2]at fin
      repeat' (first|(with_reducible first|refine ac ?_|refine ab ‹_› rfl ?_|refine ai (λhbr=>?_) λhbr=>?_)|simp(disch:=first|omega|(simp only[aq];omega)|simp only[ap,Nat.reduceAdd]) only[go_sem,hix,bS])
      all_goals first|omega|contradiction|exact fin _ rfl hen
 ·obtain rfl:i=its.length:=by omega
  have hfs:=wS hok;have hp:qh n names its=((wY n names its).2,eW):=by unfold qh;rw[hfs]
  rw[List.take_length,hp]
  repeat' (first|(with_reducible first|refine ac ?_|refine ab ‹_› rfl ?_|refine ai (λhbr=>?_) λhbr=>?_)|simp(disch:=first|omega|(simp only[aq];omega)|simp only[ap,Nat.reduceAdd]) only[go_sem,true_and])
  all_goals first|omega|rfl
def Qu(x:It):Int:=if x=bA then 2 else if x.num=0 then 0 else 1
theorem Pj(x:It):aI Try.prog 73 [(true,au x)] [(false,[.sc (.int .i64 (Qu x))],true)]:=by
 have g1:=ke x;unfold Qu;by_cases h0:x=bA
 ·rw[decide_eq_true h0]at g1;rw[if_pos h0];simp only[au]at g1 ⊢;refine ah Try.func73 oU rfl ?_;simp only[jo]
  repeat' (first|(with_reducible first|refine ac ?_|refine ab ‹_› rfl ?_|refine ai (λhbr=>?_) λhbr=>?_)|simp(disch:=first|omega|(simp only[aq];omega)|simp only[ap,Nat.reduceAdd]) only[go_sem,true_and])
  all_goals rfl
 ·rw[decide_eq_false h0]at g1;rw[if_neg h0];simp only[au]at g1 ⊢;refine ah Try.func73 oU rfl ?_;simp only[jo]
  repeat' (first|(with_reducible first|refine ac ?_|refine ab ‹_› rfl ?_|refine ai (λhbr=>?_) λhbr=>?_)|simp(disch:=first|omega|(simp only[aq];omega)|simp only[ap,Nat.reduceAdd]) only[go_sem,true_and])
  all_goals first|(rw[if_pos ‹_›];rfl)|(rw[if_neg ‹_›];rfl)
def G1:ByteArray:=⟨#[105,110,118,97,108,105,100,32,118,101,99,116,111,114]⟩
def zu(its:List It)(i:Nat):Option Int:=if its.getD (i % its.length) default=bA then some 0 else if(its.getD (i % its.length) default).num=1 then some ((i+1:Nat):Int)else none
def JY(n:Nat)(its:List It):List Int:=if its=[]then[]else(List.range (max n its.length)).filterMap (zu its)
def dw(n:Nat)(names:List ByteArray):aX->List Int×ByteArray
 |.mk k its ps ns cl lv c e=>if cd (.mk k its ps ns cl lv c e)=true then(if 4<=k then([],zx)else if k=2 then oc n its else if k=3 then qh n names its else if k=1 then(JY n its,eW)else([],eW))else([],G1)
theorem ek{v:aX}(h:cd v=true):gZ 3 v=true:=by unfold cd at h;simp only[Bool.and_eq_true]at h;exact h.1
theorem yP{β:Type}(f:Nat->Option β)(i:Nat):(List.range (i+1)).filterMap f=(List.range i).filterMap f++(f i).toList:=by
 rw[List.range_succ,List.filterMap_append];congr 1
theorem Hb{x:It}{m:Nat}{i:Nat}{L M:List Int}(hit:dd 1 m x=true)(s:M=L++(if x=bA then some 0 else if x.num=1 then some ((i+1:Nat):Int)else none).toList):
 (Qu x=1->M=L++[((i+1:Nat):Int)])/\(Qu x=2->M=L++[0])/\(¬Qu x=1->¬Qu x=2->M=L):=by
 have hx:x=bA\/x.num=0\/x.num=1:=by
  unfold dd ry at hit;simp only[Bool.and_eq_true,Bool.or_eq_true,decide_eq_true_eq,if_true]at hit;rcases hit.1 with h|h
  ·exact .inl h
  ·right;omega
 unfold Qu;by_cases h0:x=bA
 ·rw[if_pos h0]at s ⊢;exact⟨λh=>absurd h (by decide),λ_=>s,λ_ h=>absurd rfl h⟩
 ·rw[if_neg h0]at s ⊢;rcases hx with h|h|h
  ·exact absurd h h0
  ·rw[if_neg (by omega)]at s;rw[if_pos h];exact⟨λh=>absurd h (by decide),λh=>absurd h (by decide),λ_ _=>by simpa using s⟩
  ·rw[if_pos h]at s;rw[if_neg (by omega)];exact⟨λ_=>s,λh=>absurd h (by decide),λh=>absurd rfl h⟩
set_option maxHeartbeats 2000000 in
theorem JC(n:Nat)(names:List ByteArray){k:Int}{its:List It}{ps:List aX}{ns cl lv:List ByteArray}{c e:Int}(hn:n<=40)(hnm:names=[]\/names.length=n)(hw:ck (.mk k its ps ns cl lv c e)<=1000000000):
 aI Try.prog 40 [(false,[.sc (.int .i64 n)]),(false,[av names]),(true,aj (.mk k its ps ns cl lv c e))] [(false,[bC (dw n names (.mk k its ps ns cl lv c e)).1],true),(false,[.sc (.string (dw n names (.mk k its ps ns cl lv c e)).2)],true)]:=by
 have g0:=oA _ hw;have hnn:names.length=0\/names.length=n:=hnm.imp (λh=>by rw[h];rfl) id;simp only[dw]
 cases hv:cd (.mk k its ps ns cl lv c e)with
 |false=>
  rw[hv]at g0;simp only[aj,af,av,bC,Bool.false_eq_true,if_false]at g0 ⊢;refine ah Try.func40 bf rfl ?_;simp only[aT]
  repeat' (first|(with_reducible first|refine ac ?_|refine ab ‹_› rfl ?_|refine ai (λhbr=>?_) λhbr=>?_)|simp(disch:=first|omega|(simp only[aq];omega)|simp only[ap,Nat.reduceAdd]) only[go_sem,true_and])
  all_goals first|omega|rfl
 |true=>
  have h:=vf (ek hv);have hk0:=h.k0;have hk5:=h.k5;have hil:=h.il;have hit:=h.it;have hi0:=h.i0;rw[hv]at g0;simp only[if_true];clear h hv;by_cases h4:4<=k
  ·rw[if_pos h4];simp only[aj,af,av,bC]at g0 ⊢;refine ah Try.func40 bf rfl ?_;simp only[aT]
   repeat' (first|(with_reducible first|refine ac ?_|refine ab ‹_› rfl ?_|refine ai (λhbr=>?_) λhbr=>?_)|simp(disch:=first|omega|(simp only[aq];omega)|simp only[ap,Nat.reduceAdd]) only[go_sem,ba])
   all_goals first|omega|rfl
  rw[if_neg h4];by_cases h2:k=2
  ·have g1:=Qq n its lv.length (by subst h2;exact hit) hil (by omega);rw[if_pos h2];simp only[aj,af,av,bC]at g0 g1 ⊢;refine ah Try.func40 bf rfl ?_;simp only[aT]
   repeat' (first|(with_reducible first|refine ac ?_|refine ab ‹_› rfl ?_|refine ai (λhbr=>?_) λhbr=>?_)|simp(disch:=first|omega|(simp only[aq];omega)|simp only[ap,Nat.reduceAdd]) only[go_sem,ba])
   all_goals first|omega|rfl
  rw[if_neg h2];by_cases h3:k=3
  ·have g1:=OG n names its hil (by omega) (by omega);rw[if_pos h3];simp only[aj,af,av,bC]at g0 g1 ⊢;refine ah Try.func40 bf rfl ?_;simp only[aT]
   repeat' (first|(with_reducible first|refine ac ?_|refine ab ‹_› rfl ?_|refine ai (λhbr=>?_) λhbr=>?_)|simp(disch:=first|omega|(simp only[aq];omega)|simp only[ap,Nat.reduceAdd]) only[go_sem,ba])
   all_goals first|omega|rfl
  rw[if_neg h3];by_cases h1:k=1
  ·rw[if_pos h1];unfold JY;by_cases hi:its=[]
   ·subst hi;rw[if_pos rfl];simp only[aj,af,av,bC,List.map_nil]at g0 ⊢;refine ah Try.func40 bf rfl ?_;simp only[aT]
    repeat' (first|(with_reducible first|refine ac ?_|refine ab ‹_› rfl ?_|refine ai (λhbr=>?_) λhbr=>?_)|simp(disch:=first|omega|(simp only[aq];omega)|simp only[ap,Nat.reduceAdd]) only[go_sem,ba])
    all_goals first|omega|rfl
   rw[if_neg hi];have hi0:its.length≠0:=λe=>hi (List.eq_nil_of_length_eq_zero e)
   simp only[aj,af,av,bC]at g0 ⊢;refine ah Try.func40 bf rfl ?_;simp only[aT]
   repeat' (first|(with_reducible first|refine ac ?_|refine ab ‹_› rfl ?_|refine ai (λhbr=>?_) λhbr=>?_)|simp(disch:=first|omega|(simp only[aq];omega)|simp only[ap,Nat.reduceAdd]) only[go_sem,ba])
   all_goals first|omega|skip
   all_goals refine lp (λi:Nat=>[.sc (.int .i64 i),.sl 3 1 (((List.range i).filterMap (zu its)).map dD)]) (λi=>i<=max n its.length) (λi=>max n its.length-i) 0 rfl (Nat.zero_le _) ?_
   all_goals
    intro i hi;simp only[ec];by_cases hlt:i<max n its.length
    ·have hq:i % its.length<its.length:=Nat.mod_lt _ (by omega);have hix:=cM (t:=42) (l:=its) (kd:=.i64) (z:=((i % its.length:Nat):Int)) (by omega) (by omega);rw[Int.toNat_natCast]at hix;have s1:=yP (zu its) i;have hit:=hit _ (aG hq);have g1:=Pj (its.getD (i % its.length) default);rw[show zu its i=(if its.getD (i % its.length) default=bA then some 0 else if(its.getD (i % its.length) default).num=1 then some ((i+1:Nat):Int)else none)from rfl]at s1;generalize its.getD (i % its.length) default=x at hix s1 hit g1;have hL:((List.range i).filterMap (zu its)).length<=100:=Nat.le_trans (List.length_filterMap_le _ _) (by simp;omega);have hrm:Int.tmod (i:Int) (its.length:Int)=((i % its.length:Nat):Int):=by rw[Int.ofNat_tmod]
     obtain⟨r1,r2,r3⟩:=Hb (by rw[h1]at hit;exact hit) s1;simp only[au]at hix g1
     repeat' (first|(with_reducible first|refine ac ?_|refine ab ‹_› rfl ?_|refine ai (λhbr=>?_) λhbr=>?_)|simp(disch:=first|omega|(simp only[aq];omega)|simp only[ap,Nat.reduceAdd]) only[go_sem,hix,hrm,ea])
     all_goals first|omega|exact⟨i+1,by rw[r1 ‹_›],by omega,by omega⟩|exact⟨i+1,by rw[r2 ‹_›],by omega,by omega⟩|exact⟨i+1,by rw[r3 ‹_› ‹_›],by omega,by omega⟩
    ·have e:i=max n its.length:=by omega
     subst e
     repeat' (first|(with_reducible first|refine ac ?_|refine ab ‹_› rfl ?_|refine ai (λhbr=>?_) λhbr=>?_)|simp(disch:=first|omega|(simp only[aq];omega)|simp only[ap,Nat.reduceAdd]) only[go_sem,true_and])
     all_goals first|omega|rfl
  ·rw[if_neg h1];have hk:k=0:=by omega
   simp only[aj,af,av,bC]at g0 ⊢;refine ah Try.func40 bf rfl ?_;simp only[aT]
   repeat' (first|(with_reducible first|refine ac ?_|refine ab ‹_› rfl ?_|refine ai (λhbr=>?_) λhbr=>?_)|simp(disch:=first|omega|(simp only[aq];omega)|simp only[ap,Nat.reduceAdd]) only[go_sem,ba])
   all_goals first|omega|rfl
theorem Ej{x:It}{m:Nat}{i:Nat}{L M:List Int}(hit:dd 1 m x=true)(s:M=L++(if x=bA then some 0 else if x.num=1 then some ((i+1:Nat):Int)else none).toList):
 (¬x.den=0->x.num=1->M=L++[((i+1:Nat):Int)])/\(x.den=0->M=L++[0])/\(¬x.den=0->¬x.num=1->M=L):=by
 have hd:x=bA↔x.den=0:=by unfold dd at hit;simp only[Bool.and_eq_true]at hit;exact sH hit.1
 refine⟨λh1 h2=>?_,λh1=>?_,λh1 h2=>?_⟩
 ·rw[if_neg (λe=>h1 (hd.1 e)),if_pos h2]at s;exact s
 ·rw[if_pos (hd.2 h1)]at s;exact s
 ·rw[if_neg (λe=>h1 (hd.1 e)),if_neg h2]at s;simpa using s
theorem yM(t:ByteArray):∀(l m:List ByteArray) (k:Nat),j7 (l++m) t k=if 0<=j7 l t k then j7 l t k else j7 m t (k+l.length)
 |[],m,k=>by simp[j7]
 |x::l,m,k=>by
  rw[List.cons_append,show j7 (x::(l++m)) t k=if x=t then(k:Int)else j7 (l++m) t (k+1)from rfl,show j7 (x::l) t k=if x=t then(k:Int)else j7 l t (k+1)from rfl];split
  ·rw[if_pos (by omega)]
  ·rw[yM t l m (k+1),List.length_cons,show k+1+l.length=k+(l.length+1) by omega]
theorem DJ(t:ByteArray):∀(l:List ByteArray) (k:Nat),j7 l t k=if 0<=j7 l t 0 then j7 l t 0+k else -1:=λl k=>by
 rcases Ai t l 0 with⟨h,h1⟩|⟨q,h,h1,h2⟩
 ·rw[h,if_neg (by decide)];exact uQ t l k λj hj e=>h1 (List.mem_of_getElem? e)
 ·rw[h,if_pos (by omega),FU t l q k h2 h1];omega
theorem He{t:ByteArray}(h:¬t=⟨#[]⟩)(k:Nat):bV (List.replicate k ⟨#[]⟩) t= -1:=by
 unfold bV
 exact uQ t _ 0 λj hj e=>by
  have:=List.mem_of_getElem? e;exact h (List.eq_of_mem_replicate this)
theorem Hz{names F:List ByteArray}{t:ByteArray}{n:Nat}(hn:names.length<=n)(ht:¬t=⟨#[]⟩):bV ((names++List.replicate (n-names.length) ⟨#[]⟩)++F) t=if 0<=bV names t then bV names t else if 0<=bV F t then bV F t+n else -1:=by
 have h1:=He ht (n-names.length);unfold bV at *;rw[yM,yM,DJ t (List.replicate _ _),h1,DJ t F];simp only[List.length_append,List.length_replicate,Nat.zero_add];rw[show names.length+(n-names.length)=n by omega];by_cases h:0<=j7 names t 0
 ·rw[if_pos h,if_pos h]
 ·rw[if_neg h,if_neg h];simp
set_option maxHeartbeats 2000000 in
theorem Fm(n:Nat)(names:List ByteArray){k:Int}{its:List It}{ps:List aX}{ns cl lv:List ByteArray}{c e:Int}(hn:n<=40)(hnm:names=[]\/names.length=n)(hw:ck (.mk k its ps ns cl lv c e)<=1000000000):
 aI Try.prog 9 [(false,[.sc (.int .i64 n)]),(false,[av names]),(true,aj (.mk k its ps ns cl lv c e))] [(false,[bC (dw n names (.mk k its ps ns cl lv c e)).1],true),(false,[.sc (.string (dw n names (.mk k its ps ns cl lv c e)).2)],true)]:=by
 have g0:=eN _ hw;have gin:=L8 (n:Int) 0 40;rw[decide_eq_true (by omega)]at gin;have hnn:names.length=0\/names.length=n:=hnm.imp (λh=>by rw[h];rfl) id;simp only[dw]
 cases hv:cd (.mk k its ps ns cl lv c e)with
 |false=>
  rw[hv]at g0;simp only[aj,af,av,bC,Bool.false_eq_true,if_false]at g0 ⊢;refine ah Try.func9 bq rfl ?_;simp only[bd]
  repeat' (first|(with_reducible first|refine ac ?_|refine ab ‹_› rfl ?_|refine ai (λhbr=>?_) λhbr=>?_)|simp(disch:=first|omega|(simp only[aq];omega)|simp only[ap,Nat.reduceAdd]) only[go_sem,true_and])
  all_goals first|omega|rfl
 |true=>
  have h:=vf (ek hv);have hk0:=h.k0;have hk5:=h.k5;have hil:=h.il;have hit:=h.it;have hi0:=h.i0;rw[hv]at g0;simp only[if_true];clear h hv;by_cases h4:4<=k
  ·rw[if_pos h4];simp only[aj,af,av,bC]at g0 ⊢;refine ah Try.func9 bq rfl ?_;simp only[bd]
   repeat' (first|(with_reducible first|refine ac ?_|refine ab ‹_› rfl ?_|refine ai (λhbr=>?_) λhbr=>?_)|simp(disch:=first|omega|(simp only[aq];omega)|simp only[ap,Nat.reduceAdd]) only[go_sem,bn])
   all_goals first|omega|rfl
  rw[if_neg h4];by_cases h2:k=2
  ·have g1:=PH n its lv.length (by subst h2;exact hit) hil (by omega);rw[if_pos h2];simp only[aj,af,av,bC]at g0 g1 ⊢;refine ah Try.func9 bq rfl ?_;simp only[bd]
   repeat' (first|(with_reducible first|refine ac ?_|refine ab ‹_› rfl ?_|refine ai (λhbr=>?_) λhbr=>?_)|simp(disch:=first|omega|(simp only[aq];omega)|simp only[ap,Nat.reduceAdd]) only[go_sem,bn])
   all_goals first|omega|rfl
  rw[if_neg h2];by_cases h1:k=1
  ·rw[if_neg (show¬k=3 by omega),if_pos h1];unfold JY;by_cases hi:its=[]
   ·subst hi;rw[if_pos rfl];simp only[aj,af,av,bC,List.map_nil]at g0 ⊢;refine ah Try.func9 bq rfl ?_;simp only[bd]
    repeat' (first|(with_reducible first|refine ac ?_|refine ab ‹_› rfl ?_|refine ai (λhbr=>?_) λhbr=>?_)|simp(disch:=first|omega|(simp only[aq];omega)|simp only[ap,Nat.reduceAdd]) only[go_sem,bn])
    all_goals first|omega|skip
    all_goals
     refine lp (λi:Nat=>[.sc (.int .i64 i),.sl 3 1 []]) (λi=>i<=0) (λi=>0) 0 rfl (Nat.zero_le _) ?_;intro i hi;simp only[cR]
     repeat' (first|(with_reducible first|refine ac ?_|refine ab ‹_› rfl ?_|refine ai (λhbr=>?_) λhbr=>?_)|simp(disch:=first|omega|(simp only[aq];omega)|simp only[ap,Nat.reduceAdd]) only[go_sem,true_and])
     all_goals first|omega|rfl
   rw[if_neg hi];have hi0:its.length≠0:=λe=>hi (List.eq_nil_of_length_eq_zero e)
   simp only[aj,af,av,bC]at g0 ⊢;refine ah Try.func9 bq rfl ?_;simp only[bd]
   repeat' (first|(with_reducible first|refine ac ?_|refine ab ‹_› rfl ?_|refine ai (λhbr=>?_) λhbr=>?_)|simp(disch:=first|omega|(simp only[aq];omega)|simp only[ap,Nat.reduceAdd]) only[go_sem,bn])
   all_goals first|omega|skip
   all_goals refine lp (λi:Nat=>[.sc (.int .i64 i),.sl 3 1 (((List.range i).filterMap (zu its)).map dD)]) (λi=>i<=max n its.length) (λi=>max n its.length-i) 0 rfl (Nat.zero_le _) ?_
   all_goals
    intro i hi;simp only[cR];by_cases hlt:i<max n its.length
    ·have hq:i % its.length<its.length:=Nat.mod_lt _ (by omega);have hix:=cM (t:=42) (l:=its) (kd:=.i64) (z:=((i % its.length:Nat):Int)) (by omega) (by omega);rw[Int.toNat_natCast]at hix;have s1:=yP (zu its) i;have hit:=hit _ (aG hq);rw[show zu its i=(if its.getD (i % its.length) default=bA then some 0 else if(its.getD (i % its.length) default).num=1 then some ((i+1:Nat):Int)else none)from rfl]at s1;generalize its.getD (i % its.length) default=x at hix s1 hit;have hL:((List.range i).filterMap (zu its)).length<=100:=Nat.le_trans (List.length_filterMap_le _ _) (by simp;omega);have hrm:Int.tmod (i:Int) (its.length:Int)=((i % its.length:Nat):Int):=by rw[Int.ofNat_tmod]
     obtain⟨r1,r2,r3⟩:=Ej (by rw[h1]at hit;exact hit) s1;simp only[au]at hix
     repeat' (first|(with_reducible first|refine ac ?_|refine ab ‹_› rfl ?_|refine ai (λhbr=>?_) λhbr=>?_)|simp(disch:=first|omega|(simp only[aq];omega)|simp only[ap,Nat.reduceAdd]) only[go_sem,hix,hrm,eh])
     all_goals first|omega|exact⟨i+1,by rw[r1 ‹_› ‹_›],by omega,by omega⟩|exact⟨i+1,by rw[r2 ‹_›],by omega,by omega⟩|exact⟨i+1,by rw[r3 ‹_› ‹_›],by omega,by omega⟩
    ·have e:i=max n its.length:=by omega
     subst e
     repeat' (first|(with_reducible first|refine ac ?_|refine ab ‹_› rfl ?_|refine ai (λhbr=>?_) λhbr=>?_)|simp(disch:=first|omega|(simp only[aq];omega)|simp only[ap,Nat.reduceAdd]) only[go_sem,true_and])
     all_goals first|omega|rfl
  ·have hT:(if k=3 then qh n names its else if k=1 then(JY n its,eW)else([],eW))=qh n names its:=by
    by_cases h3:k=3
    ·rw[if_pos h3]
    ·rw[if_neg h3,if_neg h1,hi0 (by omega)];rfl
   rw[hT];clear hT;obtain⟨b1,b2,b3,b4,b5,b6⟩:=rU hw;simp only[aj,af,av,bC]at g0 ⊢;refine ah Try.func9 bq rfl ?_;simp only[bd]
   repeat' (first|(with_reducible first|refine ac ?_|refine ab ‹_› rfl ?_|refine ai (λhbr=>?_) λhbr=>?_)|simp(disch:=first|omega|(simp only[aq];omega)|simp only[ap,Nat.reduceAdd]) only[go_sem,bn])
   all_goals first|omega|skip
   all_goals refine lp (λj:Nat=>[.sl 9 1 ((names++List.replicate j (⟨#[]⟩:ByteArray)).map bQ)]) (λj=>names.length+j<=max n names.length) (λj=>n-(names.length+j)) 0 (by rw[show names++List.replicate 0 (⟨#[]⟩:ByteArray)=names from List.append_nil _];rfl) (by omega) ?_
   all_goals
    intro j hj;simp only[eb];have hll:(names++List.replicate j (⟨#[]⟩:ByteArray)).length=names.length+j:=by rw[List.length_append,List.length_replicate]
    by_cases hjn:names.length+j<n
    ·repeat' (first|(with_reducible first|refine ac ?_|refine ab ‹_› rfl ?_|refine ai (λhbr=>?_) λhbr=>?_)|simp(disch:=first|omega|(simp only[aq];omega)|simp only[ap,Nat.reduceAdd]) only[go_sem,true_and])
     all_goals first|omega|skip
     all_goals exact⟨j+1,by rw[List.replicate_succ',List.append_assoc],by omega,by omega⟩
    have hj2:j=n-names.length:=by omega
    subst hj2
    repeat' (first|(with_reducible first|refine ac ?_|refine ab ‹_› rfl ?_|refine ai (λhbr=>?_) λhbr=>?_)|simp(disch:=first|omega|(simp only[aq];omega)|simp only[ap,Nat.reduceAdd]) only[go_sem,true_and])
    all_goals first|omega|skip
    all_goals refine lp (λi:Nat=>[.sc (.int .i64 i),.sl 3 1 ((wY n names (its.take i)).2.map dD),.sl 9 1 ((names++List.replicate (n-names.length) (⟨#[]⟩:ByteArray)++(wY n names (its.take i)).1).map bQ)]) (λi=>i<=its.length/\∀j,j<i->Fg (its.getD j default)=none) (λi=>its.length-i) 0 (by rw[show names++List.replicate (n-names.length) (⟨#[]⟩:ByteArray)++(wY n names (its.take 0)).1=names++List.replicate (n-names.length) (⟨#[]⟩:ByteArray)from List.append_nil _];rfl) ⟨Nat.zero_le _,λj hj=>by omega⟩ ?_
    all_goals
     clear hj hjn;rintro i ⟨hi,hok⟩;simp only[ej];by_cases hlt:i<its.length
     ·have hix:=cM (t:=42) (l:=its) (kd:=.i64) (z:=(i:Int)) (by omega) (by omega);rw[Int.toNat_natCast]at hix;have s1:=CV (n:=n) (names:=names) hlt;have hen:Fg (its.getD i default)=none->∀j,j<i+1->Fg (its.getD j default)=none:=sB hok;have hes:∀m,Fg (its.getD i default)=some m->qh n names its=([],m):=λm hm=>by unfold qh;rw[xl hok hlt hm]
      have hln:=su (n:=n) (names:=names) (l:=its.take i) (s:=([],[]));rw[show(its.take i).foldl (jd n names) ([],[])=wY n names (its.take i)from rfl]at hln;simp only[List.length_nil,List.length_take,Nat.zero_add]at hln;have hid:=hit _ (aG hlt);generalize its.getD i default=x at hix s1 hen hes hid;have hd:x=bA↔x.den=0:=by unfold dd at hid;simp only[Bool.and_eq_true]at hid;exact sH hid.1
      generalize wY n names (its.take i)=S at s1 hln;obtain⟨F,O⟩:=S;simp only at hln;have hA:(names++List.replicate (n-names.length) (⟨#[]⟩:ByteArray)++F).length=n+F.length:=by rw[List.length_append,hll];omega
      have g2:=yx 9 (names++List.replicate (n-names.length) (⟨#[]⟩:ByteArray)++F) x.text (by omega);have hf:¬x.text=⟨#[]⟩->_:=λh=>Hz (F:=F) (show names.length<=n by omega) h
      generalize bV (names++List.replicate (n-names.length) (⟨#[]⟩:ByteArray)++F) x.text=r at g2 hf;have f1:=en names x.text;have f2:=en F x.text;unfold Fg at hen hes;unfold jd at s1;simp only at s1
      have fin:∀(A:List ByteArray) (Q:List Int),A=names++List.replicate (n-names.length) (⟨#[]⟩:ByteArray)++(wY n names (its.take (i+1))).1->Q=(wY n names (its.take (i+1))).2->(∀j,j<i+1->Fg (its.getD j default)=none)->∃a':Nat,([.sc (.int .i64 ((i+1:Nat):Int)),.sl 3 1 (Q.map dD),.sl 9 1 (A.map bQ)]:List DV)=[.sc (.int .i64 (a':Int)),.sl 3 1 ((wY n names (its.take a')).2.map dD),.sl 9 1 ((names++List.replicate (n-names.length) (⟨#[]⟩:ByteArray)++(wY n names (its.take a')).1).map bQ)]/\(a'<=its.length/\∀j,j<a'->Fg (its.getD j default)=none)/\its.length-a'<its.length-i:=
       λA Q e1 e2 h=>⟨i+1,by rw[e1,e2],⟨by omega,h⟩,by omega⟩
      simp only[au]at hix;by_cases h0:x=bA
      ·have hz:=hd.1 h0;have hen:=hen (if_neg λh=>h.1 h0);rw[if_pos h0]at s1
       repeat' (first|(with_reducible first|refine ac ?_|refine ab ‹_› rfl ?_|refine ai (λhbr=>?_) λhbr=>?_)|simp(disch:=first|omega|(simp only[aq];omega)|simp only[ap,Nat.reduceAdd]) only[go_sem,hix,bp,bk])
       all_goals first|omega|contradiction|exact fin _ _ (by rw[s1]) (by rw[s1]) hen
      ·have hz:¬x.den=0:=λe=>h0 (hd.2 e)
       rw[if_neg h0]at s1;by_cases ht:x.text=⟨#[]⟩
       ·rw[hes zx (if_pos ⟨h0,ht⟩)]
        repeat' (first|(with_reducible first|refine ac ?_|refine ab ‹_› rfl ?_|refine ai (λhbr=>?_) λhbr=>?_)|simp(disch:=first|omega|(simp only[aq];omega)|simp only[ap,Nat.reduceAdd]) only[go_sem,hix,bp,bk])
        all_goals first|omega|contradiction|rfl
       ·have hen:=hen (if_neg λh=>ht h.2);have hf:=hf ht;by_cases c1:0<=bV names x.text
        ·rw[if_pos c1]at s1 hf;subst hf
         repeat' (first|(with_reducible first|refine ac ?_|refine ab ‹_› rfl ?_|refine ai (λhbr=>?_) λhbr=>?_)|simp(disch:=first|omega|(simp only[aq];omega)|simp only[ap,Nat.reduceAdd]) only[go_sem,hix,bp,bk])
         all_goals first|omega|contradiction|exact fin _ _ (by rw[s1]) (by rw[s1]) hen
        ·rw[if_neg c1]at s1 hf;by_cases c2:0<=bV F x.text
         ·rw[if_pos c2]at s1 hf
          repeat' (first|(with_reducible first|refine ac ?_|refine ab ‹_› rfl ?_|refine ai (λhbr=>?_) λhbr=>?_)|simp(disch:=first|omega|(simp only[aq];omega)|simp only[ap,Nat.reduceAdd]) only[go_sem,hix,bp,bk])
          all_goals first|omega|contradiction|exact fin _ _ (by rw[s1]) (by rw[s1,hf]) hen
         ·rw[if_neg c2]at s1 hf
          repeat' (first|(with_reducible first|refine ac ?_|refine ab ‹_› rfl ?_|refine ai (λhbr=>?_) λhbr=>?_)|simp(disch:=first|omega|(simp only[aq];omega)|simp only[ap,Nat.reduceAdd]) only[go_sem,hix,bp,bk])
          all_goals first|omega|contradiction|exact fin _ _ (by rw[s1,List.append_assoc]) (by rw[s1];exact congrArg (λz=>O++[z]) (by omega)) hen
     ·obtain rfl:i=its.length:=by omega
      have hfs:=wS hok;have hp:qh n names its=((wY n names its).2,eW):=by unfold qh;rw[hfs]
      rw[List.take_length,hp]
      repeat' (first|(with_reducible first|refine ac ?_|refine ab ‹_› rfl ?_|refine ai (λhbr=>?_) λhbr=>?_)|simp(disch:=first|omega|(simp only[aq];omega)|simp only[ap,Nat.reduceAdd]) only[go_sem,true_and])
      all_goals first|omega|rfl
def RP(l:List Int)(i:Nat):Option Int:=if((i+1:Nat):Int)∈l then none else some ((i+1:Nat):Int)
def hZ(n:Nat)(l:List Int):List Int:=(List.range n).filterMap (RP l)
def KC:aX->List ByteArray->aX
 |.mk k its ps ns _ lv c e,cl=>.mk k its ps ns cl lv c e
def rt:aX->Nat
 |.mk _ its ps _ _ _ _ _=>its.length+ps.length
def S4:aX->List ByteArray
 |.mk _ _ _ _ cl _ _ _=>cl
def Bf(v:aX)(l:List Int):aX:=KC (gQ v (hZ (rt v) l)) (S4 v)
theorem zY(n:Nat)(l:List Int):hZ (n+1) l=hZ n l++(if((n+1:Nat):Int)∈l then none else some ((n+1:Nat):Int)).toList:=yP _ _
theorem Gm{n:Nat}{l:List Int}(h:((n+1:Nat):Int)∈l):hZ (n+1) l=hZ n l:=by rw[zY,if_pos h];simp
theorem Dg{n:Nat}{l:List Int}(h:¬((n+1:Nat):Int)∈l):hZ (n+1) l=hZ n l++[((n+1:Nat):Int)]:=by rw[zY,if_neg h];simp
theorem oQ(n:Nat)(l:List Int):(hZ n l).length<=n:=Nat.le_trans (List.length_filterMap_le _ _) (by simp)
theorem Jx{n:Nat}{l:List Int}:∀p∈hZ n l,1<=p/\p<=n:=by
 intro p hp;unfold hZ at hp;obtain⟨i,hi,h⟩:=List.mem_filterMap.1 hp;have hi:=List.mem_range.1 hi;unfold RP at h;split at h
 ·exact absurd h (by simp)
 ·have:=Option.some.inj h;omega
theorem Ag{l:List Int}{i:Int}:bP (λj=>!decide (l.getD j default=i)) l.length=true↔¬i∈l:=by
 rw[aV];constructor
 ·intro h hi;obtain⟨j,hj,e⟩:=List.getElem_of_mem hi;have:=h j hj;rw[show l.getD j default=i by rw[List.getD_eq_getElem?_getD,List.getElem?_eq_getElem hj,e];rfl]at this;simp at this
 ·intro h j hj;have:l.getD j default∈l:=aG hj;simp only[Bool.not_eq_true',decide_eq_false_iff_not];intro e;exact h (e▸this)
set_option maxHeartbeats 2000000 in
theorem Q3{k:Int}{its:List It}{ps:List aX}{ns cl lv:List ByteArray}{c e:Int}(hv:gZ 3 (.mk k its ps ns cl lv c e)=true)(hw:ck (.mk k its ps ns cl lv c e)<=1000000000)(hk:1<=k/\k<=4)(l:List Int)(hl:l.length<=1000000):
 aI Try.prog 27 [(true,aj (.mk k its ps ns cl lv c e)),(false,[bC l])] [(true,aj (Bf (.mk k its ps ns cl lv c e) l),true)]:=by
 have h:=vf hv;obtain⟨b1,b2,b3,b4,b5,b6⟩:=rU hw;have g2:=gX k its ps ns cl lv c e (rU hw);have hn1:dX k its.length ps.length=((its.length+ps.length:Nat):Int):=by unfold dX;rw[if_neg (by omega)];omega
 have hn2:its.length+ps.length<=80:=by have:=h.il;have:=h.pl;omega
 rw[hn1]at g2;unfold Bf;rw[show rt (.mk k its ps ns cl lv c e)=its.length+ps.length from rfl,show S4 (.mk k its ps ns cl lv c e)=cl from rfl];generalize its.length+ps.length=n at g2 hn2;have g3:=Ol hv hw hk (hZ n l) (by have:=oQ n l;omega) (λp hp=>by have:=Jx p hp;omega);clear hn1;generalize hP:gQ (.mk k its ps ns cl lv c e) (hZ n l)=P at g3;obtain⟨K,I,PS,N,CL,LV,C,E⟩:=P;simp only[KC,aj,af,bC,av]at g2 g3 ⊢;refine ah Try.func27 rh rfl ?_;simp only[jg];simp(disch:=first|omega|(simp only[aq];omega)|simp only[ap,Nat.reduceAdd]) only[go_sem,true_and];refine lp (λj:Nat=>[.sc (.int .i64 ((j+1:Nat):Int)),.sl 3 1 ((hZ j l).map dD)]) (λj=>j<=n) (λj=>n-j) 0 rfl (Nat.zero_le _) ?_;intro j hj;simp only[iK];by_cases hlt:j<n
 ·have d1:=Gm (n:=j) (l:=l);have d2:=Dg (n:=j) (l:=l);have d3:=oQ j l
  repeat' (first|(with_reducible first|refine ac ?_|refine ab ‹_› rfl ?_|refine ai (λhbr=>?_) λhbr=>?_)|simp(disch:=first|omega|(simp only[aq];omega)|simp only[ap,Nat.reduceAdd]) only[go_sem,b8])
  all_goals first|omega|skip
  all_goals refine lp (λq:Nat=>[.sc (.int .i64 q),.sc (.bool (bP (λr=>!decide (l.getD r default=((j+1:Nat):Int))) q))]) (λq=>q<=l.length) (λq=>l.length-q) 0 rfl (Nat.zero_le _) ?_
  all_goals
   intro q hq;simp only[ij];by_cases hql:q<l.length
   ·have hz:=sC (t:=3) (l:=l) (kd:=.i64) (z:=(q:Int)) (by omega) (by omega);rw[Int.toNat_natCast]at hz;have sb:=iW (λr=>!decide (l.getD r default=((j+1:Nat):Int))) q;generalize l.getD q default=x at hz sb
    cases hb:bP (λr=>!decide (l.getD r default=((j+1:Nat):Int))) q with
    |false=>
     rw[hb,Bool.false_and]at sb
     repeat' (first|(with_reducible first|refine ac ?_|refine ab ‹_› rfl ?_|refine ai (λhbr=>?_) λhbr=>?_)|simp(disch:=first|omega|(simp only[aq];omega)|simp only[ap,Nat.reduceAdd]) only[go_sem,hz,b8])
     all_goals first|omega|contradiction|exact⟨q+1,by rw[sb],by omega,by omega⟩
    |true=>
     rw[hb,Bool.true_and]at sb
     repeat' (first|(with_reducible first|refine ac ?_|refine ab ‹_› rfl ?_|refine ai (λhbr=>?_) λhbr=>?_)|simp(disch:=first|omega|(simp only[aq];omega)|simp only[ap,Nat.reduceAdd]) only[go_sem,hz,b8])
     all_goals first|omega|contradiction|exact⟨q+1,by rw[sb],by omega,by omega⟩|exact⟨q+1,by rw[sb];simp,by omega,by omega⟩|(trace_state;sorry)
   ·obtain rfl:q=l.length:=by omega
    have hni:=Ag (l:=l) (i:=((j+1:Nat):Int))
    cases hb:bP (λr=>!decide (l.getD r default=((j+1:Nat):Int))) l.length with
    |false=>
     have d1:=d1 (Decidable.not_not.1 λe=>absurd (hni.2 e) (by rw[hb];decide))
     repeat' (first|(with_reducible first|refine ac ?_|refine ab ‹_› rfl ?_|refine ai (λhbr=>?_) λhbr=>?_)|simp(disch:=first|omega|(simp only[aq];omega)|simp only[ap,Nat.reduceAdd]) only[go_sem,b8])
     all_goals first|omega|contradiction|exact⟨j+1,by rw[d1],by omega,by omega⟩|(trace_state;sorry)
    |true=>
     have d2:=d2 (hni.1 hb)
     repeat' (first|(with_reducible first|refine ac ?_|refine ab ‹_› rfl ?_|refine ai (λhbr=>?_) λhbr=>?_)|simp(disch:=first|omega|(simp only[aq];omega)|simp only[ap,Nat.reduceAdd]) only[go_sem,b8])
     all_goals first|omega|contradiction|exact⟨j+1,by rw[d2],by omega,by omega⟩|(trace_state;sorry)
 ·obtain rfl:j=n:=by omega
  repeat' (first|(with_reducible first|refine ac ?_|refine ab ‹_› rfl ?_|refine ai (λhbr=>?_) λhbr=>?_)|simp(disch:=first|omega|(simp only[aq];omega)|simp only[ap,Nat.reduceAdd]) only[go_sem,true_and])
  all_goals first|omega|rfl
def ro(n:Nat)(l:List Int):List Bool:=l.foldl (λd (p:Int)=>if p<=(n:Int)then d.set p.toNat true else d) (List.replicate (n+1) false)
theorem Ge(n:Nat):∀(l:List Int) (d:List Bool),(l.foldl (λd (p:Int)=>if p<=(n:Int)then d.set p.toNat true else d) d).length=d.length
 |[],d=>rfl
 |p::l,d=>by rw[List.foldl_cons,Ge n l];split<;>simp
theorem FG(n i:Nat)(hi:i<=n):∀(l:List Int) (d:List Bool),(∀p∈l,0<=p)->d.length=n+1->(l.foldl (λd (p:Int)=>if p<=(n:Int)then d.set p.toNat true else d) d).getD i default=(d.getD i default||decide ((i:Int)∈l))
 |[],d,_,_=>by simp
 |p::l,d,h,hd=>by
  have h0:=h p (List.mem_cons_self ..);rw[List.foldl_cons,FG n i hi l _ (λq hq=>h q (List.mem_cons_of_mem _ hq)) (by split<;>simp[hd])];by_cases hp:p<=n
  ·rw[if_pos hp];by_cases he:(i:Int)=p
   ·subst he;have hlt:i<d.length:=by omega
    rw[List.getD_eq_getElem?_getD,Int.toNat_natCast,List.getElem?_set_self hlt];simp
   ·have:p.toNat≠i:=by omega
    simp[List.getD_eq_getElem?_getD,List.getElem?_set,this,he]
  ·rw[if_neg hp];have:(i:Int)≠p:=by omega
   simp[this]
theorem Lc{n i:Nat}{l:List Int}(hi:i<=n)(h:∀p∈l,0<=p):(ro n l).getD i default=decide ((i:Int)∈l):=by
 unfold ro;rw[FG n i hi l _ h (by simp)];have:(List.replicate (n+1) false).getD i default=false:=by rw[List.getD_eq_getElem?_getD,List.getElem?_replicate];split<;>rfl
 rw[this,Bool.false_or]
theorem Hx{n i:Nat}{l:List Int}(h:i<l.length):ro n (l.take (i+1))=if l.getD i default<=(n:Int)then(ro n (l.take i)).set (l.getD i default).toNat true else ro n (l.take i):=by
 unfold ro;rw[bm h,List.foldl_append];rfl
theorem Dx(n:Nat)(l:List Int):(ro n l).length=n+1:=by unfold ro;rw[Ge,List.length_replicate]
set_option maxHeartbeats 2000000 in
theorem Qj{its:List It}{ps:List aX}{ns cl lv:List ByteArray}{c e:Int}(hv:gZ 3 (.mk 4 its ps ns cl lv c e)=true)(hw:ck (.mk 4 its ps ns cl lv c e)<=1000000000)(l:List Int)(hl:l.length<=1000000)(hr:∀p∈l,0<=p):
 aI Try.prog 17 [(true,aj (.mk 4 its ps ns cl lv c e)),(false,[bC l])] [(true,aj (Bf (.mk 4 its ps ns cl lv c e) l),true)]:=by
 have h:=vf hv;obtain⟨b1,b2,b3,b4,b5,b6⟩:=rU hw;have g2:=jM 4 its ps ns cl lv c e (rU hw);have hi4:its=[]:=h.i0 (.inr (.inl rfl));have hl4:lv=[]:=h.l0 (by decide);have hpl:=h.pl;have hnl:=h.nl;subst hi4 hl4;have hn1:dX 4 ([]:List It).length ps.length=(ps.length:Int):=by unfold dX;rw[if_neg (by decide)];simp
 rw[hn1]at g2;have g1:=l8 cl (by omega);have g0:=jM 4 [] [] [] [] [] 0 0 ⟨by simp,by simp,by simp,by simp,by simp,by simp⟩;simp only[Bf,gQ,KC,rt,S4,if_true,List.length_nil,Nat.zero_add];simp only[aj,af,bC,av,List.map_nil]at g0 g1 g2 ⊢;refine ah Try.func17 tF rfl ?_;simp only[kf]
 repeat' (first|(with_reducible first|refine ac ?_|refine ab ‹_› rfl ?_|refine ai (λhbr=>?_) λhbr=>?_)|simp(disch:=first|omega|(simp only[aq];omega)|simp only[ap,Nat.reduceAdd]) only[go_sem,true_and])
 all_goals first|omega|skip
 refine lp (λi:Nat=>[.sc (.int .i64 i),.sl 4 1 ((ro ps.length (l.take i)).map iH)]) (λi=>i<=l.length) (λi=>l.length-i) 0 (by rw[show(ro ps.length (l.take 0)).map iH=List.replicate (ps.length+1) [.sc (.bool false)]from List.map_replicate ..];rfl) (Nat.zero_le _) ?_;intro i hi;simp only[jc];have hdl:=Dx ps.length (l.take i);by_cases hlt:i<l.length
 ·have hz:=sC (t:=3) (l:=l) (kd:=.i64) (z:=(i:Int)) (by omega) (by omega);rw[Int.toNat_natCast]at hz;have s1:=Hx (n:=ps.length) hlt;have hp0:=hr _ (aG hlt);generalize l.getD i default=p at hz s1 hp0;by_cases hp:p<=(ps.length:Int)
  ·have hst:zv 1 0 (some (.sl 4 1 ((ro ps.length (l.take i)).map iH))) (some (.sc (.int .i64 p))) (some [.sc (.bool true)])=some [.sl 4 1 (((ro ps.length (l.take i)).set p.toNat true).map iH)]:=by
    rw[gl (e:=iH) (λ_=>rfl) hp0 (by omega) rfl,List.map_set];rfl
   rw[if_pos hp]at s1;rw[<-s1]at hst
   repeat' (first|(with_reducible first|refine ac ?_|refine ab ‹_› rfl ?_|refine ai (λhbr=>?_) λhbr=>?_)|simp(disch:=first|omega|(simp only[aq];omega)|simp only[ap,Nat.reduceAdd]) only[go_sem,hz,hst,eS])
   all_goals first|omega|exact⟨i+1,rfl,by omega,by omega⟩|(trace_state;sorry)
  ·rw[if_neg hp]at s1
   repeat' (first|(with_reducible first|refine ac ?_|refine ab ‹_› rfl ?_|refine ai (λhbr=>?_) λhbr=>?_)|simp(disch:=first|omega|(simp only[aq];omega)|simp only[ap,Nat.reduceAdd]) only[go_sem,hz,eS])
   all_goals first|omega|exact⟨i+1,by rw[s1],by omega,by omega⟩|(trace_state;sorry)
 ·obtain rfl:i=l.length:=by omega
  rw[List.take_length]at*
  repeat' (first|(with_reducible first|refine ac ?_|refine ab ‹_› rfl ?_|refine ai (λhbr=>?_) λhbr=>?_)|simp(disch:=first|omega|(simp only[aq];omega)|simp only[ap,Nat.reduceAdd]) only[go_sem,true_and])
  all_goals first|omega|skip
  have hdg:∀j,j<=ps.length->(ro ps.length l).getD j default=decide ((j:Int)∈l):=λj hj=>Lc hj hr
  refine lp (λi:Nat=>[.sc (.int .i64 i),.sl 9 1 ((if ns=[]then[]else(hZ i l).map (co ns iY)).map bQ),.sl 28 8 (((hZ i l).map (co ps (fV 0 []))).map aj)]) (λi=>i<=ps.length) (λi=>ps.length-i) 0 (by by_cases hn:ns=[]<;>simp[hn,hZ,gL]) (Nat.zero_le _) ?_;intro i hi;simp only[jx];by_cases hlt:i<ps.length
  ·have hb:=hdg (i+1) (by omega);have hdl:=Dx ps.length l;have hix:d6 8 (some (.sl 28 8 (ps.map aj))) (some (.sc (.int .i64 (i:Int))))=some (aj (ps.getD (i:Int).toNat default)):=py (by omega) (by omega);have hbx:d6 1 (some (.sl 4 1 ((ro ps.length l).map iH))) (some (.sc (.int .i64 ((i+1:Nat):Int))))=some [.sc (.bool ((ro ps.length l).getD ((i+1:Nat):Int).toNat default))]:=fc (λ_=>rfl) (by omega) (by omega);rw[Int.toNat_natCast]at hix hbx;rw[hb]at hbx;have hm:=aG hlt;have hc:=vp _ (b6 _ hm);have d1:=Gm (n:=i) (l:=l);have d2:=Dg (n:=i) (l:=l);have d3:=oQ i l;have e2:=kO (l:=ps) (d:=fV 0 []) (p:=((i+1:Nat):Int)) (by omega) (by omega);have e3:=λh=>kO (l:=ns) (d:=iY) (p:=((i+1:Nat):Int)) (by omega) h
   rw[show(((i+1:Nat):Int)-1).toNat=i by omega]at e2;simp only[show(((i+1:Nat):Int)-1).toNat=i by omega]at e3;have hap:=fE (t:=28) (ti:=42) (l:=(hZ i l).map (co ps (fV 0 []))) (v:=ps.getD i default) (by simp;omega);generalize ps.getD i default=x at hix hc hap e2;obtain⟨x0,x1,x2,x3,x4,x5,x6,x7⟩:=x;simp only[aj,af,av]at hc hix hap;by_cases hin:((i+1:Nat):Int)∈l
   ·rw[decide_eq_true hin]at hbx;have d1:=d1 hin
    repeat' (first|(with_reducible first|refine ac ?_|refine ab ‹_› rfl ?_|refine ai (λhbr=>?_) λhbr=>?_)|simp(disch:=first|omega|(simp only[aq];omega)|simp only[ap,Nat.reduceAdd]) only[go_sem,hix,hbx,hap,dz])
    all_goals first|omega|exact⟨i+1,by rw[d1],by omega,by omega⟩|(trace_state;sorry)
   ·rw[decide_eq_false hin]at hbx;have d2:=d2 hin;have hM:(hZ i l).map (co ps (fV 0 []))++[aX.mk x0 x1 x2 x3 x4 x5 x6 x7]=(hZ (i+1) l).map (co ps (fV 0 [])):=by rw[d2,List.map_append,List.map_singleton,e2]
    by_cases hn:ns=[]
    ·subst hn
     repeat' (first|(with_reducible first|refine ac ?_|refine ab ‹_› rfl ?_|refine ai (λhbr=>?_) λhbr=>?_)|simp(disch:=first|omega|(simp only[aq];omega)|simp only[ap,Nat.reduceAdd]) only[go_sem,hix,hbx,hap,dz])
     all_goals first|omega|exact⟨i+1,by rw[hM],by omega,by omega⟩|(trace_state;sorry)
    ·have hnn:ns.length=ps.length:=by rcases hnl with h|h;exact absurd h hn;simpa using h.2
     have hns:=Cd (t:=9) (l:=ns) (kd:=.i64) (z:=(i:Int)) (by omega) (by omega);rw[Int.toNat_natCast]at hns;have e3:=e3 (by omega);have hN:(hZ i l).map (co ns iY)++[ns.getD i default]=(hZ (i+1) l).map (co ns iY):=by rw[d2,List.map_append,List.map_singleton,e3]
     simp only[if_neg hn]
     repeat' (first|(with_reducible first|refine ac ?_|refine ab ‹_› rfl ?_|refine ai (λhbr=>?_) λhbr=>?_)|simp(disch:=first|omega|(simp only[aq];omega)|simp only[ap,Nat.reduceAdd]) only[go_sem,hix,hbx,hap,hns,dz])
     all_goals first|omega|exact⟨i+1,by rw[hM,hN],by omega,by omega⟩|(trace_state;sorry)
  ·obtain rfl:i=ps.length:=by omega
   have g3:=AZ 4 [] ((hZ ps.length l).map (co ps (fV 0 []))) (if ns=[]then[]else(hZ ps.length l).map (co ns iY)) cl [] 0 0 (by have:=oQ ps.length l;split<;>simp;omega);simp only[aj,af,av,List.map_nil]at g3
   repeat' (first|(with_reducible first|refine ac ?_|refine ab ‹_› rfl ?_|refine ai (λhbr=>?_) λhbr=>?_)|simp(disch:=first|omega|(simp only[aq];omega)|simp only[ap,Nat.reduceAdd]) only[go_sem,true_and])
   all_goals first|omega|skip
   refine gY (f:=52) (bits:=1) (by decide) g3 rfl ?_
   repeat' (first|(with_reducible first|refine ac ?_|refine ab ‹_› rfl ?_|refine ai (λhbr=>?_) λhbr=>?_)|simp(disch:=first|omega|(simp only[aq];omega)|simp only[ap,Nat.reduceAdd]) only[go_sem,true_and])
   all_goals first|omega|rfl|(trace_state;sorry)
theorem IS{n m:Nat}(h:n<=m){v:aX}(hv:gZ n v=true):gZ m v=true:=by
 induction m with
 |zero=>obtain rfl:n=0:=by omega
        exact hv
 |succ m ih=>
  by_cases he:n=m+1
  ·rw[<-he];exact hv
  ·exact qz m v (ih (by omega))
theorem sv{α:Type}(f:α->Nat):∀l:List α,C1 f l=bg f l
 |[]=>rfl
 |x::l=>by rw[C1,sv f l];simp[bg]
theorem ep{l:List ByteArray}{m:Nat}(h:∀x∈l,x.size<=60)(hl:l.length<=m):qe l<=m*61:=by
 have h1:C1 ByteArray.size l<=l.length*60:=by
  rw[sv];exact fG ByteArray.size 60 l h
 unfold qe;omega
theorem wT{l:List It}{m:Nat}(h:∀x∈l,x.text.size<=60)(hl:l.length<=m):iT l<=m*61:=by
 have h1:bg yE l<=l.length*60:=fG yE 60 l h;unfold iT;omega
theorem l6{l:List ByteArray}(h:GM l=true){x:ByteArray}(hx:x∈l):x.size<=60:=by
 unfold GM at h;simp only[Bool.and_eq_true]at h;obtain⟨j,hj,rfl⟩:=List.mem_iff_getElem.1 hx;have:=aV.1 h.2 j hj;unfold pi at this;rw[decide_eq_true_eq,List.getD_eq_getElem?_getD,List.getElem?_eq_getElem hj]at this;exact Int.ofNat_le.1 this
theorem pd{l:List ByteArray}{m:Int}(h:iR l m=true):(l.length:Int)<=m:=by
 unfold iR at h;simp only[Bool.and_eq_true,decide_eq_true_eq]at h;exact h.1
theorem yd{α:Type}(f g:α->Nat)(c:Nat):∀l:List α,(∀x∈l,f x<=c*(1+g x))->bg f l<=c*(l.length+bg g l)
 |[],_=>by simp[bg]
 |x::l,h=>by
  have h1:=h x (List.mem_cons_self ..);have h2:=yd f g c l λy hy=>h y (List.mem_cons_of_mem _ hy)
  have e1:bg f (x::l)=f x+bg f l:=by simp[bg]
  have e2:bg g (x::l)=g x+bg g l:=by simp[bg]
  have e3:c*((x::l).length+bg g (x::l))=c*(1+g x)+c*(l.length+bg g l):=by rw[e2,List.length_cons,<-Nat.mul_add];congr 1;omega
  omega
theorem VF.nlen{k:Int}{its:List It}{ps:List aX}{ns cl lv:List ByteArray}{c e:Int}(h:VF k its ps ns cl lv c e):ns.length<=80:=by
 have:=h.il;have:=h.pl;rcases h.nl with e|e
 ·rw[e];simp
 ·omega
theorem TL:∀(n:Nat),n<=3->∀v,gZ n v=true->ck v<=20000*(1+rG n v):=by
 intro n
 induction n with
 |zero=>
  rintro hn ⟨k,its,ps,ns,cl,lv,c,e⟩ hv;have h:=vf (IS (m:=3) hn hv)
  have hp:ps=[]:=by
   rw[eI,Bool.and_eq_true]at hv
   cases ps with
   |nil=>rfl
   |cons p r=>have:=aV.1 hv.2 0 (by simp);cases this
  have a1:=wT (λx hx=>fD (h.it x hx)) h.il;have a2:=ep (λx hx=>l6 h.nm hx) h.nlen;have a3:=ep (l:=cl) (m:=3) (λx hx=>dN h.lc hx) (by have:=pd h.lc;omega);have a4:=ep (l:=lv) (m:=20) (λx hx=>dN h.lb hx) (by have:=pd h.lb;omega);rw[eV,hp];have e2:bg ck []=0:=rfl
  rw[e2];simp only[List.length_nil];omega
 |succ n ih=>
  rintro hn ⟨k,its,ps,ns,cl,lv,c,e⟩ hv;have h:=vf (IS (m:=3) hn hv);have a1:=wT (λx hx=>fD (h.it x hx)) h.il;have a2:=ep (λx hx=>l6 h.nm hx) h.nlen;have a3:=ep (l:=cl) (m:=3) (λx hx=>dN h.lc hx) (by have:=pd h.lc;omega);have a4:=ep (l:=lv) (m:=20) (λx hx=>dN h.lb hx) (by have:=pd h.lb;omega)
  have hk:∀p∈ps,gZ n p=true:=λp hp=>by
   rw[eI,Bool.and_eq_true]at hv;obtain⟨j,hj,rfl⟩:=List.mem_iff_getElem.1 hp;have h3:gZ n (ps.getD j default)=true:=aV.1 hv.2 j hj
   rwa [List.getD_eq_getElem?_getD,List.getElem?_eq_getElem hj]at h3
  have a5:=yd ck (rG n) 20000 ps λp hp=>ih (by omega) p (hk p hp)
  have a6:ps.length+bg (rG n) ps<=rG (n+1) (.mk k its ps ns cl lv c e):=by
   rw[gp];have h1:jY (n+1)=rG n:=rfl;rw[h1];by_cases h4:k=4
   ·unfold dX;rw[if_neg (by omega)];omega
   ·rw[h.p0 h4];simp[bg]
  have a7:20000*(ps.length+bg (rG n) ps)<=20000*rG (n+1) (.mk k its ps ns cl lv c e):=Nat.mul_le_mul_left _ a6;have a8:=h.pl;rw[eV,Nat.mul_add];omega
theorem FM{v:aX}(h:cd v=true):rG 3 v<=200:=by unfold cd at h;simp only[Bool.and_eq_true,decide_eq_true_eq]at h;omega
theorem Ci{v:aX}(h:cd v=true):ck v<=4020000:=by
 have h1:=TL 3 (by omega) v (ek h);have h2:=FM h;have h3:20000*(1+rG 3 v)<=20000*201:=Nat.mul_le_mul_left _ (by omega);omega
theorem KX{k:Int}{its:List It}{ps:List aX}{ns cl lv:List ByteArray}{c e:Int}(h1:∀x∈its,x.text.size<=60)(h2:its.length<=200)(h3:∀p∈ps,ck p<=4020000)(h4:ps.length<=200)
 (h5:∀x∈ns,x.size<=60) (h6:ns.length<=200) (h7:∀x∈cl,x.size<=60) (h8:cl.length<=200) (h9:∀x∈lv,x.size<=60) (h10:lv.length<=200):ck (.mk k its ps ns cl lv c e)<=900000000:=by
 have a1:=wT h1 h2;have a2:=ep h5 h6;have a3:=ep h7 h8;have a4:=ep h9 h10;have a5:=fG ck 4020000 ps h3;have a6:ps.length*4020000<=200*4020000:=Nat.mul_le_mul_right _ h4;rw[eV];omega
theorem NK{k:Int}{its:List It}{ps:List aX}{ns cl lv:List ByteArray}{c e:Int}(h1:∀x∈its,x.text.size<=60)(h2:its.length<=200)(h3:∀p∈ps,ck p<=4020000)(h4:ps.length<=200)
 (h5:∀x∈ns,x.size<=60) (h6:ns.length<=200) (h7:∀x∈cl,x.size<=60) (h8:cl.length<=200) (h9:∀x∈lv,x.size<=60) (h10:lv.length<=200):ck (.mk k its ps ns cl lv c e)<=1000000000:=Nat.le_trans (KX h1 h2 h3 h4 h5 h6 h7 h8 h9 h10) (by decide)
theorem Lj{k:Int}{x:It}(h:x.text.size<=60):ck (fV k [x])<=4020000:=by
 have:=pW (k:=k) (its:=[x]) (λy hy=>by rw[List.mem_singleton.1 hy];omega) (by simp);omega
theorem vj{k:Int}:ck (fV k [])<=4020000:=by
 have:=pW (k:=k) (its:=[]) (λy hy=>by cases hy) (by simp);omega
theorem ET(s:ByteArray):(vr s).text=s:=rfl
theorem Dk{k m:Int}{x:It}(h:x.text.size<=60):(cvI k m x).text.size<=60:=by
 have:=FN x;unfold cvI;split
 ·exact h
 split
 ·rw[ET];omega
 split
 ·rw[ET];decide
 ·rw[ET];decide
structure VW(k:Int)(its:List It)(ps:List aX)(ns cl lv:List ByteArray)(c e:Int):Prop extends VF k its ps ns cl lv c e where
 vc:cd (.mk k its ps ns cl lv c e)=true
 wk:∀p∈ps,ck p<=4020000
 wt:ck (.mk k its ps ns cl lv c e)<=4020000
 l40:its.length+ps.length<=40
 c3:cl.length<=3
 l20:lv.length<=20
theorem vw{k:Int}{its:List It}{ps:List aX}{ns cl lv:List ByteArray}{c e:Int}(h:cd (.mk k its ps ns cl lv c e)=true):VW k its ps ns cl lv c e:=by
 have h1:=vf (ek h);have h2:=Ci h;refine{toVF:=h1,vc:=h,wk:=λp hp=>?_,wt:=h2,l40:=?_,c3:=by have:=pd h1.lc;omega,l20:=by have:=pd h1.lb;omega}
 ·have:=Ak ck hp;rw[eV]at h2;omega
 ·have h3:=ek h;rw[eI,Bool.and_eq_true]at h3;have h4:=D9 h3.1;unfold dX at h4;split at h4
  ·rw[h1.i0 (by omega),h1.p0 (by omega)];simp
  ·omega
theorem FZ{k:Int}{its:List It}{ps:List aX}{ns cl lv:List ByteArray}{c e:Int}(h:VW k its ps ns cl lv c e)(m:Int):ck (nv (.mk k its ps ns cl lv c e) m)<=1000000000:=by
 have h40:=h.l40;have hn:=h.nlen;unfold nv;refine NK ?_ ?_ ?_ ?_ (λx hx=>l6 h.nm hx) (by omega) (by simp) (by simp) (by simp) (by simp)
 ·split
  ·simp
  ·intro x hx;obtain⟨y,hy,rfl⟩:=List.mem_map.1 hx;exact Dk (fD (h.it y hy))
 ·split<;>simp;omega
 ·split
  ·split
   ·intro p hp;rw[List.mem_singleton.1 hp];exact h.wt
   ·intro p hp;rcases List.mem_append.1 hp with hp|hp
    ·exact h.wk p hp
    ·obtain⟨y,hy,rfl⟩:=List.mem_map.1 hp;exact Lj (fD (h.it y hy))
  ·simp
 ·split
  ·split<;>simp;omega
  ·simp
theorem LR{k m:Int}{x:It}(h:ry k x=true)(hm:1<=k/\k<=m)(hm3:m<=3):ry m (cvI k m x)=true:=by
 unfold cvI;by_cases h0:x=bA
 ·rw[if_pos (.inl h0)];unfold ry;simp[h0]
 by_cases hk:k=m
 ·rw[if_pos (.inr (.inl hk)),<-hk];exact h
 have h1:∀s:ByteArray,s.size<=60->m=3->ry m (vr s)=true:=λs hs e=>by
  unfold ry vr;rw[e];simp;right;exact Int.ofNat_le.2 hs
 split
 ·rename_i hh;have hm2:m=2:=by rcases hh with h|h|h<;>first|contradiction|omega
  have hk1:k=1:=by omega
  subst hm2 hk1;unfold ry at h ⊢;simp only[h0,decide_false,Bool.false_or,if_true,Bool.and_eq_true,decide_eq_true_eq]at h;obtain⟨b1,b2,b3⟩:=h;obtain⟨n,d,t⟩:=x;simp only at b1 b2 b3;subst b1 b3;have:n=0\/n=1:=by omega
  rcases this with rfl|rfl<;>decide
 split
 ·exact h1 _ (by have:=FN x;omega) (by omega)
 split
 ·exact h1 _ (by decide) (by omega)
 ·exact h1 _ (by decide) (by omega)
theorem EX{k:Int}{m:Nat}{x:It}(h:dd k m x=true):ry k x=true:=by unfold dd at h;simp only[Bool.and_eq_true]at h;exact h.1
theorem B5{k:Int}{x:It}(h:ry k x=true):dd k 0 x=true:=by unfold dd;simp[h]
theorem xw{n:Nat}{k:Int}{its:List It}{ps:List aX}{ns cl lv:List ByteArray}(hk:1<=k/\k<=4)(h40:its.length+ps.length<=40)(hn:ns=[]\/ns.length=its.length+ps.length)(hnm:GM ns=true)(hc:iR cl 3=true)(hlb:iR lv 20=true)(hl:k≠2->lv=[])(hp:k≠4->ps=[])(hi4:k=4->its=[])(hi:∀x∈its,dd k lv.length x=true)(hkd:∀p∈ps,tJ n ps=tJ n ps->∃n',n=n'+1/\gZ n' p=true):gZ n (.mk k its ps ns cl lv 0 0)=true:=by
 rw[eI,Bool.and_eq_true];constructor
 ·unfold ur gA gB gC dX;simp only[if_neg (show¬k=5 by omega),if_neg (show¬k=0 by omega),Bool.and_eq_true,Bool.or_eq_true,decide_eq_true_eq];refine⟨⟨⟨by omega,by omega⟩,by omega,?_,hnm,hc,hlb⟩,⟨by simp,?_,?_⟩,?_⟩
  ·rcases hn with rfl|h
   ·left;rfl
   ·right;omega
  ·by_cases h2:k=2
   ·exact .inl h2
   ·right;rw[hl h2];rfl
  ·by_cases h4:k=4
   ·exact .inl h4
   ·right;rw[hp h4];rfl
  ·split
   ·rename_i h4;rw[hi4 h4];simp
   ·exact aV.2 λj hj=>hi _ (aG hj)
 ·refine aV.2 λj hj=>?_
  obtain⟨n',rfl,h⟩:=hkd _ (aG hj) rfl;exact h
theorem wW{n:Nat}{ps:List aX}(h:ps=[]):∀p∈ps,tJ n ps=tJ n ps->∃n',n=n'+1/\gZ n' p=true:=by subst h;simp
theorem O0{n:Nat}{k:Int}{x:It}(hk:1<=k/\k<=3)(h:ry k x=true):gZ n (fV k [x])=true:=xw (by omega) (by simp) (.inl rfl) AP (dR (by decide)) (dR (by decide)) (λ_=>rfl) (λ_=>rfl) (λ_=>by omega) (λy hy=>by rw[List.mem_singleton.1 hy];exact B5 h) (wW rfl)
theorem GL{α β:Type}(f:β->Nat)(g:α->β)(l:List α):bg f (l.map g)=bg (λx=>f (g x)) l:=by unfold bg;rw[List.map_map];rfl
theorem uL{α:Type}(f:α->Nat)(l m:List α):bg f (l++m)=bg f l+bg f m:=by unfold bg;rw[List.map_append,List.sum_append]
theorem Ot(n:Nat)(k:Int)(its:List It):rG n (fV k its)=(dX k its.length 0).toNat:=by unfold fV;rw[gp];simp[bg]
theorem BE{k:Int}{its:List It}{ps:List aX}{ns cl lv:List ByteArray}{c e:Int}(h:VW k its ps ns cl lv c e){m:Int}(hm:k<=m\/k=5)(hm1:1<=m)(hm4:m<=4)(hm5:k=5->m=4):cd (nv (.mk k its ps ns cl lv c e) m)=true:=by
 have h40:=h.l40;have hk0:=h.k0
 have hivk:∀x∈its,1<=k/\k<=3:=λx hx=>by
  have:=h.i0;have:=h.k5;by_cases h1:k=0\/k=4\/k=5
  ·rw[h.i0 h1]at hx;cases hx
  ·omega
 have hce:=FM h.vc;rw[gp]at hce;unfold cd;rw[Bool.and_eq_true,decide_eq_true_eq];simp only[nv];by_cases h4:m=4
 ·rw[if_pos h4,if_pos h4];have hpl:k=5->ps=[]:=λh5=>h.p0 (by omega)
  have hil:k=5->its=[]:=λh5=>h.i0 (by omega)
  constructor
  ·refine xw (by omega) ?_ ?_ h.nm (dR (by decide)) (dR (by decide)) (λ_=>rfl) (λhh=>absurd h4 hh) (λ_=>rfl) (by simp) λp hp _=>⟨2,rfl,?_⟩
   ·split<;>simp;omega
   ·split
    ·rename_i h5;exact .inl (h.n5 (.inr h5))
    ·refine h.nl.imp id λhh=>?_
     simp;omega
   ·split at hp
    ·rename_i h5;rw[List.mem_singleton.1 hp];have h3:=ek h.vc;rw[eI,Bool.and_eq_true]at h3 ⊢;rw[hpl h5]at h3 ⊢;exact⟨h3.1,rfl⟩
    ·rcases List.mem_append.1 hp with hp|hp
     ·exact h.kd p hp
     ·obtain⟨y,hy,rfl⟩:=List.mem_map.1 hp;exact O0 (hivk y hy) (EX (h.it y hy))
  ·rw[gp];split
   ·rename_i h5;have:=hil h5;have:=hpl h5;subst this h5;subst this h4;simp[bg,jY,gp,dX]
   ·rw[uL,GL]
    have e1:∀x∈its,jY 3 (fV k [x])<=1:=λx hx=>by
     show rG 2 (fV k [x])<=1;rw[Ot];unfold dX;split<;>simp
    have e2:=fG (λx=>jY 3 (fV k [x])) 1 its e1;unfold dX at hce ⊢;rw[if_neg ‹_›]at hce;rw[if_neg (by omega)];simp only[List.length_nil,List.length_append,List.length_map];by_cases hk4:k=4
    ·have hi0:=h.i0 (.inr (.inl hk4));subst hi0;have e3:bg (λx=>jY 3 (fV k [x])) []=0:=rfl;rw[e3];simp only[List.length_nil]at *;omega
    ·have hp0:=h.p0 hk4;subst hp0;have e3:bg (jY 3) []=0:=rfl;rw[e3]at hce ⊢;simp only[List.length_nil]at *;omega
 ·rw[if_neg h4,if_neg h4];have hp0:=h.p0 (by omega);subst hp0;constructor
  ·refine xw (by omega) (by simp;simp at h40;omega) (h.nl.imp id λhh=>by simp at hh ⊢;omega) h.nm (dR (by decide)) (dR (by decide)) (λ_=>rfl) (λ_=>rfl) (λhh=>absurd hh h4) (λx hx=>?_) (wW rfl);obtain⟨y,hy,rfl⟩:=List.mem_map.1 hx;have:=hivk y hy;exact B5 (LR (EX (h.it y hy)) (by omega) (by omega))
  ·rw[gp];have e3:bg (jY 3) []=0:=rfl;rw[e3]at hce ⊢;unfold dX at hce ⊢;rw[if_neg (by omega)]at hce ⊢;simp only[List.length_nil,List.length_map]at *;omega
theorem Ga{n:Nat}{names:List ByteArray}(hn:names.length<=n):∀{l:List It} {s:List ByteArray×List Int},(∀p∈s.2,0<=p/\p<=(n:Int)+s.1.length)->∀p∈(l.foldl (jd n names) s).2,0<=p/\p<=(n:Int)+(l.foldl (jd n names) s).1.length
 |[],s,h=>h
 |x::l,s,h=>by
  rw[List.foldl_cons];refine Ga hn ?_;have r1:=en names x.text;have r2:=en s.1 x.text;unfold jd;split
  ·intro p hp;rcases List.mem_append.1 hp with hp|hp
   ·exact h p hp
   ·rw[List.mem_singleton.1 hp];simp only;omega
  split
  ·intro p hp;rcases List.mem_append.1 hp with hp|hp
   ·exact h p hp
   ·rw[List.mem_singleton.1 hp];simp only;omega
  split
  ·intro p hp;rcases List.mem_append.1 hp with hp|hp
   ·exact h p hp
   ·rw[List.mem_singleton.1 hp];simp only;omega
  ·intro p hp;simp only[List.length_append,List.length_cons,List.length_nil]at hp ⊢;rcases List.mem_append.1 hp with hp|hp
   ·have:=h p hp;omega
   ·rw[List.mem_singleton.1 hp];omega
theorem Ko{n:Nat}(hn:n<=40){its:List It}(hl:its.length<=40):(oc n its).1.length<=40/\∀p∈(oc n its).1,0<=p/\p<=80:=by
 unfold oc;split
 ·simp
 ·rename_i he;have hn1:∀x∈its,Af x=none:=List.findSome?_eq_none_iff.1 he;split
  ·simp
  split
  ·refine⟨?_,λp hp=>?_⟩
   ·exact Nat.le_trans (List.length_filter_le _ _) (by simp;exact hn)
   ·obtain⟨h1,-⟩:=List.mem_filter.1 hp;obtain⟨j,hj,rfl⟩:=List.mem_map.1 h1;have:=List.mem_range.1 hj;omega
  ·rename_i hm;refine⟨Nat.le_trans (List.length_filterMap_le _ _) hl,λp hp=>?_⟩;obtain⟨x,hx,h1⟩:=List.mem_filterMap.1 hp;have h2:=hn1 x hx;have h3:¬x.num<0:=λh=>hm (List.any_eq_true.2 ⟨x,hx,by unfold wo;simpa using h⟩)
   unfold rz at h1;unfold Af at h2;split at h1
   ·cases h1;split at h2
    ·cases h2
    ·split at h2
     ·omega
     ·cases h2
   ·cases h1
theorem oz{n:Nat}(hn:n<=40){names:List ByteArray}(hnm:names.length<=n)(s:aX):(dw n names s).1.length<=40/\∀p∈(dw n names s).1,0<=p/\p<=80:=by
 obtain⟨k,its,ps,ns,cl,lv,c,e⟩:=s;simp only[dw];by_cases hv:cd (.mk k its ps ns cl lv c e)=true
 ·rw[if_pos hv];have h:=vw hv;have hil:=h.il;split
  ·simp
  split
  ·exact Ko hn hil
  split
  ·unfold qh;split
   ·simp
   ·have h1:=@su n names its ([],[]);have h2:=@Ga n names hnm its ([],[]) (λp hp=>by cases hp);unfold wY;simp only[List.length_nil]at h1;refine⟨by simp only;omega,λp hp=>?_⟩;have:=h2 p hp;omega
  split
  ·unfold JY;split
   ·simp
   ·refine⟨Nat.le_trans (List.length_filterMap_le _ _) (by simp;omega),λp hp=>?_⟩;obtain⟨j,hj,h1⟩:=List.mem_filterMap.1 hp;have h2:=List.mem_range.1 hj;unfold zu at h1;split at h1
    ·cases h1;omega
    ·split at h1
     ·cases h1;omega
     ·cases h1
  ·simp
 ·rw[if_neg hv];simp
def lY:aX->Int|.mk k _ _ _ _ _ _ _=>k
def zk:aX->List ByteArray|.mk _ _ _ ns _ _ _ _=>ns
def MZ:aX->List ByteArray|.mk _ _ _ _ _ lv _ _=>lv
def GW:aX->List It|.mk _ its _ _ _ _ _ _=>its
def fN:aX->Nat|.mk k its ps _ _ _ _ _=>(dX k its.length ps.length).toNat
def MP:ByteArray:=⟨#[114,101,115,117,108,116,32,105,115,32,116,111,111,32,108,97,114,103,101]⟩
def Mm:ByteArray:=⟨#[110,111,116,32,97,32,118,101,99,116,111,114,32,111,102,32,101,108,101,109,101,110,116,115]⟩
def Uz:ByteArray:=⟨#[109,105,115,115,105,110,103,32,115,117,98,115,99,114,105,112,116]⟩
def OC:ByteArray:=⟨#[114,101,112,108,97,99,101,109,101,110,116,32,104,97,115,32,108,101,110,103,116,104,32,122,101,114,111]⟩
def QA:ByteArray:=⟨#[108,101,110,103,116,104,115,32,100,111,32,110,111,116,32,109,97,116,99,104]⟩
def PD:ByteArray:=⟨#[110,111,116,32,97,110,32,97,116,111,109,105,99,32,118,101,99,116,111,114]⟩
def pE(v:aX):aX×ByteArray:=if cd v=true then(v,eW)else(fV 0 [],MP)
def yW(v s:aX):aX×ByteArray:=
 if cd v=true then(if lY v=5 then(fV 0 [],Mm)else if(dw (rt v) (zk v) s).2≠eW then(fV 0 [],(dw (rt v) (zk v) s).2)else if lY v=0 then(fV 0 [],eW)else pE (gQ v (dw (rt v) (zk v) s).1))else(fV 0 [],G1)
theorem tB{α:Type}[Inhabited α]{l:List α}{d:α}{p:Int}:co l d p∈l\/co l d p=d:=by
 unfold co;split
 ·exact .inl (aG (by omega))
 ·exact .inr rfl
theorem DM{k:Int}{its:List It}{ps:List aX}{ns cl lv:List ByteArray}{c e:Int}(h:VW k its ps ns cl lv c e){l:List Int}(hl:l.length<=40):ck (gQ (.mk k its ps ns cl lv c e) l)<=900000000:=by
 have h40:=h.l40;have hc3:=h.c3;have hl20:=h.l20;simp only[gQ];refine KX ?_ ?_ ?_ ?_ ?_ ?_ ?_ ?_ ?_ ?_
 ·split
  ·simp
  ·intro x hx;obtain⟨y,hy,rfl⟩:=List.mem_map.1 hx;rcases tB (l:=its) (d:=bA) (p:=y)with h1|h1
   ·exact fD (h.it _ h1)
   ·rw[h1];decide
 ·split<;>simp;omega
 ·split
  ·intro p hp;obtain⟨y,hy,rfl⟩:=List.mem_map.1 hp;rcases tB (l:=ps) (d:=fV 0 []) (p:=y)with h1|h1
   ·exact h.wk _ h1
   ·rw[h1];exact vj
  ·simp
 ·split<;>simp;omega
 ·unfold rx;split
  ·simp
  ·split
   ·simp
   ·intro x hx;obtain⟨y,hy,rfl⟩:=List.mem_map.1 hx;rcases tB (l:=ns) (d:=iY) (p:=y)with h1|h1
    ·exact l6 h.nm h1
    ·rw[h1];decide
 ·unfold rx;split
  ·simp
  ·split<;>simp;omega
 ·split
  ·simp
  ·exact λx hx=>dN h.lc hx
 ·split<;>first|omega|simp
 ·split
  ·simp
  ·exact λx hx=>dN h.lb hx
 ·split<;>first|omega|simp
theorem Bm{k:Int}{its:List It}{ps:List aX}{ns cl lv:List ByteArray}{c e:Int}(h:VW k its ps ns cl lv c e){l:List Int}(hl:l.length<=40):ck (gQ (.mk k its ps ns cl lv c e) l)<=1000000000:=Nat.le_trans (DM h hl) (by decide)
def ru(l:List Int):Int:=l.foldl max 0
def b9{α:Type}(l:List α)(d:α)(n:Nat):List α:=l++List.replicate (n-l.length) d
def jT{α:Type}[Inhabited α](y:List α)(l:List Int):Nat->List α->List α
 |0,x=>x
 |i+1,x=>(jT y l i x).set (l.getD i default-1).toNat (y.getD (i % y.length) default)
def nD(s:List It)(l:List Int)(old:Nat):Nat->List ByteArray->List ByteArray
 |0,x=>x
 |i+1,x=>if(old:Int)<l.getD i default then(nD s l old i x).set (l.getD i default-1).toNat (s.getD i default).text else nD s l old i x
def UF(v:aX)(l:List Int):Nat:=max (rt v) (ru l).toNat
def DU(ns:List ByteArray)(l:List Int)(old T:Nat)(nm:Bool)(si:List It):List ByteArray:=if nm=true then nD si l old l.length (b9 ns ⟨#[]⟩ T)else if ns=[]then[]else b9 ns ⟨#[]⟩ T
def L0(K:Int)(l:List Int)(T:Nat)(ns' cl lv:List ByteArray):aX->aX->aX
 |.mk _ xi xp _ _ _ _ _,.mk _ yi yp _ _ _ _ _=>.mk K (if K=4 then[]else jT yi l l.length (b9 xi bA T)) (if K=4 then jT yp l l.length (b9 xp (fV 0 []) T)else[]) (rx ns') cl lv 0 0
def D1(v:aX)(l:List Int)(s w:aX):aX:=
 L0 (min 4 (max (lY v) (lY w))) l (UF v l) (DU (zk v) l (rt v) (UF v l) (decide (lY s=3)) (GW s)) (S4 v) (MZ v) (nv v (min 4 (max (lY v) (lY w)))) (nv w (min 4 (max (lY v) (lY w))))
def Fc(v:aX)(l:List Int)(s w:aX):aX×ByteArray:=if ru l<=40 then pE (D1 v l s w)else(fV 0 [],MP)
def D4(L:List ByteArray)(w:aX):aX:=if L≠[]then fV 2 ((wF (lY w) (MZ w) (GW w)).map (uo L))else if lY w<4 then fV (wl (lY w) (MZ w)) (Cm (MZ w) (GW w))else w
def Rl(v w:aX):aX:=D4 (MZ v) w
def AI(v s w:aX):aX×ByteArray:=
 if cd v=true/\cd w=true then
  if lY v=5 then(fV 0 [],Mm)else
  if(dw (rt v) (zk v) s).2≠eW then(fV 0 [],(dw (rt v) (zk v) s).2)else
  if 0∈(dw (rt v) (zk v) s).1 then(fV 0 [],Uz)else
  if lY v=4/\lY w=0 then(Bf v (dw (rt v) (zk v) s).1,eW)else
  if(dw (rt v) (zk v) s).1=[]then(v,eW)else
  if fN w=0 then(fV 0 [],OC)else
  if(dw (rt v) (zk v) s).1.length % fN w≠0 then(fV 0 [],QA)else
  if MZ v≠[]/\4<=lY w then(fV 0 [],PD)else Fc v (dw (rt v) (zk v) s).1 s (Rl v w)
 else(fV 0 [],G1)
section
variable {α:Type}[Inhabited α]
theorem gu(y:List α)(l:List Int)(x:List α):∀i,(jT y l i x).length=x.length
 |0=>rfl
 |i+1=>by rw[jT,List.length_set,gu y l x i]
theorem me(s:List It)(l:List Int)(old:Nat)(x:List ByteArray):∀i,(nD s l old i x).length=x.length
 |0=>rfl
 |i+1=>by
  rw[nD];split
  ·rw[List.length_set,me s l old x i]
  ·exact me s l old x i
theorem UQ{x:List α}{i j:Nat}{a:α}(hi:i<x.length):(x.set i a).getD j default=if i=j then a else x.getD j default:=by
 simp only[List.getD_eq_getElem?_getD,List.getElem?_set];split
 ·first|rfl|(rw[if_pos (by omega)];rfl)
 ·rfl
theorem Ti{x:List α}{i j:Nat}{a:α}(h:i≠j):(x.set i a).getD j default=x.getD j default:=by
 simp only[List.getD_eq_getElem?_getD,List.getElem?_set_ne h]
theorem FS(y:List α)(l:List Int)(x:List α){q:Nat}:∀i,(∀j,j<i->(l.getD j default-1).toNat≠q)->(jT y l i x).getD q default=x.getD q default
 |0,_=>rfl
 |i+1,h=>by
  rw[jT];have h1:=h i (by omega);have h2:=FS y l x i λj hj=>h j (by omega)
  rw[<-h2];exact Ti h1
theorem Ke(y:List α)(l:List Int)(x:List α){j:Nat}:∀i,(∀a,a<i->∀b,b<a->(l.getD a default-1).toNat≠(l.getD b default-1).toNat)->j<i->(l.getD j default-1).toNat<x.length->(jT y l i x).getD (l.getD j default-1).toNat default=y.getD (j % y.length) default
 |0,_,h,_=>by omega
 |i+1,hd,hj,hx=>by
  rw[jT];by_cases e:j=i
  ·subst e;rw[UQ (by rw[gu];exact hx),if_pos rfl]
  ·have h1:=hd i (by omega) j (by omega);have h2:=Ke y l x i (λa ha=>hd a (by omega)) (by omega) hx;rw[<-h2];exact Ti h1
theorem KG(l:List Int)(x y:List α):∀i,(∀a,a<i->y.getD (a % y.length) default=x.getD (l.getD a default-1).toNat default/\(l.getD a default-1).toNat<x.length)->jT y l i x=x
 |0,_=>rfl
 |i+1,h=>by
  obtain⟨h1,h2⟩:=h i (by omega);rw[jT,KG l x y i λa ha=>h a (by omega),h1];apply List.ext_getElem?;intro j;rw[List.getElem?_set];split
  ·rename_i e;subst e
   first|(rw[if_pos h2,List.getD_eq_getElem?_getD,List.getElem?_eq_getElem h2];rfl)|(rw[List.getD_eq_getElem?_getD,List.getElem?_eq_getElem h2];rfl)
  ·rfl
theorem JB(s:List It)(l:List Int)(old:Nat)(x:List ByteArray):∀i,(∀a,a<i->l.getD a default<=old)->nD s l old i x=x
 |0,_=>rfl
 |i+1,h=>by
  have h1:=h i (by omega);rw[nD,if_neg (by omega)];exact JB s l old x i λa ha=>h a (by omega)
theorem Bt:∀(l:List Int) (a:Int),a<=l.foldl max a/\(∀p∈l,p<=l.foldl max a)/\(∀b,a<=b->(∀p∈l,p<=b)->l.foldl max a<=b)
 |[],a=>⟨Int.le_refl a,by simp,λb h _=>h⟩
 |p::l,a=>by
  obtain⟨h1,h2,h3⟩:=Bt l (max a p);rw[List.foldl_cons];refine⟨by omega,λq hq=>?_,λb hb hq=>h3 b ?_ λq hq'=>hq q (List.mem_cons_of_mem _ hq')⟩
  ·rcases List.mem_cons.1 hq with rfl|hq
   ·omega
   ·exact h2 q hq
  ·have:=hq p (List.mem_cons_self ..);omega
theorem yD{l:List Int}{p:Int}(h:p∈l):p<=ru l:=(Bt l 0).2.1 p h
theorem PN{l:List Int}{b:Int}(hb:0<=b)(h:∀p∈l,p<=b):ru l<=b:=(Bt l 0).2.2 b hb h
theorem HY(l:List Int):0<=ru l:=(Bt l 0).1
theorem Cq{l:List Int}{i:Nat}(h:i<l.length):ru (l.take (i+1))=max (ru (l.take i)) (l.getD i default):=by unfold ru;rw[bm h,List.foldl_append];rfl
theorem eR{α:Type}(l:List α)(d:α)(n:Nat):(b9 l d n).length=max l.length n:=by unfold b9;simp;omega
theorem pc{α:Type}{l:List α}{d:α}{n:Nat}(h:n<=l.length):b9 l d n=l:=by unfold b9;rw[show n-l.length=0 by omega];simp
theorem IW{l:List α}{d:α}{n i:Nat}(h:i<l.length):(b9 l d n).getD i default=l.getD i default:=by unfold b9;rw[List.getD_eq_getElem?_getD,List.getElem?_append_left h,List.getD_eq_getElem?_getD]
theorem xI{α:Type}{l:List α}{d:α}{n:Nat}{x:α}(h:x∈b9 l d n):x∈l\/x=d:=by
 unfold b9 at h;rcases List.mem_append.1 h with h|h
 ·exact .inl h
 ·exact .inr (List.mem_replicate.1 h).2
theorem Bw{y:List α}{l:List Int}{x:List α}{a:α}(hy:y≠[]):∀{i},a∈jT y l i x->a∈x\/a∈y
 |0,h=>.inl h
 |i+1,h=>by
  rw[jT]at h;rcases List.mem_or_eq_of_mem_set h with h|h
  ·exact Bw hy h
  ·right;rw[h];exact aG (Nat.mod_lt _ (List.length_pos_iff.2 hy))
theorem BW{s:List It}{l:List Int}{old:Nat}{x:List ByteArray}{a:ByteArray}:∀{i},i<=s.length->a∈nD s l old i x->a∈x\/∃z∈s,a=z.text
 |0,_,h=>.inl h
 |i+1,hi,h=>by
  rw[nD]at h;split at h
  ·rcases List.mem_or_eq_of_mem_set h with h|h
   ·exact BW (by omega) h
   ·right;exact⟨_,aG (by omega),h⟩
  ·exact BW (by omega) h
end
theorem Oz{l:List ByteArray}(h:GM l=true):rx l=l:=by
 unfold GM at h;simp only[Bool.and_eq_true,Bool.or_eq_true,decide_eq_true_eq]at h;unfold rx;rcases h.1 with h1|h1
 ·rw[List.eq_nil_of_length_eq_zero h1];rfl
 ·rw[if_neg (by simpa using h1)]
theorem Ml{l:List ByteArray}(h:∀x∈l,x.size<=60):GM (rx l)=true:=by
 unfold rx;split
 ·rfl
 ·rename_i he;unfold GM;rw[Bool.and_eq_true];refine⟨by simp[he],aV.2 λj hj=>?_⟩;unfold pi;rw[decide_eq_true_eq];exact Int.ofNat_le.2 (h _ (aG hj))
theorem Nr(n:Nat):rx (List.replicate n ⟨#[]⟩)=[]:=by
 unfold rx;rw[if_pos];refine aV.2 λj hj=>?_
 unfold yg;rw[decide_eq_true_eq,List.getD_eq_getElem?_getD,List.getElem?_eq_getElem hj];simp
theorem A5(l:List ByteArray):rx l=[]\/(rx l).length=l.length:=by unfold rx;split<;>simp
theorem Gx{l:List ByteArray}{x:ByteArray}(h:x∈rx l):x∈l:=by
 unfold rx at h;split at h
 ·cases h
 ·exact h
end Go.Proofs.Ytgdbmcoamemmaaa
namespace Go.Proofs.Ytgdbmcoamemmaaa
open Go.RowKit
set_option maxRecDepth 100000
theorem Kl(v:aX)(hw:ck v<=1000000000):fI Try.prog 41 [(true,aj v,true)] [(true,aj (pE v).1,true),(false,[.sc (.string (pE v).2)],true)]:=by
 have h1:=oA v hw;unfold pE;obtain⟨k,its,ps,ns,cl,lv,c,e⟩:=v;cases hv:cd (.mk k its ps ns cl lv c e)
 ·rw[hv]at h1;rw[if_neg (by simp)];simp only[aj,af,av,fV]at h1 ⊢;refine dt Try.func41 pV rfl (by simp) ?_;simp only[kQ]
  repeat' (first|(with_reducible first|refine ac ?_|refine ab ‹_› rfl ?_|refine ai (λhbr=>?_) λhbr=>?_)|simp(disch:=first|omega|(simp only[aq];omega)|simp only[ap,Nat.reduceAdd]) only[go_sem,true_and])
  all_goals rfl
 ·rw[hv]at h1;rw[if_pos rfl];simp only[aj,af,av]at h1 ⊢;refine dt Try.func41 pV rfl (by simp) ?_;simp only[kQ]
  repeat' (first|(with_reducible first|refine ac ?_|refine ab ‹_› rfl ?_|refine ai (λhbr=>?_) λhbr=>?_)|simp(disch:=first|omega|(simp only[aq];omega)|simp only[ap,Nat.reduceAdd]) only[go_sem,true_and])
  all_goals rfl
theorem Ju(v:aX)(hw:ck v<=1000000000):fI Try.prog 33 [(true,aj v,true)] [(true,aj (pE v).1,true),(false,[.sc (.string (pE v).2)],true)]:=by
 have h1:=eN v hw;unfold pE;obtain⟨k,its,ps,ns,cl,lv,c,e⟩:=v;cases hv:cd (.mk k its ps ns cl lv c e)
 ·rw[hv]at h1;rw[if_neg (by simp)];simp only[aj,af,av,fV]at h1 ⊢;refine dt Try.func33 nI rfl (by simp) ?_;simp only[jO]
  repeat' (first|(with_reducible first|refine ac ?_|refine ab ‹_› rfl ?_|refine ai (λhbr=>?_) λhbr=>?_)|simp(disch:=first|omega|(simp only[aq];omega)|simp only[ap,Nat.reduceAdd]) only[go_sem,true_and])
  all_goals rfl
 ·rw[hv]at h1;rw[if_pos rfl];simp only[aj,af,av]at h1 ⊢;refine dt Try.func33 nI rfl (by simp) ?_;simp only[jO]
  repeat' (first|(with_reducible first|refine ac ?_|refine ab ‹_› rfl ?_|refine ai (λhbr=>?_) λhbr=>?_)|simp(disch:=first|omega|(simp only[aq];omega)|simp only[ap,Nat.reduceAdd]) only[go_sem,true_and])
  all_goals rfl
theorem KV:aI Try.prog 25 [] [(true,aj (fV 0 []),true),(false,[.sc (.string G1)],true)]:=by
 simp only[aj,af,av,fV];refine ah Try.func25 xf rfl ?_;simp only[nV]
 repeat' (first|(with_reducible first|refine ac ?_|refine ab ‹_› rfl ?_|refine ai (λhbr=>?_) λhbr=>?_)|simp(disch:=first|omega|(simp only[aq];omega)|simp only[ap,Nat.reduceAdd]) only[go_sem,true_and])
 all_goals rfl
theorem VW.nmn{k:Int}{its:List It}{ps:List aX}{ns cl lv:List ByteArray}{c e:Int}(h:VW k its ps ns cl lv c e):ns=[]\/ns.length=its.length+ps.length:=h.nl.imp id And.right
theorem Qk(v s:aX)(hw:ck v<=1000000000)(hws:ck s<=1000000000):aI Try.prog 12 [(true,aj v),(true,aj s)] [(true,aj (yW v s).1,true),(false,[.sc (.string (yW v s).2)],true)]:=by
 have h1:=oA v hw;unfold yW;obtain⟨k,its,ps,ns,cl,lv,c,e⟩:=v;obtain⟨k2,its2,ps2,ns2,cl2,lv2,c2,e2⟩:=s;cases hv:cd (.mk k its ps ns cl lv c e)
 ·rw[hv]at h1;rw[if_neg (by simp)];simp only[aj,af,av,fV]at h1 ⊢;refine ah Try.func12 cZ rfl ?_;simp only[cr]
  repeat' (first|(with_reducible first|refine ac ?_|refine ab ‹_› rfl ?_|refine ai (λhbr=>?_) λhbr=>?_)|simp(disch:=first|omega|(simp only[aq];omega)|simp only[ap,Nat.reduceAdd]) only[go_sem,true_and])
  all_goals rfl
 rw[hv]at h1;rw[if_pos rfl];have h:=vw hv;have hk0:=h.k0;have hk5:=h.k5;rw[show lY (.mk k its ps ns cl lv c e)=k from rfl,show zk (.mk k its ps ns cl lv c e)=ns from rfl,show rt (.mk k its ps ns cl lv c e)=its.length+ps.length from rfl];by_cases h5:k=5
 ·rw[if_pos h5];simp only[aj,af,av,fV]at h1 ⊢;refine ah Try.func12 cZ rfl ?_;simp only[cr]
  repeat' (first|(with_reducible first|refine ac ?_|refine ab ‹_› rfl ?_|refine ai (λhbr=>?_) λhbr=>?_)|simp(disch:=first|omega|(simp only[aq];omega)|simp only[ap,Nat.reduceAdd]) only[go_sem,true_and])
  all_goals first|omega|rfl
 rw[if_neg h5];have h40:=h.l40;have g1:=jM k its ps ns cl lv c e (rU hw);have hn1:dX k its.length ps.length=((its.length+ps.length:Nat):Int):=by unfold dX;rw[if_neg (by omega)];omega
 rw[hn1]at g1;have g2:=JC (its.length+ps.length) ns h40 h.nmn hws;have hr:=oz (names:=ns) h40 (by have:=h.nmn;rcases this with e|e<;>simp[e]) (.mk k2 its2 ps2 ns2 cl2 lv2 c2 e2);have hp:=λ(hk:1<=k/\k<=4)=>S7 h.toVF hw hk _ (Nat.le_trans hr.1 (by decide))
 have hwp:=Bm h hr.1;generalize hR:dw (its.length+ps.length) ns (.mk k2 its2 ps2 ns2 cl2 lv2 c2 e2)=R at g2 hp hwp ⊢;obtain⟨l,m⟩:=R;simp only at g2 hp hwp ⊢;have g3:=Kl _ hwp;clear hn1;generalize gQ (.mk k its ps ns cl lv c e) l=P at hp g3;obtain⟨K,I,PS,N,CL,LV,C,E⟩:=P;generalize pE (.mk K I PS N CL LV C E)=F at g3 ⊢;obtain⟨⟨k3,its3,ps3,ns3,cl3,lv3,c3,e3⟩,m3⟩:=F;generalize its.length+ps.length=n at g1 g2;by_cases hm:m=eW
 ·subst hm;rw[if_neg (by simp)];by_cases hk:k=0
  ·rw[if_pos hk];simp only[aj,af,av,fV,eW]at h1 g1 g2 ⊢;refine ah Try.func12 cZ rfl ?_;simp only[cr]
   repeat' (first|(with_reducible first|refine ac ?_|refine ab ‹_› rfl ?_|refine ai (λhbr=>?_) λhbr=>?_)|simp(disch:=first|omega|(simp only[aq];omega)|simp only[ap,Nat.reduceAdd]) only[go_sem,true_and])
   all_goals first|omega|rfl
  ·rw[if_neg hk];have hp:=hp (by omega);simp only[aj,af,av,fV,eW]at h1 g1 g2 hp g3 ⊢;refine ah Try.func12 cZ rfl ?_;simp only[cr]
   repeat' (first|(with_reducible first|refine ac ?_|refine ab ‹_› rfl ?_|refine ai (λhbr=>?_) λhbr=>?_)|simp(disch:=first|omega|(simp only[aq];omega)|simp only[ap,Nat.reduceAdd]) only[go_sem,true_and])
   all_goals first|omega|skip
   refine gY (f:=41) (bits:=1) (by decide) g3 rfl ?_
   repeat' (first|(with_reducible first|refine ac ?_|refine ab ‹_› rfl ?_|refine ai (λhbr=>?_) λhbr=>?_)|simp(disch:=first|omega|(simp only[aq];omega)|simp only[ap,Nat.reduceAdd]) only[go_sem,true_and])
   all_goals rfl
 ·rw[if_pos hm];simp only[aj,af,av,fV,eW]at h1 g1 g2 hm ⊢;refine ah Try.func12 cZ rfl ?_;simp only[cr]
  repeat' (first|(with_reducible first|refine ac ?_|refine ab ‹_› rfl ?_|refine ai (λhbr=>?_) λhbr=>?_)|simp(disch:=first|omega|(simp only[aq];omega)|simp only[ap,Nat.reduceAdd]) only[go_sem,true_and])
  all_goals first|omega|contradiction|rfl
theorem O3(v s:aX)(hw:ck v<=1000000000)(hws:ck s<=1000000000):aI Try.prog 14 [(true,aj v),(true,aj s)] [(true,aj (yW v s).1,true),(false,[.sc (.string (yW v s).2)],true)]:=by
 have h1:=eN v hw;have h0:=KV;unfold yW;obtain⟨k,its,ps,ns,cl,lv,c,e⟩:=v;obtain⟨k2,its2,ps2,ns2,cl2,lv2,c2,e2⟩:=s;cases hv:cd (.mk k its ps ns cl lv c e)
 ·rw[hv]at h1;rw[if_neg (by simp)];simp only[aj,af,av,fV]at h1 h0 ⊢;refine ah Try.func14 c8 rfl ?_;simp only[ct]
  repeat' (first|(with_reducible first|refine ac ?_|refine ab ‹_› rfl ?_|refine ai (λhbr=>?_) λhbr=>?_)|simp(disch:=first|omega|(simp only[aq];omega)|simp only[ap,Nat.reduceAdd]) only[go_sem,true_and])
  all_goals rfl
 rw[hv]at h1;rw[if_pos rfl];have h:=vw hv;have hk0:=h.k0;have hk5:=h.k5;rw[show lY (.mk k its ps ns cl lv c e)=k from rfl,show zk (.mk k its ps ns cl lv c e)=ns from rfl,show rt (.mk k its ps ns cl lv c e)=its.length+ps.length from rfl];by_cases h5:k=5
 ·rw[if_pos h5];simp only[aj,af,av,fV]at h1 ⊢;refine ah Try.func14 c8 rfl ?_;simp only[ct]
  repeat' (first|(with_reducible first|refine ac ?_|refine ab ‹_› rfl ?_|refine ai (λhbr=>?_) λhbr=>?_)|simp(disch:=first|omega|(simp only[aq];omega)|simp only[ap,Nat.reduceAdd]) only[go_sem,true_and])
  all_goals first|omega|rfl
 rw[if_neg h5];have h40:=h.l40;have g1:=gX k its ps ns cl lv c e (rU hw);have hn1:dX k its.length ps.length=((its.length+ps.length:Nat):Int):=by unfold dX;rw[if_neg (by omega)];omega
 rw[hn1]at g1;have g2:=Fm (its.length+ps.length) ns h40 h.nmn hws;have hr:=oz (names:=ns) h40 (by have:=h.nmn;rcases this with e|e<;>simp[e]) (.mk k2 its2 ps2 ns2 cl2 lv2 c2 e2);have hp:=λ(hk:1<=k/\k<=4)=>Ol (ek hv) hw hk _ (Nat.le_trans hr.1 (by decide)) (λp hp=>by have:=hr.2 p hp;omega)
 have hwp:=Bm h hr.1;generalize hR:dw (its.length+ps.length) ns (.mk k2 its2 ps2 ns2 cl2 lv2 c2 e2)=R at g2 hp hwp ⊢;obtain⟨l,m⟩:=R;simp only at g2 hp hwp ⊢;have g3:=Ju _ hwp;clear hn1;generalize gQ (.mk k its ps ns cl lv c e) l=P at hp g3;obtain⟨K,I,PS,N,CL,LV,C,E⟩:=P;generalize pE (.mk K I PS N CL LV C E)=F at g3 ⊢;obtain⟨⟨k3,its3,ps3,ns3,cl3,lv3,c3,e3⟩,m3⟩:=F;generalize its.length+ps.length=n at g1 g2;by_cases hm:m=eW
 ·subst hm;rw[if_neg (by simp)];by_cases hk:k=0
  ·rw[if_pos hk];simp only[aj,af,av,fV,eW]at h1 g1 g2 ⊢;refine ah Try.func14 c8 rfl ?_;simp only[ct]
   repeat' (first|(with_reducible first|refine ac ?_|refine ab ‹_› rfl ?_|refine ai (λhbr=>?_) λhbr=>?_)|simp(disch:=first|omega|(simp only[aq];omega)|simp only[ap,Nat.reduceAdd]) only[go_sem,true_and])
   all_goals first|omega|rfl
  ·rw[if_neg hk];have hp:=hp (by omega);simp only[aj,af,av,fV,eW]at h1 g1 g2 hp g3 ⊢;refine ah Try.func14 c8 rfl ?_;simp only[ct]
   repeat' (first|(with_reducible first|refine ac ?_|refine ab ‹_› rfl ?_|refine ai (λhbr=>?_) λhbr=>?_)|simp(disch:=first|omega|(simp only[aq];omega)|simp only[ap,Nat.reduceAdd]) only[go_sem,true_and])
   all_goals first|omega|skip
   refine gY (f:=33) (bits:=1) (by decide) g3 rfl ?_
   repeat' (first|(with_reducible first|refine ac ?_|refine ab ‹_› rfl ?_|refine ai (λhbr=>?_) λhbr=>?_)|simp(disch:=first|omega|(simp only[aq];omega)|simp only[ap,Nat.reduceAdd]) only[go_sem,true_and])
   all_goals rfl
 ·rw[if_pos hm];simp only[aj,af,av,fV,eW]at h1 g1 g2 hm ⊢;refine ah Try.func14 c8 rfl ?_;simp only[ct]
  repeat' (first|(with_reducible first|refine ac ?_|refine ab ‹_› rfl ?_|refine ai (λhbr=>?_) λhbr=>?_)|simp(disch:=first|omega|(simp only[aq];omega)|simp only[ap,Nat.reduceAdd]) only[go_sem,true_and])
  all_goals first|omega|contradiction|rfl
theorem fC{α:Type}(l:List α)(d:α)(j:Nat):(l++List.replicate j d)++[d]=l++List.replicate (j+1) d:=by rw[List.append_assoc,List.replicate_succ']
theorem xZ{α:Type}(l:List α)(d:α){n j:Nat}(h:l.length+j=max l.length n):l++List.replicate j d=b9 l d n:=by unfold b9;rw[show n-l.length=j by omega]
theorem B4{α:Type}{l:List α}{d:α}{j:Nat}{P:α->Prop}(h:∀x∈l,P x)(hd:P d):∀x∈l++List.replicate j d,P x:=λx hx=>by
 rcases List.mem_append.1 hx with hx|hx
 ·exact h x hx
 ·rw[(List.mem_replicate.1 hx).2];exact hd
theorem uJ{its:List It}{ps:List aX}{ns cl lv:List ByteArray}(h1:its.length<=1000000)(h2:ps.length<=1000000)(h3:ns.length<=1000000)(h4:cl.length<=1000000)(h5:lv.length<=1000000)(h6:∀p∈ps,ck p<=1000000000):RI its ps ns cl lv:=⟨by omega,by omega,by omega,by omega,by omega,h6⟩
def dQ(ns:List ByteArray)(j:Nat):List ByteArray:=if ns=[]then[]else ns++List.replicate j ⟨#[]⟩
theorem ox{ns:List ByteArray}{j:Nat}:(dQ ns j).length<=ns.length+j:=by unfold dQ;split<;>simp
theorem rT{l:List It}:l.map au++[[.sc (.int .i64 0),.sc (.int .i64 0),.sc (.string ⟨#[]⟩)]]=(l++[bA]).map au:=by rw[List.map_append];rfl
theorem kP{l:List ByteArray}{s:ByteArray}:l.map bQ++[[.sc (.string s)]]=(l++[s]).map bQ:=by rw[List.map_append];rfl
theorem LH(ps:List aX)(ns cl lv:List ByteArray)(c e:Int)(n:Nat)(h2:ps.length<=100)(h3:ns.length<=200)(h4:cl.length<=1000)(h5:lv.length<=1000)(h6:∀p∈ps,ck p<=1000000000)(hn:n<=100):
 fI Try.prog 32 [(true,aj (.mk 4 [] ps ns cl lv c e),true),(false,[.sc (.int .i64 n)],false)] [(true,aj (.mk 4 [] (b9 ps (fV 0 []) n) (dQ ns (n-ps.length)) cl lv c e),true)]:=by
 simp only[aj,af,av];refine dt Try.func32 jm rfl (by simp) ?_;simp only[eU];simp(disch:=first|omega|(simp only[aq];omega)|simp only[ap,Nat.reduceAdd]) only[go_sem,true_and];refine lp (λj:Nat=>[.sl 9 1 ((dQ ns j).map bQ),.sl 28 8 ((ps++List.replicate j (fV 0 [])).map aj),.sl 42 3 (([]:List It).map au)]) (λj=>ps.length+j<=max ps.length n) (λj=>max ps.length n-(ps.length+j)) 0 (by unfold dQ;split<;>simp[gL, *]) (by omega) ?_;intro j hj;simp only[eG];have hxl:=ox (ns:=ns) (j:=j);have hb:=gX 4 [] (ps++List.replicate j (fV 0 [])) (dQ ns j) cl lv c e (uJ (by simp) (by simp;omega) (by omega) (by omega) (by omega) (B4 h6 (by have:=@vj 0;omega)));unfold dX at hb;rw[if_neg (by decide),show(([]:List It).length:Int)+((ps++List.replicate j (fV 0 [])).length:Nat)=((ps.length+j:Nat):Int) by simp]at hb;have hap:=lL (l:=ps++List.replicate j (fV 0 [])) (by simp;omega);rw[fC]at hap;by_cases hlt:ps.length+j<n
 ·have hlen:(ps++List.replicate j (fV 0 [])).length=ps.length+j:=by simp
  by_cases hns:ns=[]
  ·have e1:∀j,dQ ns j=[]:=λj=>if_pos hns
   simp only[e1]at hb ⊢;simp only[aj,af,av,eF,List.map_nil]at hb hap ⊢
   repeat' (first|(with_reducible first|refine ac ?_|refine ab ‹_› rfl ?_|refine ai (λhbr=>?_) λhbr=>?_)|simp(disch:=first|omega|(simp only[aq];omega)|simp only[ap,Nat.reduceAdd]) only[go_sem,hap,cK,cL])
   all_goals first|omega|exact⟨j+1,rfl,by omega,by omega⟩|(trace_state;sorry)
  ·have e1:∀j,dQ ns j=ns++List.replicate j ⟨#[]⟩:=λj=>if_neg hns
   have e2:0<ns.length:=List.length_pos_iff.2 hns;have e3:=fC ns (⟨#[]⟩:ByteArray) j;have e4:(ns++List.replicate j (⟨#[]⟩:ByteArray)).length=ns.length+j:=by simp
   simp only[<-e1]at e3 e4;generalize dQ ns j=N at *;simp only[aj,af,av,eF,List.map_nil]at hb hap ⊢
   repeat' (first|(with_reducible first|refine ac ?_|refine ab ‹_› rfl ?_|refine ai (λhbr=>?_) λhbr=>?_)|simp(disch:=first|omega|(simp only[aq];omega)|simp only[ap,Nat.reduceAdd]) only[go_sem,hap,kP,e3,cK,cL])
   all_goals first|omega|exact⟨j+1,rfl,by omega,by omega⟩|(trace_state;sorry)
 ·have hj2:=xZ ps (fV 0 []) (n:=n) (j:=j) (by omega);have hj3:n-ps.length=j:=by omega
  rw[hj2]at hb ⊢;rw[hj3];simp only[aj,af,av,eF,List.map_nil]at hb ⊢
  repeat' (first|(with_reducible first|refine ac ?_|refine ab ‹_› rfl ?_|refine ai (λhbr=>?_) λhbr=>?_)|simp(disch:=first|omega|(simp only[aq];omega)|simp only[ap,Nat.reduceAdd]) only[go_sem,true_and])
  all_goals first|omega|rfl|(trace_state;sorry)
theorem Np{k:Int}(hk:1<=k/\k<=3)(its:List It)(ns cl lv:List ByteArray)(c e:Int)(n:Nat)(h2:its.length<=100)(h3:ns.length<=200)(h4:cl.length<=1000)(h5:lv.length<=1000)(hn:n<=100):
 fI Try.prog 32 [(true,aj (.mk k its [] ns cl lv c e),true),(false,[.sc (.int .i64 n)],false)] [(true,aj (.mk k (b9 its bA n) [] (dQ ns (n-its.length)) cl lv c e),true)]:=by
 simp only[aj,af,av];refine dt Try.func32 jm rfl (by simp) ?_;simp only[eU];simp(disch:=first|omega|(simp only[aq];omega)|simp only[ap,Nat.reduceAdd]) only[go_sem,true_and];refine lp (λj:Nat=>[.sl 9 1 ((dQ ns j).map bQ),.sl 28 8 (([]:List aX).map aj),.sl 42 3 ((its++List.replicate j bA).map au)]) (λj=>its.length+j<=max its.length n) (λj=>max its.length n-(its.length+j)) 0 (by unfold dQ;split<;>simp[gL, *]) (by omega) ?_;intro j hj;simp only[eG];have hxl:=ox (ns:=ns) (j:=j);have hb:=gX k (its++List.replicate j bA) [] (dQ ns j) cl lv c e (uJ (by simp;omega) (by simp) (by omega) (by omega) (by omega) (by simp));unfold dX at hb;rw[if_neg (by omega),show((its++List.replicate j bA).length:Int)+(([]:List aX).length:Nat)=((its.length+j:Nat):Int) by simp]at hb;have hap:=fC its bA j;have hlen:(its++List.replicate j bA).length=its.length+j:=by simp
 by_cases hlt:its.length+j<n
 ·generalize its++List.replicate j bA=I at *;by_cases hns:ns=[]
  ·have e1:∀j,dQ ns j=[]:=λj=>if_pos hns
   simp only[e1]at hb ⊢;simp only[aj,af,av,eF,List.map_nil]at hb ⊢
   repeat' (first|(with_reducible first|refine ac ?_|refine ab ‹_› rfl ?_|refine ai (λhbr=>?_) λhbr=>?_)|simp(disch:=first|omega|(simp only[aq];omega)|simp only[ap,Nat.reduceAdd]) only[go_sem,gn,rT,hap,cK,cL])
   all_goals first|omega|exact⟨j+1,rfl,by omega,by omega⟩|(trace_state;sorry)
  ·have e1:∀j,dQ ns j=ns++List.replicate j ⟨#[]⟩:=λj=>if_neg hns
   have e2:0<ns.length:=List.length_pos_iff.2 hns;have e3:=fC ns (⟨#[]⟩:ByteArray) j;have e4:(ns++List.replicate j (⟨#[]⟩:ByteArray)).length=ns.length+j:=by simp
   simp only[<-e1]at e3 e4;generalize dQ ns j=N at *;simp only[aj,af,av,eF,List.map_nil]at hb ⊢
   repeat' (first|(with_reducible first|refine ac ?_|refine ab ‹_› rfl ?_|refine ai (λhbr=>?_) λhbr=>?_)|simp(disch:=first|omega|(simp only[aq];omega)|simp only[ap,Nat.reduceAdd]) only[go_sem,gn,rT,hap,kP,e3,cK,cL])
   all_goals first|omega|exact⟨j+1,rfl,by omega,by omega⟩|(trace_state;sorry)
 ·have hj2:=xZ its bA (n:=n) (j:=j) (by omega);have hj3:n-its.length=j:=by omega
  rw[hj2]at hb ⊢;rw[hj3];simp only[aj,af,av,eF,List.map_nil]at hb ⊢
  repeat' (first|(with_reducible first|refine ac ?_|refine ab ‹_› rfl ?_|refine ai (λhbr=>?_) λhbr=>?_)|simp(disch:=first|omega|(simp only[aq];omega)|simp only[ap,Nat.reduceAdd]) only[go_sem,true_and])
  all_goals first|omega|rfl|(trace_state;sorry)
theorem Jq{k:Int}{its:List It}(hk:1<=k/\k<=3)(hl:its.length<=40)(h:∀x∈its,ry k x=true):cd (fV k its)=true:=by
 unfold cd;rw[Bool.and_eq_true,decide_eq_true_eq];constructor
 ·exact xw (by omega) (by simp;omega) (.inl rfl) AP (dR (by decide)) (dR (by decide)) (λ_=>rfl) (λ_=>rfl) (λhh=>by omega) (λy hy=>B5 (h y hy)) (wW rfl)
 ·rw[Ot];unfold dX;rw[if_neg (by omega)];omega
theorem Nj{k:Int}:ry k bA=true:=by unfold ry;simp
theorem CH{k:Int}{lv:List ByteArray}{its:List It}:(wF k lv its).length=its.length:=by unfold wF Cm;split<;>simp
theorem FJ{lv:List ByteArray}{its:List It}:(Cm lv its).length=its.length:=by unfold Cm;split<;>simp
theorem VW.k1{k:Int}{its:List It}{ps:List aX}{ns cl lv:List ByteArray}{c e:Int}(h:VW k its ps ns cl lv c e)(hl:fN (.mk k its ps ns cl lv c e)≠0):1<=k:=by
 have:=h.k0;by_cases h0:k=0
 ·exfalso;apply hl;have h1:=h.i0 (.inl h0);have h2:=h.p0 (by omega);subst h1 h2;simp only[fN,dX];rw[if_neg (by omega)];rfl
 ·omega
theorem mf(L:List ByteArray)(k:Int)(its:List It)(ps:List aX)(ns cl lv:List ByteArray)(c e:Int):D4 L (.mk k its ps ns cl lv c e)=if L≠[]then fV 2 ((wF k lv its).map (uo L))else if k<4 then fV (wl k lv) (Cm lv its)else .mk k its ps ns cl lv c e:=rfl
theorem H0{L:List ByteArray}{k:Int}{its:List It}{ps:List aX}{ns cl lv:List ByteArray}{c e:Int}(hv:L.length<=20)(h:VW k its ps ns cl lv c e)(hl:fN (.mk k its ps ns cl lv c e)≠0)(h4:¬(L≠[]/\4<=k)):cd (D4 L (.mk k its ps ns cl lv c e))=true:=by
 have hk1:=h.k1 hl;have hil:=h.il;rw[mf];by_cases hl0:L≠[]
 ·rw[if_pos hl0];refine Jq (by omega) (by rw[List.length_map,CH];exact hil) λx hx=>?_
  obtain⟨y,hy,rfl⟩:=List.mem_map.1 hx;unfold uo;split
  ·exact Nj
  ·have h1:=en L y.text;unfold ry;rw[if_neg (by decide),if_pos rfl,x9 (by omega),Bool.or_true]
 rw[if_neg hl0];by_cases hk:k<4
 ·rw[if_pos hk];have hp:=h.p0 (by omega);subst hp;have h2:=Pq h.toVF (by omega);refine Jq (by unfold wl;split<;>omega) (by rw[FJ];exact hil) λx hx=>EX (h2.it x hx)
 ·rw[if_neg hk];exact h.vc
theorem F8{L:List ByteArray}{k:Int}{its:List It}{ps:List aX}{ns cl lv:List ByteArray}{c e:Int}(h:VW k its ps ns cl lv c e)(h4:¬(L≠[]/\4<=k)):fN (D4 L (.mk k its ps ns cl lv c e))=fN (.mk k its ps ns cl lv c e):=by
 rw[mf];by_cases hl0:L≠[]
 ·rw[if_pos hl0];have hp:=h.p0 (λhh=>h4 ⟨hl0,by omega⟩);subst hp;have h5:k≠5:=λhh=>h4 ⟨hl0,by omega⟩
  simp only[fN,fV,dX];rw[if_neg (by decide),if_neg h5,List.length_map,CH]
 rw[if_neg hl0];by_cases hk:k<4
 ·rw[if_pos hk];have hp:=h.p0 (by omega);subst hp;have hpk:wl k lv≠5:=by unfold wl;split<;>omega
  simp only[fN,fV,dX];rw[if_neg hpk,if_neg (by omega),FJ]
 ·rw[if_neg hk]
def Vd:aX->Nat|.mk _ its ps _ _ _ _ _=>its.length+ps.length
theorem Is{k:Int}{its:List It}{ps:List aX}{ns cl lv:List ByteArray}{c e:Int}(h:VW k its ps ns cl lv c e){m:Int}(hm5:k=5->m=4)(hm:k<=m\/k=5)(hm4:m<=4):Vd (nv (.mk k its ps ns cl lv c e) m)=fN (.mk k its ps ns cl lv c e):=by
 simp only[nv,Vd,fN,dX];by_cases h5:k=5
 ·rw[if_pos (hm5 h5),if_pos h5,if_pos (hm5 h5),if_pos h5];rfl
 ·rw[if_neg h5,if_neg h5];by_cases h4:m=4
  ·rw[if_pos h4,if_pos h4];simp;omega
  ·rw[if_neg h4,if_neg h4,h.p0 (by omega)];simp
structure Uf(m:Int)(n:Nat)(xi:List It)(xp:List aX):Prop where
 i4:m=4->xi=[]
 p4:m≠4->xp=[]
 len:xi.length+xp.length=n
 l40:n<=40
 txt:∀x∈xi,x.text.size<=60
 wts:∀p∈xp,ck p<=4020000
theorem wV{k:Int}{its:List It}{ps:List aX}{ns cl lv:List ByteArray}{c e:Int}(h:VW k its ps ns cl lv c e){m:Int}(hm5:k=5->m=4)(hm:k<=m\/k=5)(hm4:m<=4):∃xi xp,nv (.mk k its ps ns cl lv c e) m=.mk m xi xp ns [] [] 0 0/\Uf m (fN (.mk k its ps ns cl lv c e)) xi xp:=by
 have h1:=Is h hm5 hm hm4;have h40:=h.l40;refine⟨_,_,rfl,λh4=>if_pos h4,λh4=>if_neg h4,h1,?_,?_,?_⟩
 ·simp only[fN,dX];split<;>omega
 ·split
  ·simp
  ·intro x hx;obtain⟨y,hy,rfl⟩:=List.mem_map.1 hx;exact Dk (fD (h.it y hy))
 ·split
  ·split
   ·intro p hp;rw[List.mem_singleton.1 hp];exact h.wt
   ·intro p hp;rcases List.mem_append.1 hp with hp|hp
    ·exact h.wk p hp
    ·obtain⟨y,hy,rfl⟩:=List.mem_map.1 hp;exact Lj (fD (h.it y hy))
  ·simp
theorem Qr{K:Int}{l:List Int}{T:Nat}{ns' cl lv:List ByteArray}{xi yi:List It}{xp yp:List aX}{a1 a2 a3 b1 b2 b3:List ByteArray}{K1 K2 c1 e1 c2 e2:Int}(hT:T<=40)(h1:∀x∈xi,x.text.size<=60)(h2:xi.length<=40)(h3:∀x∈yi,x.text.size<=60)(h4:∀p∈xp,ck p<=4020000)(h5:xp.length<=40)(h6:∀p∈yp,ck p<=4020000)(h7:K=4/\yp≠[]\/K≠4/\yi≠[])
 (h8:∀x∈ns',x.size<=60) (h9:ns'.length<=200) (h10:∀x∈cl,x.size<=60) (h11:cl.length<=200) (h12:∀x∈lv,x.size<=60) (h13:lv.length<=200):ck (L0 K l T ns' cl lv (.mk K1 xi xp a1 a2 a3 c1 e1) (.mk K2 yi yp b1 b2 b3 c2 e2))<=1000000000:=by
 simp only[L0];refine NK ?_ ?_ ?_ ?_ (λx hx=>h8 x (Gx hx)) ?_ h10 h11 h12 h13
 ·split
  ·simp
  ·rename_i hK;have hy:yi≠[]:=h7.elim (λh=>absurd h.1 hK) And.right;intro x hx;rcases Bw hy hx with h|h
   ·rcases xI h with h|h
    ·exact h1 x h
    ·rw[h];decide
   ·exact h3 x h
 ·split
  ·simp
  ·rw[gu,eR];omega
 ·split
  ·rename_i hK;have hy:yp≠[]:=h7.elim And.right (λh=>absurd hK h.1);intro x hx;rcases Bw hy hx with h|h
   ·rcases xI h with h|h
    ·exact h4 x h
    ·rw[h];exact vj
   ·exact h6 x h
  ·simp
 ·split
  ·rw[gu,eR];omega
  ·simp
 ·rcases A5 ns' with h|h
  ·rw[h];simp
  ·rw[h];exact h9
theorem Pu{K:Int}{n T:Nat}{xi:List It}{xp:List aX}(hK:1<=K/\K<=4)(h:Uf K n xi xp)(ns:List ByteArray)(h3:ns.length<=200)(hn:T<=100):
 fI Try.prog 32 [(true,aj (.mk K xi xp ns [] [] 0 0),true),(false,[.sc (.int .i64 T)],false)] [(true,aj (.mk K (if K=4 then[]else b9 xi bA T) (if K=4 then b9 xp (fV 0 []) T else[]) (dQ ns (T-n)) [] [] 0 0),true)]:=by
 have h1:=h.i4;have h2:=h.p4;have h4:=h.len;have h5:=h.l40;have h6:=h.wts;by_cases h4K:K=4
 ·have h1:=h1 h4K;subst h1 h4K;simp only[List.length_nil,Nat.zero_add]at h4;rw[if_pos rfl,if_pos rfl,<-h4];exact LH xp ns [] [] 0 0 T (by omega) h3 (by simp) (by simp) (λp hp=>by have:=h6 p hp;omega) hn
 ·have h2:=h2 h4K;subst h2;simp only[List.length_nil,Nat.add_zero]at h4;rw[if_neg h4K,if_neg h4K,<-h4];exact Np (by omega) xi ns [] [] 0 0 T (by omega) h3 (by simp) (by simp) hn
theorem JW{l:List aX}{kd:IntKind}{z:Int}{y:aX}(h:0<=z)(h1:z<l.length):zv 8 0 (some (.sl 28 8 (l.map aj))) (some (.sc (.int kd z))) (some (aj y))=some [.sl 28 8 ((l.set z.toNat y).map aj)]:=by
 rw[List.map_set];exact gl (e:=aj) (k:=8) (λx=>by cases x;simp only[aj,af];rfl) h h1 (by cases y;simp only[aj,af];rfl)
def sN(sk:Int)(ns:List ByteArray)(n:Nat):List ByteArray:=if sk=3 then b9 ns ⟨#[]⟩ n else ns
theorem Cs{sk:Int}{ns:List ByteArray}{n T d:Nat}(hn:ns=[]\/ns.length=n)(hd:d=max n T-n):sN sk (dQ (sN sk ns n) d) T=if sk=3 then b9 ns ⟨#[]⟩ (max n T)else dQ ns d:=by
 unfold sN;by_cases h3:sk=3
 ·rw[if_pos h3,if_pos h3,if_pos h3];rcases hn with rfl|hn
  ·have e1:b9 ([]:List ByteArray) ⟨#[]⟩ n=List.replicate n ⟨#[]⟩:=by simp[b9]
   have e2:b9 ([]:List ByteArray) ⟨#[]⟩ (max n T)=List.replicate (max n T) ⟨#[]⟩:=by simp[b9]
   rw[e1,e2];unfold dQ;split
   ·rename_i h0;have:n=0:=by simpa using h0
    subst this;simp[b9]
   ·rw[List.replicate_append_replicate,pc (by simp;omega)];congr 1;omega
  ·rw[pc (l:=ns) (n:=n) (by omega)];unfold dQ;split
   ·rename_i h0;subst h0;simp only[List.length_nil]at hn;subst hn;simp
   ·rw[pc (by simp;omega)];unfold b9;rw[hd,hn]
 ·rw[if_neg h3,if_neg h3,if_neg h3]
theorem Ds{α:Type}{l:List α}{d:α}{n t:Nat}(h:l.length=n):b9 l d (max n t)=b9 l d t:=by unfold b9;congr 2;omega
theorem CN{sk:Int}{ns:List ByteArray}{n T:Nat}(hn:ns=[]\/ns.length=n)(si:List It)(l:List Int):(if sk=3 then nD si l n l.length (sN sk (dQ (sN sk ns n) (T-n)) T)else sN sk (dQ (sN sk ns n) (T-n)) T)=DU ns l n (max n T) (decide (sk=3)) si:=by
 rw[Cs hn (by omega)];unfold DU;by_cases h3:sk=3
 ·rw[if_pos h3,if_pos h3,if_pos (by simpa using h3)]
 ·rw[if_neg h3,if_neg h3,if_neg (by simpa using h3)];unfold dQ b9;split
  ·rfl
  ·rename_i h0;have:=hn.resolve_left h0;congr 2;omega
theorem De{n:Nat}{names:List ByteArray}{its:List It}{ps:List aX}{ns cl lv:List ByteArray}{c e:Int}{l:List Int}{m:ByteArray}(h:dw n names (.mk 3 its ps ns cl lv c e)=(l,m)):l.length<=its.length/\(l≠[]->∀x∈its,x.text.size<=60):=by
 simp only[dw]at h;by_cases hv:cd (.mk 3 its ps ns cl lv c e)=true
 ·rw[if_pos hv,if_neg (by decide),if_neg (by decide),if_pos trivial]at h;refine⟨?_,λ_ x hx=>fD ((vw hv).it x hx)⟩;unfold qh at h;split at h
  ·cases h;simp
  ·cases h;have:=@su n names its ([],[]);unfold wY;simp at this;omega
 ·rw[if_neg hv]at h;cases h;simp
theorem KO{sk:Int}{ns:List ByteArray}{n:Nat}(h:∀x∈ns,x.size<=60):∀x∈sN sk ns n,x.size<=60:=by
 unfold sN;split
 ·intro x hx;rcases xI hx with h1|h1
  ·exact h x h1
  ·rw[h1];decide
 ·exact h
theorem Kw{ns:List ByteArray}{n:Nat}(h:∀x∈ns,x.size<=60):∀x∈dQ ns n,x.size<=60:=by
 unfold dQ;split
 ·simp
 ·exact B4 h (by decide)
theorem l7{sk:Int}{ns:List ByteArray}{n:Nat}:(sN sk ns n).length<=max ns.length n:=by
 unfold sN;split
 ·rw[eR];omega
 ·omega
theorem NS{K sk:Int}{n tp m:Nat}{xi yi:List It}{xp yp:List aX}{ns cl lv a1 a2 a3 b1 b2 b3:List ByteArray}{its2:List It}{l:List Int}{K1 K2 c1 e1 c2 e2:Int}(hX:Uf K n xi xp)(hY:Uf K m yi yp)(hm:m≠0)(ht:tp<=40)(h1:∀x∈ns,x.size<=60)(h2:ns.length<=40)(h3:∀x∈cl,x.size<=60)(h4:cl.length<=200)(h5:∀x∈lv,x.size<=60)(h6:lv.length<=200)(h7:sk=3->l.length<=its2.length/\∀x∈its2,x.text.size<=60):
 ck (L0 K l (max n tp) (if sk=3 then nD its2 l n l.length (sN sk (dQ (sN sk ns n) (tp-n)) tp)else sN sk (dQ (sN sk ns n) (tp-n)) tp) cl lv (.mk K1 xi xp a1 a2 a3 c1 e1) (.mk K2 yi yp b1 b2 b3 c2 e2))<=1000000000:=by
 have hn:=hX.l40;have hl:=hX.len;have hly:=hY.len;have l1:=@l7 sk ns n;have l2:=@ox (sN sk ns n) (tp-n);have l3:=@l7 sk (dQ (sN sk ns n) (tp-n)) tp;have a1:=KO (sk:=sk) (n:=tp) (Kw (n:=tp-n) (KO (sk:=sk) (n:=n) h1));refine Qr (by omega) hX.txt (by omega) hY.txt hX.wts (by omega) hY.wts ?_ ?_ ?_ h3 h4 h5 h6
 ·by_cases h4K:K=4
  ·left;refine⟨h4K,λe=>hm ?_⟩;rw[<-hly,hY.i4 h4K,e];rfl
  ·right;refine⟨h4K,λe=>hm ?_⟩;rw[<-hly,hY.p4 h4K,e];rfl
 ·split
  ·rename_i h8;intro x hx;rcases BW (h7 h8).1 hx with h|⟨z,hz,rfl⟩
   ·exact a1 x h
   ·exact(h7 h8).2 z hz
  ·exact a1
 ·split
  ·rw[me];omega
  ·omega
theorem Tn{sk:Int}{ns:List ByteArray}{n j:Nat}(h1:sk=3->ns.length+j<=max ns.length n)(h2:sk≠3->j=0)(h3:¬(sk=3/\ns.length+j<n)):ns++List.replicate j (⟨#[]⟩:ByteArray)=sN sk ns n:=by
 unfold sN;split
 ·rename_i h;have:=h1 h;exact xZ _ _ (by omega)
 ·rename_i h;rw[h2 h];simp
theorem yZ{l:List Int}{i:Nat}(h:∀j,j<i->l.getD j default≠0)(hi:i=l.length):¬(0:Int)∈l:=by
 intro h0;obtain⟨j,hj,e⟩:=List.mem_iff_getElem.1 h0;have:=h j (by omega);rw[List.getD_eq_getElem?_getD,List.getElem?_eq_getElem hj]at this;exact this e
theorem E3(t:Nat)(a:List ByteArray)(hl:a.length<=1000000000):aI Try.prog 67 [(false,[.sl t 1 (a.map bQ)]),(false,[.sl t 1 (a.map bQ)])] [(false,[.sc (.bool true)],true)]:=by
 refine ah Try.func67 qE rfl ?_;simp only[i6]
 repeat' (first|(with_reducible first|refine ac ?_|refine ab ‹_› rfl ?_|refine ai (λhbr=>?_) λhbr=>?_)|simp(disch:=first|omega|(simp only[aq];omega)|simp only[ap,Nat.reduceAdd]) only[go_sem,true_and])
 all_goals first|omega|skip
 refine lp (λi:Nat=>[.sc (.int .i64 i)]) (λi=>i<=a.length) (λi=>a.length-i) 0 rfl (Nat.zero_le _) ?_;intro i hi;simp only[iw];by_cases hlt:i<a.length
 ·have hix:=Cd (t:=t) (l:=a) (kd:=.i64) (z:=(i:Int)) (by omega) (by omega);rw[Int.toNat_natCast]at hix
  repeat' (first|(with_reducible first|refine ac ?_|refine ab ‹_› rfl ?_|refine ai (λhbr=>?_) λhbr=>?_)|simp(disch:=first|omega|(simp only[aq];omega)|simp only[ap,Nat.reduceAdd]) only[go_sem,hix])
  all_goals first|omega|contradiction|exact⟨i+1,rfl,by omega,by omega⟩|(trace_state;sorry)
 ·obtain rfl:i=a.length:=by omega
  repeat' (first|(with_reducible first|refine ac ?_|refine ab ‹_› rfl ?_|refine ai (λhbr=>?_) λhbr=>?_)|simp(disch:=first|omega|(simp only[aq];omega)|simp only[ap,Nat.reduceAdd]) only[go_sem,true_and])
  all_goals first|omega|rfl|(trace_state;sorry)
def Vo(v:aX):Prop:=ck v<=1000000000->aI Try.prog 35 [(true,aj v),(true,aj v)] [(false,[.sc (.bool true)],true)]
theorem L5(v:aX):Vo v:=aX.ind (λk its ps ns cl lv c e ih hw=>by
 obtain⟨b1,b2,b3,b4,b5,b6⟩:=rU hw;have g2:=E3 9 ns (by omega);have g3:=E3 9 cl (by omega);have g4:=E3 9 lv (by omega);simp only[aj,af,av];refine ah Try.func35 wy rfl ?_;simp only[mU]
 repeat' (first|(with_reducible first|refine ac ?_|refine ab ‹_› rfl ?_|refine ai (λhbr=>?_) λhbr=>?_)|simp(disch:=first|omega|(simp only[aq];omega)|simp only[ap,Nat.reduceAdd]) only[go_sem,true_and])
 all_goals first|omega|contradiction|skip
 refine lp (λi:Nat=>[.sc (.int .i64 i)]) (λi=>i<=its.length) (λi=>its.length-i) 0 rfl (Nat.zero_le _) ?_;intro i hi;simp only[lg];by_cases hlt:i<its.length
 ·have hix:=cM (t:=42) (l:=its) (kd:=.i64) (z:=(i:Int)) (by omega) (by omega);rw[Int.toNat_natCast]at hix;have heq:=Lq (AT (its.getD i default) (its.getD i default));generalize its.getD i default=x at hix heq;simp only[au]at hix heq
  repeat' (first|(with_reducible first|refine ac ?_|refine ab ‹_› rfl ?_|refine ai (λhbr=>?_) λhbr=>?_)|simp(disch:=first|omega|(simp only[aq];omega)|simp only[ap,Nat.reduceAdd]) only[go_sem,hix,heq])
  all_goals first|omega|contradiction|exact⟨i+1,rfl,by omega,by omega⟩|(trace_state;sorry)
 ·obtain rfl:i=its.length:=by omega
  repeat' (first|(with_reducible first|refine ac ?_|refine ab ‹_› rfl ?_|refine ai (λhbr=>?_) λhbr=>?_)|simp(disch:=first|omega|(simp only[aq];omega)|simp only[ap,Nat.reduceAdd]) only[go_sem,true_and])
  all_goals first|omega|skip
  refine lp (λi:Nat=>[.sc (.int .i64 i)]) (λi=>i<=ps.length) (λi=>ps.length-i) 0 rfl (Nat.zero_le _) ?_;intro i hi;simp only[ly];by_cases hlt:i<ps.length
  ·have hm:=aG hlt;have hc:=ih _ hm (b6 _ hm);have hix:d6 8 (some (.sl 28 8 (ps.map aj))) (some (.sc (.int .i64 (i:Int))))=some (aj (ps.getD i default)):=by rw[py (by omega) (by omega),Int.toNat_natCast]
   generalize ps.getD i default=x at hc hix;obtain⟨x0,x1,x2,x3,x4,x5,x6,x7⟩:=x;simp only[aj,af,av]at hc hix
   repeat' (first|(with_reducible first|refine ac ?_|refine ab ‹_› rfl ?_|refine ai (λhbr=>?_) λhbr=>?_)|simp(disch:=first|omega|(simp only[aq];omega)|simp only[ap,Nat.reduceAdd]) only[go_sem,hix])
   all_goals first|omega|contradiction|exact⟨i+1,rfl,by omega,by omega⟩|(trace_state;sorry)
  ·obtain rfl:i=ps.length:=by omega
   repeat' (first|(with_reducible first|refine ac ?_|refine ab ‹_› rfl ?_|refine ai (λhbr=>?_) λhbr=>?_)|simp(disch:=first|omega|(simp only[aq];omega)|simp only[ap,Nat.reduceAdd]) only[go_sem,true_and])
   all_goals first|omega|rfl|(trace_state;sorry)) v
theorem HU(v:aX)(hw:ck v<=1000000000):aI Try.prog 8 [(true,aj v),(true,aj v)] [(false,[.sc (.bool (cd v))],true)]:=by
 have h1:=eN v hw;have h2:=L5 v hw;cases hv:cd v
 all_goals
  rw[hv]at h1;obtain⟨k,its,ps,ns,cl,lv,c,e⟩:=v;simp only[aj,af,av]at h1 h2 ⊢;refine ah Try.func8 nr rfl ?_;simp only[gc]
  repeat' (first|(with_reducible first|refine ac ?_|refine ab ‹_› rfl ?_|refine ai (λhbr=>?_) λhbr=>?_)|simp(disch:=first|omega|(simp only[aq];omega)|simp only[ap,Nat.reduceAdd]) only[go_sem,true_and])
  all_goals rfl
theorem P3{k:Int}{its:List It}{ps:List aX}{ns cl lv:List ByteArray}{c e:Int}(hv:cd (.mk k its ps ns cl lv c e)=true)(h5:k≠5):aI Try.prog 10 [(true,aj (.mk k its ps ns cl lv c e))] [(false,[.sc (.int .i64 ((its.length+ps.length:Nat):Int))],true)]:=by
 have hw:=Nat.le_trans (Ci hv) (show 4020000<=1000000000 by decide);have h1:=eN _ hw;rw[hv]at h1;have g1:=gX k its ps ns cl lv c e (rU hw);have hn1:dX k its.length ps.length=((its.length+ps.length:Nat):Int):=by unfold dX;rw[if_neg h5];omega
 rw[hn1]at g1;simp only[aj,af,av]at h1 g1 ⊢;refine ah Try.func10 sK rfl ?_;simp only[kA]
 repeat' (first|(with_reducible first|refine ac ?_|refine ab ‹_› rfl ?_|refine ai (λhbr=>?_) λhbr=>?_)|simp(disch:=first|omega|(simp only[aq];omega)|simp only[ap,Nat.reduceAdd]) only[go_sem,true_and])
 all_goals rfl
theorem IM(t:Nat)(l:List Int)(n:Int)(hl:l.length<=100000000000):aI Try.prog 11 [(false,[.sl t 1 (l.map dD)]),(false,[.sc (.int .i64 n)])] [(false,[.sc (.bool (decide (n∈l)))],true)]:=by
 refine ah Try.func11 BZ rfl ?_;simp only[tS];simp(disch:=first|omega|(simp only[aq];omega)|simp only[ap,Nat.reduceAdd]) only[go_sem,true_and];refine lp (λi:Nat=>[.sc (.int .i64 i)]) (λi=>i<=l.length/\bP (λj=>!decide (l.getD j default=n)) i=true) (λi=>l.length-i) 0 rfl ⟨by omega,rfl⟩ ?_;rintro i ⟨hi,hb⟩;simp only[pQ]
 repeat' (first|(with_reducible first|refine ac ?_|refine ab ‹_› rfl ?_|refine ai (λhbr=>?_) λhbr=>?_)|simp(disch:=first|omega|(simp only[aq];omega)|simp only[ap,Nat.reduceAdd]) only[go_sem,true_and])
 ·exact bo (decide_eq_true (by rw[<-‹l.getD i default=n›];exact aG (by omega)))
 ·exact⟨i+1,rfl,⟨by omega,cz hb (by(first|(simp[-List.getD_eq_getElem?_getD,true_and, *];done)|(simp_all[-List.getD_eq_getElem?_getD,true_and];done)|(simp[-List.getD_eq_getElem?_getD,true_and, *];omega)|(simp_all[-List.getD_eq_getElem?_getD,true_and];omega)|omega))⟩,by omega⟩
 ·obtain rfl:i=l.length:=by omega
  exact bo (decide_eq_false (Ag.1 hb))
theorem DH{α β:Type}[Inhabited α][Inhabited β]{f:α->β}{l:List α}{i:Nat}(h:i<l.length):(l.map f).getD i default=f (l.getD i default):=by
 rw[List.getD_eq_getElem?_getD,List.getElem?_map,List.getD_eq_getElem?_getD,List.getElem?_eq_getElem h];rfl
theorem AL{k:Int}{its:List It}{ps:List aX}{ns cl:List ByteArray}{c e:Int}(h:VW k its ps ns cl [] c e)(hk:1<=k/\k<=3){l:List Int}(hl:l.length<=40):cd (gQ (.mk k its ps ns cl [] c e) l)=true:=by
 have hk4:¬k=4:=by omega
 have hN:∀x∈(if ns=[]then[]else l.map (co ns iY)),x.size<=60:=by
  intro x hx;split at hx
  ·cases hx
  ·obtain⟨y,hy,rfl⟩:=List.mem_map.1 hx;rcases tB (l:=ns) (d:=iY) (p:=y)with h1|h1
   ·exact l6 h.nm h1
   ·rw[h1];decide
 have hNl:(rx (if ns=[]then[]else l.map (co ns iY)))=[]\/(rx (if ns=[]then[]else l.map (co ns iY))).length=l.length:=by
  by_cases e:ns=[]
  ·rw[if_pos e];exact .inl rfl
  ·rw[if_neg e];refine(A5 _).imp id λh=>by rw[h];simp
 unfold cd;simp only[gQ];simp only[if_neg hk4,if_true];rw[Bool.and_eq_true,decide_eq_true_eq];constructor
 ·refine xw (by omega) (by simp;omega) (hNl.imp id λh=>by rw[h];simp) (Ml hN) (dR (by decide)) (dR (by decide)) (λ_=>rfl) (λ_=>rfl) (λhh=>absurd hh hk4) (λx hx=>?_) (wW rfl);obtain⟨y,hy,rfl⟩:=List.mem_map.1 hx;rcases tB (l:=its) (d:=bA) (p:=y)with h1|h1
  ·exact h.it _ h1
  ·rw[h1];exact B5 (by unfold ry;simp)
 ·rw[gp];have e3:bg (jY 3) []=0:=rfl;rw[e3];unfold dX;rw[if_neg (by omega)];simp only[List.length_nil,List.length_map];omega
theorem Ks(k:Int)(x:It):cvI k k x=x:=by unfold cvI;rw[if_pos (.inr (.inl rfl))]
theorem MT(k:Int)(l:List It):l.map (cvI k k)=l:=by
 have:cvI k k=id:=funext (Ks k);rw[this,List.map_id]
theorem Cn{k:Int}(hk:1<=k/\k<=3)(its:List It)(ps:List aX)(ns cl lv:List ByteArray)(c e:Int):nv (.mk k its ps ns cl lv c e) k=.mk k its [] ns [] [] 0 0:=by
 simp only[nv];rw[if_neg (by omega),if_neg (by omega),MT]
theorem BB{k:Int}(hk:1<=k/\k<=3):min 4 (max k k)=k:=by omega
theorem Aq{k:Int}(hk:1<=k/\k<=3)(its:List It)(ns cl lv:List ByteArray)(c e:Int)(l:List Int)(s:aX)(wi:List It):
 D1 (.mk k its [] ns cl lv c e) l s (fV k wi)=.mk k (jT wi l l.length (b9 its bA (max its.length (ru l).toNat))) [] (rx (DU ns l its.length (max its.length (ru l).toNat) (decide (lY s=3)) (GW s))) cl lv 0 0:=by
 have e1:lY (.mk k its [] ns cl lv c e)=k:=rfl;have e2:lY (fV k wi)=k:=rfl;have e3:UF (.mk k its [] ns cl lv c e) l=max its.length (ru l).toNat:=rfl;unfold D1;rw[e1,e2,BB hk,e3];unfold fV;rw[Cn hk,Cn hk];simp only[L0];rw[if_neg (by omega),if_neg (by omega)];rfl
theorem KH{k:Int}{its:List It}{ns cl:List ByteArray}{c e:Int}(h:VW k its [] ns cl [] c e)(hk:1<=k/\k<=3){s:aX}{l:List Int}(hr:dw its.length ns s=(l,eW))(hl:∀p∈l,1<=p/\p<=its.length)(hll:l.length<=40):AI (.mk k its [] ns cl [] c e) s (gQ (.mk k its [] ns cl [] c e) l)=(.mk k its [] ns cl [] c e,eW):=by
 obtain⟨rfl,rfl⟩:=h.ce (by omega);have h1:=AL h hk hll;have e1:rt (.mk k its [] ns cl [] 0 0)=its.length:=rfl;have e2:zk (.mk k its [] ns cl [] 0 0)=ns:=rfl;have e3:lY (.mk k its [] ns cl [] 0 0)=k:=rfl;have hil:=h.il;unfold AI;rw[if_pos ⟨h.vc,h1⟩,e1,e2,e3,hr,if_neg (by omega),if_neg (by simp),if_neg (λh0=>by have:=hl 0 h0;omega),if_neg (by omega)];simp only;by_cases hn:l=[]
 ·rw[if_pos hn]
 rw[if_neg hn];have hlp:0<l.length:=List.length_pos_iff.2 hn
 have hp:gQ (.mk k its [] ns cl [] 0 0) l=.mk k (l.map (co its bA)) [] (rx (if ns=[]then[]else l.map (co ns iY))) [] [] 0 0:=by
  simp only[gQ,if_neg (show¬k=4 by omega),if_true]
 rw[hp]
 have e4:fN (.mk k (l.map (co its bA)) [] (rx (if ns=[]then[]else l.map (co ns iY))) [] [] 0 0)=l.length:=by
  simp only[fN,dX];rw[if_neg (by omega)];simp
 rw[e4,if_neg (by omega),Nat.mod_self,if_neg (by simp),if_neg (λhh=>hh.1 rfl)]
 have e5:Rl (.mk k its [] ns cl [] 0 0) (.mk k (l.map (co its bA)) [] (rx (if ns=[]then[]else l.map (co ns iY))) [] [] 0 0)=fV k (l.map (co its bA)):=by
  simp only[Rl,D4,MZ,lY,GW,wl,Cm];rw[if_neg (by simp),if_pos (by omega)];simp
 rw[e5];have hmx:ru l<=(its.length:Int):=PN (by omega) λp hp=>(hl p hp).2
 have hmax:max its.length (ru l).toNat=its.length:=by omega
 have e6:D1 (.mk k its [] ns cl [] 0 0) l s (fV k (l.map (co its bA)))=.mk k its [] ns cl [] 0 0:=by
  rw[Aq hk,hmax,pc (Nat.le_refl _)];congr 1
  ·refine KG l its _ _ λa ha=>?_
   have h2:=hl _ (aG ha);refine⟨?_,by omega⟩;rw[List.length_map,Nat.mod_eq_of_lt ha,DH (by exact ha)];exact kO h2.1 h2.2
  ·have h3:∀a,a<l.length->l.getD a default<=its.length:=λa ha=>(hl _ (aG ha)).2
   unfold DU;rw[JB _ _ _ _ _ h3];by_cases hns:ns=[]
   ·subst hns;split
    ·unfold b9;rw[List.nil_append];exact Nr _
    ·rfl
   ·have h4:ns.length=its.length:=by
     rcases h.nl with h5|h5
     ·exact absurd h5 hns
     ·simpa using h5.2
    rw[if_neg hns,pc (by omega)];simp only[ite_self];exact Oz h.nm
 unfold Fc;rw[if_pos (by omega),e6];unfold pE;rw[if_pos h.vc]
theorem Tq{p:Int}(h:1<=p/\p<=1000):nA p 1=⟨p,1,ByteArray.empty⟩:=F7 (n:=p) (by omega)
theorem KW{k:Int}{its:List It}{ps:List aX}{ns cl lv:List ByteArray}{c e:Int}{s w u:aX}(h:AI (.mk k its ps ns cl lv c e) s w=(u,eW)):cd (.mk k its ps ns cl lv c e)=true/\cd w=true/\k≠5/\(dw (its.length+ps.length) ns s).2=eW/\¬0∈(dw (its.length+ps.length) ns s).1:=by
 unfold AI at h;rw[show lY (.mk k its ps ns cl lv c e)=k from rfl,show zk (.mk k its ps ns cl lv c e)=ns from rfl,show rt (.mk k its ps ns cl lv c e)=its.length+ps.length from rfl]at h;by_cases h1:cd (.mk k its ps ns cl lv c e)=true/\cd w=true
 ·rw[if_pos h1]at h;by_cases h2:k=5
  ·rw[if_pos h2]at h;cases h
  rw[if_neg h2]at h;by_cases h3:(dw (its.length+ps.length) ns s).2≠eW
  ·rw[if_pos h3]at h;exact absurd (congrArg Prod.snd h) h3
  rw[if_neg h3]at h;by_cases h4:0∈(dw (its.length+ps.length) ns s).1
  ·rw[if_pos h4]at h;cases h
  exact⟨h1.1,h1.2,h2,Classical.not_not.1 h3,h4⟩
 ·rw[if_neg h1]at h;cases h
theorem LS{k:Int}{its wi:List It}{wp:List aX}{ns cl wn wc:List ByteArray}{c e c2 e2:Int}{s u:aX}{l:List Int}(hk:1<=k/\k<=3)(hr:dw its.length ns s=(l,eW))(h:AI (.mk k its [] ns cl [] c e) s (.mk k wi wp wn wc [] c2 e2)=(u,eW))(hw:VW k wi wp wn wc [] c2 e2):
 (l=[]/\u=.mk k its [] ns cl [] c e)\/(l≠[]/\wi≠[]/\ru l<=40/\u=.mk k (jT wi l l.length (b9 its bA (max its.length (ru l).toNat))) [] (rx (DU ns l its.length (max its.length (ru l).toNat) (decide (lY s=3)) (GW s))) cl [] 0 0):=by
 have ⟨hv,_⟩:=KW h;unfold AI at h;rw[if_pos ⟨hv,hw.vc⟩,show lY (.mk k its [] ns cl [] c e)=k from rfl,show zk (.mk k its [] ns cl [] c e)=ns from rfl,show rt (.mk k its [] ns cl [] c e)=its.length from rfl,if_neg (by omega),hr,if_neg (by simp)]at h;simp only at h;by_cases h4:(0:Int)∈l
 ·rw[if_pos h4]at h;cases h
 rw[if_neg h4,show lY (.mk k wi wp wn wc [] c2 e2)=k from rfl,if_neg (by omega)]at h;by_cases hl:l=[]
 ·rw[if_pos hl]at h;exact .inl ⟨hl,(congrArg Prod.fst h).symm⟩
 rw[if_neg hl]at h;have hwp:=hw.p0 (by omega);subst hwp;have hlw:fN (.mk k wi [] wn wc [] c2 e2)=wi.length:=by simp only[fN,dX];rw[if_neg (by omega)];simp
 rw[hlw]at h;by_cases hm:wi.length=0
 ·rw[if_pos hm]at h;cases h
 rw[if_neg hm]at h;by_cases hd:l.length % wi.length≠0
 ·rw[if_pos hd]at h;cases h
 rw[if_neg hd,if_neg (λhh=>hh.1 rfl)]at h
 have had:Rl (.mk k its [] ns cl [] c e) (.mk k wi [] wn wc [] c2 e2)=fV k wi:=by
  show D4 [] _=_;rw[mf,if_neg (by simp),if_pos (by omega)];unfold wl Cm;simp
 rw[had]at h;unfold Fc at h;by_cases hx:ru l<=40
 ·rw[if_pos hx,Aq hk]at h;refine .inr ⟨hl,λe=>hm (by rw[e];rfl),hx,?_⟩;unfold pE at h;split at h
  ·exact(congrArg Prod.fst h).symm
  ·cases h
 ·rw[if_neg hx]at h;cases h
theorem K0{n:Nat}{names:List ByteArray}{l:List Int}(h:∀p∈l,1<=p/\p<=40)(hl:l.length<=40):dw n names (fV (la l).1 (la l).2)=(l,eW):=by
 have e1:la l=(2,l.map λp=>nA p 1):=by unfold la;rw[if_neg (by omega)]
 have e2:(l.map λp=>nA p 1)=l.map λp=>(⟨p,1,ByteArray.empty⟩:It):=List.map_congr_left λp hp=>Tq (by have:=h p hp;omega)
 rw[e1,e2]
 have hv:cd (fV 2 (l.map λp=>(⟨p,1,ByteArray.empty⟩:It)))=true:=by
  refine Jq (by decide) (by simpa using hl) λx hx=>?_
  obtain⟨p,hp,rfl⟩:=List.mem_map.1 hx;have:=h p hp;have e3:(⟨p,1,ByteArray.empty⟩:It)=Dp p:=rfl;unfold ry;rw[if_neg (by decide),if_pos rfl,e3,x9 (by omega),Bool.or_true]
 show dw n names (.mk 2 _ [] [] [] [] 0 0)=_;have hv:cd (.mk 2 (l.map λp=>(⟨p,1,ByteArray.empty⟩:It)) [] [] [] [] 0 0)=true:=hv;simp only[dw];rw[if_pos hv,if_neg (by decide),if_pos trivial];unfold oc
 have e4:(l.map λp=>(⟨p,1,ByteArray.empty⟩:It)).findSome? Af=none:=by
  refine List.findSome?_eq_none_iff.2 λx hx=>?_
  obtain⟨p,hp,rfl⟩:=List.mem_map.1 hx;have:=h p hp;unfold Af;rw[if_neg (by simp),if_pos (by simp only;omega)]
 have e5:(l.map λp=>(⟨p,1,ByteArray.empty⟩:It)).any wo=false:=by
  rw[List.any_eq_false];intro x hx;obtain⟨p,hp,rfl⟩:=List.mem_map.1 hx;have:=h p hp;unfold wo;simp;omega
 have e6:(l.map λp=>(⟨p,1,ByteArray.empty⟩:It)).filterMap rz=l:=by
  rw[List.filterMap_map]
  have:l.filterMap (rz∘λp=>(⟨p,1,ByteArray.empty⟩:It))=l.filterMap some:=yj λp hp=>by
   have:=h p hp;show rz _=_;unfold rz;rw[if_pos (.inl (by simp only;omega))]
  rw[this];simp
 rw[e4];simp only[e5,e6,Bool.false_and,Bool.false_eq_true,if_false]
theorem MO{k:Int}{its wi:List It}{cl:List ByteArray}{u:aX}{l:List Int}(hk:1<=k/\k<=3){N:List ByteArray}(hu:u=.mk k (jT wi l l.length (b9 its bA (max its.length (ru l).toNat))) [] N cl [] 0 0)(hv:cd u=true)(hl:l.length<=40)(hp:∀p∈l,1<=p/\p<=80)(hx:ru l<=40)(hd:∀i,i<l.length->¬l.getD i default∈l.take i):
 ∃y:aX,yW u (fV (la l).1 (la l).2)=(y,eW)/\(GW y).length=l.length/\∀i,i<l.length->(GW y).getD i default=wi.getD (i % wi.length) default:=by
 have hp2:∀p∈l,1<=p/\p<=40:=λp h=>by have:=hp p h;have:=yD h;omega
 have hX:(jT wi l l.length (b9 its bA (max its.length (ru l).toNat))).length=max its.length (ru l).toNat:=by rw[gu,eR];omega
 have hin:=λi (hi:i<l.length)=>@Ke It _ wi l (b9 its bA (max its.length (ru l).toNat)) i l.length (λa ha b hb e=>by
  have h1:=hp2 _ (aG ha);have h2:=hp2 _ (aG (show b<l.length by omega));have h3:l.getD a default=l.getD b default:=by omega
  apply hd a ha;rw[h3];rw[List.mem_iff_getElem];refine⟨b,by rw[List.length_take];omega,?_⟩;rw[List.getElem_take,List.getD_eq_getElem?_getD,List.getElem?_eq_getElem (by omega)];rfl) hi (by
  have h1:=hp2 _ (aG hi);have h2:=yD (aG hi)
  rw[eR];omega)
 generalize jT wi l l.length (b9 its bA (max its.length (ru l).toNat))=X at hX hin hu;subst hu;have h:=vw hv;refine⟨gQ (.mk k X [] N cl [] 0 0) l,?_,?_,?_⟩
 ·unfold yW;rw[if_pos hv,show lY (.mk k X [] N cl [] 0 0)=k from rfl,if_neg (by omega),K0 hp2 hl,if_neg (by simp),if_neg (by omega)];unfold pE;rw[if_pos (AL h hk hl)]
 ·simp only[gQ,GW];rw[if_neg (by omega)];simp
 ·intro i hi;have h1:=hp2 _ (aG hi);have h2:=yD (aG hi);simp only[gQ,GW];rw[if_neg (by omega),DH hi,kO h1.1 (by rw[hX];omega)];exact hin i hi
theorem RN{its wi:List It}{l:List Int}{T q:Nat}(hq:q<its.length)(h0:∀p∈l,1<=p)(h:¬((q+1:Nat):Int)∈l):(jT wi l l.length (b9 its bA T)).getD q default=its.getD q default:=by
 rw[FS,IW hq];intro j hj e;have h1:=h0 _ (aG hj);apply h;have h2:l.getD j default=((q+1:Nat):Int):=by omega
 rw[<-h2];exact aG hj
theorem L1{k:Int}{its:List It}{ps:List aX}{ns cl lv:List ByteArray}{c e:Int}(h:VW k its ps ns cl lv c e)(l:List Int):ck (Bf (.mk k its ps ns cl lv c e) l)<=1000000000:=by
 have h1:=DM h (l:=hZ (rt (.mk k its ps ns cl lv c e)) l) (by have:=oQ (rt (.mk k its ps ns cl lv c e)) l;have:=h.l40;have e1:rt (.mk k its ps ns cl lv c e)=its.length+ps.length:=rfl;omega);have h2:=ep (l:=cl) (m:=3) (λx hx=>dN h.lc hx) h.c3;unfold Bf;rw[show S4 (.mk k its ps ns cl lv c e)=cl from rfl];generalize gQ (.mk k its ps ns cl lv c e) (hZ (rt (.mk k its ps ns cl lv c e)) l)=P at h1;obtain⟨K,I,PS,N,CL,LV,C,E⟩:=P;show ck (.mk K I PS N cl LV C E)<=_;rw[eV]at h1 ⊢;omega
theorem NB(v:aX):ck (pE v).1<=1000000000:=by
 unfold pE;split
 ·rename_i h;have:=Ci h;simp only;omega
 ·have:=@vj 0;simp only;omega
theorem QQ(v s w:aX)(hw:ck v<=1000000000):ck (AI v s w).1<=1000000000:=by
 have h0:ck (fV 0 [])<=1000000000:=by have:=@vj 0;omega
 unfold AI;split
 ·rename_i h;obtain⟨k,its,ps,ns,cl,lv,c,e⟩:=v;split
  ·exact h0
  split
  ·exact h0
  split
  ·exact h0
  split
  ·exact L1 (vw h.1) _
  split
  ·exact hw
  split
  ·exact h0
  split
  ·exact h0
  split
  ·exact h0
  ·unfold Fc;split
   ·exact NB _
   ·exact h0
 ·exact h0
def ng:List aP:=[⟨2000002,10,⟨[aa 75 50,aa 64 51,aa 62 49,aa 55 44,aa 50 41,aa 44 38,aa 27 37,aa 26 35,aa 25 33,bi 24 4 4,aa 10 36,aa 21 31,aa 9 29,bi 8 4 4,aa 7 27,al 6 3 3 0,al 5 2 2 0,al 4 1 1 0,al 3 0 0 0,(0,.p true [.d 0,.d 1,.d 2,.d 3,.d 4,.d 5,.d 6,.d 7]),(1,.p true [.d 8,.d 9,.d 10,.d 11,.d 12,.d 13,.d 14,.d 15]),(2,.p true [.d 16,.d 17,.d 18,.d 19,.d 20,.d 21,.d 22,.d 23])],[(0,.var 0 28 [.d 0,.d 1,.d 2,.d 3,.d 4,.d 5,.d 6,.d 7]),(1,.var 1 28 [.d 8,.d 9,.d 10,.d 11,.d 12,.d 13,.d 14,.d 15]),(2,.var 2 28 [.d 52,.d 53,.d 54,.d 55,.d 56,.d 57,.d 58,.d 59]),(3,.var 3 28 [.d 24,.nil,.nil,.nil,.nil,.nil,.d 25,.d 26]),(4,.row 4 3 1 28)],5,5,60,[(49,false),(44,false),(41,false),(38,false),(37,false),(31,false)]⟩,[⟨false,2,501,0,0⟩,⟨false,2,502,0,0⟩,⟨false,2,503,0,0⟩,⟨false,2,504,0,0⟩,⟨false,2,505,0,0⟩]⟩,⟨12,1,⟨[aa 44 38,aa 27 37,aa 26 35,aa 25 33,bi 24 4 4,aa 10 36,aa 21 31,aa 9 29,bi 8 4 4,aa 7 27,al 6 3 3 0,al 5 2 2 0,al 4 1 1 0,al 3 0 0 0,(0,.p true [.d 0,.d 1,.d 2,.d 3,.d 4,.d 5,.d 6,.d 7]),(1,.p true [.d 8,.d 9,.d 10,.d 11,.d 12,.d 13,.d 14,.d 15]),(2,.p true [.d 16,.d 17,.d 18,.d 19,.d 20,.d 21,.d 22,.d 23])],[(0,.var 0 28 [.d 0,.d 1,.d 2,.d 3,.d 4,.d 5,.d 6,.d 7]),(1,.var 1 28 [.d 8,.d 9,.d 10,.d 11,.d 12,.d 13,.d 14,.d 15]),(2,.var 2 28 [.d 16,.d 17,.d 18,.d 19,.d 20,.d 21,.d 22,.d 23]),(3,.var 3 28 [.d 24,.nil,.nil,.nil,.nil,.nil,.d 25,.d 26]),(4,.row 4 3 1 28)],5,5,39,[(37,false),(31,false)]⟩,[]⟩,⟨3000006,2,⟨[aa 26 35,aa 25 33,bi 24 4 4,aa 10 36,aa 21 31,aa 9 29,bi 8 4 4,aa 7 27,al 6 3 3 0,al 5 2 2 0,al 4 1 1 0,al 3 0 0 0,(0,.p true [.d 0,.d 1,.d 2,.d 3,.d 4,.d 5,.d 6,.d 7]),(1,.p true [.d 8,.d 9,.d 10,.d 11,.d 12,.d 13,.d 14,.d 15]),(2,.p true [.d 16,.d 17,.d 18,.d 19,.d 20,.d 21,.d 22,.d 23])],[(0,.var 0 28 [.d 0,.d 1,.d 2,.d 3,.d 4,.d 5,.d 6,.d 7]),(1,.var 1 28 [.d 8,.d 9,.d 10,.d 11,.d 12,.d 13,.d 14,.d 15]),(2,.var 2 28 [.d 16,.d 17,.d 18,.d 19,.d 20,.d 21,.d 22,.d 23]),(3,.var 3 28 [.d 24,.nil,.nil,.nil,.nil,.nil,.d 25,.d 26]),(4,.row 4 3 1 28)],5,5,37,[(31,false)]⟩,[]⟩]
def no:List (Nat×Nat×Bool×List Nat):=[]
def fy:UP:=.sel [0,1,2,3,4,5,6,7,10,11,20,21,22,23,24,25,26,27,28,29,30,31,32,33,34,35]<|.cl 23 [(true,[25,24,23,22,21,20,19,18]),(false,[9]),(true,[17,16,15,14,13,12,11,10]),(true,[7,6,5,4,3,2,1,0]),(false,[8])] fX<|.c 8<|.c 2<|.c 1<|.c 0<|.ret [(true,[8,7,6,5,4,3,2,1]),(false,[0])]
def bw:UP:=.ite 0 (.sel [2,19,20,21,22,23,24,25,26]<|.cl 17 [(true,[8,7,6,5,4,3,2,1]),(false,[0])] cb<|.s #[]<|.c 8<|.c 2<|.c 1<|.c 0<|.ret [(true,[8,7,6,5,4,3,2,1]),(false,[0])])<|.l 2<|.i 0<|.e 1 0<|.ite 0 (.sel [22,23,24,25,26,27,28,29]<|.cl 18 [(true,[7,6,5,4,3,2,1,0])] cb<|.s #[]<|.c 8<|.c 2<|.c 1<|.c 0<|.ret [(true,[8,7,6,5,4,3,2,1]),(false,[0])])<|.sel [4,5,6,7,8,9,10,11,12,13,14,15,16,17,18,19,20,21,22,23,24,25,26,27,28,29]<|.cl 19 [(true,[9,8,7,6,5,4,3,2])] aD<|.i 0<|.e 1 0<|.ite 0 (.i 0<|.i 0<|.i 0<|.s #[114,101,112,108,97,99,101,109,101,110,116,32,104,97,115,32,108,101,110,103,116,104,32,122,101,114,111]<|.c 3<|.po (.e 42 3)<|.po (.e 28 8)<|.po (.e 9 1)<|.po (.e 9 1)<|.po (.e 9 1)<|.c 7<|.c 6<|.c 5<|.ret [(true,[8,4,3,2,1,0,7,6]),(false,[5])])<|.l 4<|.cl 19 [(true,[13,12,11,10,9,8,7,6])] aD<|.b .rem 1 0<|.i 0<|.b .neq 1 0<|.ite 0 (.i 0<|.i 0<|.i 0<|.s #[108,101,110,103,116,104,115,32,100,111,32,110,111,116,32,109,97,116,99,104]<|.c 3<|.po (.e 42 3)<|.po (.e 28 8)<|.po (.e 9 1)<|.po (.e 9 1)<|.po (.e 9 1)<|.c 7<|.c 6<|.c 5<|.ret [(true,[8,4,3,2,1,0,7,6]),(false,[5])])<|.sel [8,9,10,11,12,13,14,15,16,17,18,19,20,21,22,23,24,25,26,27,28,29,30,31,32,33]<|.join 10 fy<|.l 20<|.i 0<|.b .gtr 1 0<|.ite 0 (.i 4<|.b .geq 13 0<|.ite 0 (.i 0<|.i 0<|.i 0<|.s #[110,111,116,32,97,110,32,97,116,111,109,105,99,32,118,101,99,116,111,114]<|.c 3<|.po (.e 42 3)<|.po (.e 28 8)<|.po (.e 9 1)<|.po (.e 9 1)<|.po (.e 9 1)<|.c 7<|.c 6<|.c 5<|.ret [(true,[8,4,3,2,1,0,7,6]),(false,[5])])<|.l 25<|.i 0<|.b .gtr 1 0<|.ite 0 (.sel [0,3,10,11,12,13,14,15,16,17,28]<|.cl 20 [(true,[9,8,7,6,5,4,3,2]),(false,[10])] cb<|.jump 1 [8,9,7,6,5,4,3,2,1,0])<|.sel [0,3,10,11,12,13,14,15,16,17]<|.cl 21 [(true,[9,8,7,6,5,4,3,2])] aD<|.ite 0 (.cl 22 [(true,[10,9,8,7,6,5,4,3])] cb<|.jump 1 [9,10,7,6,5,4,3,2,1,0])<|.jump 1 [1,2,10,9,8,7,6,5,4,3])<|.f<|.l 24<|.i 0<|.b .gtr 1 0<|.ite 0 (.sel [0,3,9,10,11,12,13,14,15,16,27]<|.cl 20 [(true,[9,8,7,6,5,4,3,2]),(false,[10])] cb<|.jump 1 [8,9,7,6,5,4,3,2,1,0])<|.sel [0,3,9,10,11,12,13,14,15,16]<|.cl 21 [(true,[9,8,7,6,5,4,3,2])] aD<|.ite 0 (.cl 22 [(true,[10,9,8,7,6,5,4,3])] cb<|.jump 1 [9,10,7,6,5,4,3,2,1,0])<|.jump 1 [1,2,10,9,8,7,6,5,4,3]
def fw:UP:=.b .lss 1 3<|.ite 0 (.z 2<|.po (.chk 1 9 2)<|.x 1 9 2<|.i 0<|.e 1 0<|.ite 0 (.i 0<|.i 0<|.i 0<|.s #[109,105,115,115,105,110,103,32,115,117,98,115,99,114,105,112,116]<|.c 3<|.po (.e 42 3)<|.po (.e 28 8)<|.po (.e 9 1)<|.po (.e 9 1)<|.po (.e 9 1)<|.c 7<|.c 6<|.c 5<|.ret [(true,[8,4,3,2,1,0,7,6]),(false,[5])])<|.po (.mm true 4 2)<|.i 1<|.a 7 0<|.jump 0 [0,2])<|.sel [1,9,10,11,12,13,14,15,16,17,18,19,20,21,22,23,24,25,26,27,28,29,30,31,32,33]<|.join 1 bw<|.i 4<|.e 26 0<|.ite 0 (.i 0<|.e 12 0<|.jump 1 [0])<|.f<|.jump 1 [0]
def ci:UP:=.i 0<|.i 0<|.i 0<|.s #[]<|.sel [4,5,6,7,8,9,10,11,12,13,14,15,16,17,18,19,20,21,22,23,24,25,26,27]<|.cl 16 [(true,[23,22,21,20,19,18,17,16]),(true,[15,14,13,12,11,10,9,8]),(true,[7,6,5,4,3,2,1,0])] rV<|.s #[]<|.b .neq 1 0<|.ite 0 (.i 0<|.i 0<|.i 0<|.c 2<|.po (.e 42 3)<|.po (.e 28 8)<|.po (.e 9 1)<|.po (.e 9 1)<|.po (.e 9 1)<|.c 6<|.c 5<|.c 10<|.ret [(true,[7,4,3,2,1,0,6,5]),(false,[10])])<|.i 0<|.l 4<|.i 0<|.loop [0,2] fw
theorem cU:aR Try.prog 6 Try.f6 cV ng no=some ([(true,8),(true,8),(true,8)],ci):=by kernel_rfl
def mr:List aP:=[]
def mw:List (Nat×Nat×Bool×List Nat):=[(5,10,false,[])]
def bX:UP:=.s #[]<|.cl 39 [(true,[24,23,22,21,20,19,18,17])] aD<|.n 0<|.ite 0 (.t<|.s #[105,110,118,97,108,105,100,32,118,101,99,116,111,114]<|.po (.e 3 1)<|.c 1<|.ret [(false,[0]),(false,[1])])<|.cl 39 [(true,[10,9,8,7,6,5,4,3])] aD<|.n 0<|.ite 0 (.s #[105,110,118,97,108,105,100,32,118,101,99,116,111,114]<|.po (.e 3 1)<|.c 1<|.ret [(false,[0]),(false,[1])])<|.i 5<|.e 29 0<|.ite 0 (.s #[110,111,116,32,97,32,118,101,99,116,111,114,32,111,102,32,101,108,101,109,101,110,116,115]<|.po (.e 3 1)<|.c 1<|.ret [(false,[0]),(false,[1])])<|.sel [15,16,17,18,19,20,21,22,23,24,25,26,27,28,29,30]<|.cl 19 [(true,[15,14,13,12,11,10,9,8])] aD<|.sel [0,1,2,3,4,5,6,7,8,13]<|.cl 40 [(false,[0]),(false,[9]),(true,[8,7,6,5,4,3,2,1])] rV<|.c 0<|.c 0<|.ret [(false,[1]),(false,[0])]
theorem cO:aR Try.prog 16 Try.f16 cV mr mw=some ([(true,8),(true,8),(true,8)],bX):=by kernel_rfl
def sP:List aP:=[]
def sG:List (Nat×Nat×Bool×List Nat):=[]
def kg:UP:=.i 0<|.i 5<|.e 2 0<|.ite 0 (.i 4<|.c 0<|.r 0)<|.c 3<|.r 3
theorem s5:aR Try.prog 59 Try.f59 cV sP sG=some ([(false,1)],kg):=by kernel_rfl
def t7:List aP:=[⟨2000003,6,⟨[aa 140 77,aa 105 78,aa 20 79,aa 19 72,aa 100 76,aa 99 72,aa 98 70,aa 97 8,aa 70 69,aa 18 64,aa 60 61,aa 17 60,al 15 12 12 0,al 13 6 6 0,aa 28 33,aa 12 31,aa 11 29,al 10 3 3 0,al 8 2 2 0,al 7 1 1 0,al 5 0 0 0,(0,.p true [.d 0,.d 1,.d 2,.d 3,.d 4,.d 5,.d 6,.d 7]),aa 1 8,(2,.p true [.d 9,.d 10,.d 11,.d 12,.d 13,.d 14,.d 15,.d 16]),(3,.p true [.d 17,.d 18,.d 19,.d 20,.d 21,.d 22,.d 23,.d 24]),aa 4 25],[(0,.var 0 28 [.d 0,.d 1,.d 2,.d 3,.d 4,.d 5,.d 6,.d 7]),(1,.var 1 28 [.d 9,.d 10,.d 11,.d 12,.d 13,.d 14,.d 15,.d 16]),(2,.var 2 28 [.d 17,.d 18,.d 19,.d 20,.d 21,.d 22,.d 23,.d 24]),(3,.var 3 28 [.d 26,.nil,.nil,.nil,.nil,.nil,.d 27,.d 28]),(6,.var 6 28 [.d 34,.own 4 4,.own 5 5,.own 15 15,.own 13 13,.own 14 14,.d 40,.d 41]),(14,.row 14 9 1 59),(13,.row 13 9 1 58),(15,.row 15 9 1 80),(5,.row 5 28 8 81),(4,.row 4 42 3 82),(12,.var 12 28 [.d 46,.own 7 7,.own 8 8,.own 9 9,.own 10 10,.own 11 11,.d 52,.d 53]),(11,.row 11 9 1 51),(10,.row 10 9 1 50),(9,.row 9 9 1 49),(8,.row 8 28 8 48),(7,.row 7 42 3 47)],16,16,83,[(76,true),(69,false),(33,false)]⟩,[]⟩,⟨1000022,2,⟨[aa 105 79,aa 20 77,aa 19 72,aa 100 76,aa 99 72,aa 98 70,aa 97 8,aa 70 69,aa 18 64,aa 60 61,aa 17 60,al 15 12 12 0,al 13 6 6 0,aa 28 33,aa 12 31,aa 11 29,al 10 3 3 0,al 8 2 2 0,al 7 1 1 0,al 5 0 0 0,(0,.p true [.d 0,.d 1,.d 2,.d 3,.d 4,.d 5,.d 6,.d 7]),aa 1 8,(2,.p true [.d 9,.d 10,.d 11,.d 12,.d 13,.d 14,.d 15,.d 16]),(3,.p true [.d 17,.d 18,.d 19,.d 20,.d 21,.d 22,.d 23,.d 24]),aa 4 25],[(0,.var 0 28 [.d 0,.d 1,.d 2,.d 3,.d 4,.d 5,.d 6,.d 7]),(1,.var 1 28 [.d 9,.d 10,.d 11,.d 12,.d 13,.d 14,.d 15,.d 16]),(2,.var 2 28 [.d 17,.d 18,.d 19,.d 20,.d 21,.d 22,.d 23,.d 24]),(3,.var 3 28 [.d 26,.nil,.nil,.nil,.nil,.nil,.d 27,.d 28]),(6,.var 6 28 [.d 34,.own 4 4,.own 5 5,.own 15 15,.own 13 13,.own 14 14,.d 40,.d 41]),(14,.row 14 9 1 59),(13,.row 13 9 1 58),(15,.row 15 9 1 73),(5,.row 5 28 8 80),(4,.row 4 42 3 81),(12,.var 12 28 [.d 46,.own 7 7,.own 8 8,.own 9 9,.own 10 10,.own 11 11,.d 52,.d 53]),(11,.row 11 9 1 51),(10,.row 10 9 1 50),(9,.row 9 9 1 49),(8,.row 8 28 8 48),(7,.row 7 42 3 47)],16,16,82,[(76,true),(69,false),(33,false)]⟩,[]⟩,⟨3000019,4,⟨[aa 99 72,aa 98 70,aa 97 8,aa 70 69,aa 18 64,aa 60 61,aa 17 60,al 15 12 12 0,al 13 6 6 0,aa 28 33,aa 12 31,aa 11 29,al 10 3 3 0,al 8 2 2 0,al 7 1 1 0,al 5 0 0 0,(0,.p true [.d 0,.d 1,.d 2,.d 3,.d 4,.d 5,.d 6,.d 7]),aa 1 8,(2,.p true [.d 9,.d 10,.d 11,.d 12,.d 13,.d 14,.d 15,.d 16]),(3,.p true [.d 17,.d 18,.d 19,.d 20,.d 21,.d 22,.d 23,.d 24]),aa 4 25],[(0,.var 0 28 [.d 0,.d 1,.d 2,.d 3,.d 4,.d 5,.d 6,.d 7]),(1,.var 1 28 [.d 9,.d 10,.d 11,.d 12,.d 13,.d 14,.d 15,.d 16]),(2,.var 2 28 [.d 17,.d 18,.d 19,.d 20,.d 21,.d 22,.d 23,.d 24]),(3,.var 3 28 [.d 26,.nil,.nil,.nil,.nil,.nil,.d 27,.d 28]),(6,.var 6 28 [.d 34,.own 4 4,.own 5 5,.own 15 15,.own 13 13,.own 14 14,.d 40,.d 41]),(14,.row 14 9 1 59),(13,.row 13 9 1 58),(15,.row 15 9 1 73),(5,.row 5 28 8 74),(4,.row 4 42 3 75),(12,.var 12 28 [.d 46,.own 7 7,.own 8 8,.own 9 9,.own 10 10,.own 11 11,.d 52,.d 53]),(11,.row 11 9 1 51),(10,.row 10 9 1 50),(9,.row 9 9 1 49),(8,.row 8 28 8 48),(7,.row 7 42 3 47)],16,16,76,[(69,false),(33,false)]⟩,[]⟩,⟨2000001,5,⟨[aa 91 70,aa 72 71,aa 70 69,aa 18 64,aa 60 61,aa 17 60,al 15 12 11 0,al 13 6 5 0,aa 28 33,aa 12 31,aa 11 29,al 10 3 3 0,al 8 2 2 0,al 7 1 1 0,al 5 0 0 0,(0,.p true [.d 0,.d 1,.d 2,.d 3,.d 4,.d 5,.d 6,.d 7]),aa 1 8,(2,.p true [.d 9,.d 10,.d 11,.d 12,.d 13,.d 14,.d 15,.d 16]),(3,.p true [.d 17,.d 18,.d 19,.d 20,.d 21,.d 22,.d 23,.d 24]),aa 4 25],[(0,.var 0 28 [.d 0,.d 1,.d 2,.d 3,.d 4,.d 5,.d 6,.d 7]),(1,.var 1 28 [.d 9,.d 10,.d 11,.d 12,.d 13,.d 14,.d 15,.d 16]),(2,.var 2 28 [.d 17,.d 18,.d 19,.d 20,.d 21,.d 22,.d 23,.d 24]),(3,.var 3 28 [.d 26,.nil,.nil,.nil,.nil,.nil,.d 27,.d 28]),(6,.var 5 28 [.d 34,.own 4 4,.own 5 14,.own 15 15,.own 13 12,.own 14 13,.d 40,.d 41]),(14,.row 13 9 1 59),(13,.row 12 9 1 58),(15,.row 15 9 1 72),(5,.row 14 28 8 73),(4,.row 4 42 3 74),(12,.var 11 28 [.d 46,.own 7 6,.own 8 7,.own 9 8,.own 10 9,.own 11 10,.d 52,.d 53]),(11,.row 10 9 1 51),(10,.row 9 9 1 50),(9,.row 8 9 1 49),(8,.row 7 28 8 48),(7,.row 6 42 3 47)],16,16,75,[(69,true),(33,false)]⟩,[]⟩,⟨1000014,2,⟨[aa 72 71,aa 70 69,aa 18 64,aa 60 61,aa 17 60,al 15 12 11 0,al 13 6 5 0,aa 28 33,aa 12 31,aa 11 29,al 10 3 3 0,al 8 2 2 0,al 7 1 1 0,al 5 0 0 0,(0,.p true [.d 0,.d 1,.d 2,.d 3,.d 4,.d 5,.d 6,.d 7]),aa 1 8,(2,.p true [.d 9,.d 10,.d 11,.d 12,.d 13,.d 14,.d 15,.d 16]),(3,.p true [.d 17,.d 18,.d 19,.d 20,.d 21,.d 22,.d 23,.d 24]),aa 4 25],[(0,.var 0 28 [.d 0,.d 1,.d 2,.d 3,.d 4,.d 5,.d 6,.d 7]),(1,.var 1 28 [.d 9,.d 10,.d 11,.d 12,.d 13,.d 14,.d 15,.d 16]),(2,.var 2 28 [.d 17,.d 18,.d 19,.d 20,.d 21,.d 22,.d 23,.d 24]),(3,.var 3 28 [.d 26,.nil,.nil,.nil,.nil,.nil,.d 27,.d 28]),(6,.var 5 28 [.d 34,.own 4 4,.own 5 15,.own 15 14,.own 13 12,.own 14 13,.d 40,.d 41]),(14,.row 13 9 1 59),(13,.row 12 9 1 58),(15,.row 14 9 1 65),(5,.row 15 28 8 72),(4,.row 4 42 3 73),(12,.var 11 28 [.d 46,.own 7 6,.own 8 7,.own 9 8,.own 10 9,.own 11 10,.d 52,.d 53]),(11,.row 10 9 1 51),(10,.row 9 9 1 50),(9,.row 8 9 1 49),(8,.row 7 28 8 48),(7,.row 6 42 3 47)],16,16,74,[(69,true),(33,false)]⟩,[]⟩,⟨3000012,3,⟨[aa 18 64,aa 60 61,aa 17 60,al 15 12 12 0,al 13 6 6 0,aa 28 33,aa 12 31,aa 11 29,al 10 3 3 0,al 8 2 2 0,al 7 1 1 0,al 5 0 0 0,(0,.p true [.d 0,.d 1,.d 2,.d 3,.d 4,.d 5,.d 6,.d 7]),aa 1 8,(2,.p true [.d 9,.d 10,.d 11,.d 12,.d 13,.d 14,.d 15,.d 16]),(3,.p true [.d 17,.d 18,.d 19,.d 20,.d 21,.d 22,.d 23,.d 24]),aa 4 25],[(0,.var 0 28 [.d 0,.d 1,.d 2,.d 3,.d 4,.d 5,.d 6,.d 7]),(1,.var 1 28 [.d 9,.d 10,.d 11,.d 12,.d 13,.d 14,.d 15,.d 16]),(2,.var 2 28 [.d 17,.d 18,.d 19,.d 20,.d 21,.d 22,.d 23,.d 24]),(3,.var 3 28 [.d 26,.nil,.nil,.nil,.nil,.nil,.d 27,.d 28]),(6,.var 6 28 [.d 34,.own 4 4,.own 5 5,.own 15 15,.own 13 13,.own 14 14,.d 40,.d 41]),(14,.row 14 9 1 59),(13,.row 13 9 1 58),(15,.row 15 9 1 65),(5,.row 5 28 8 66),(4,.row 4 42 3 67),(12,.var 12 28 [.d 46,.own 7 7,.own 8 8,.own 9 9,.own 10 10,.own 11 11,.d 52,.d 53]),(11,.row 11 9 1 51),(10,.row 10 9 1 50),(9,.row 9 9 1 49),(8,.row 8 28 8 48),(7,.row 7 42 3 47)],16,16,68,[(33,false)]⟩,[]⟩,⟨1000010,1,⟨[aa 60 61,aa 17 60,al 15 12 12 0,al 13 6 6 0,aa 28 33,aa 12 31,aa 11 29,al 10 3 3 0,al 8 2 2 0,al 7 1 1 0,al 5 0 0 0,(0,.p true [.d 0,.d 1,.d 2,.d 3,.d 4,.d 5,.d 6,.d 7]),aa 1 8,(2,.p true [.d 9,.d 10,.d 11,.d 12,.d 13,.d 14,.d 15,.d 16]),(3,.p true [.d 17,.d 18,.d 19,.d 20,.d 21,.d 22,.d 23,.d 24]),aa 4 25],[(0,.var 0 28 [.d 0,.d 1,.d 2,.d 3,.d 4,.d 5,.d 6,.d 7]),(1,.var 1 28 [.d 9,.d 10,.d 11,.d 12,.d 13,.d 14,.d 15,.d 16]),(2,.var 2 28 [.d 17,.d 18,.d 19,.d 20,.d 21,.d 22,.d 23,.d 24]),(3,.var 3 28 [.d 26,.nil,.nil,.nil,.nil,.nil,.d 27,.d 28]),(6,.var 6 28 [.d 34,.own 4 4,.own 5 5,.own 15 15,.own 13 13,.own 14 14,.d 40,.d 41]),(14,.row 14 9 1 59),(13,.row 13 9 1 58),(15,.row 15 9 1 62),(5,.row 5 28 8 36),(4,.row 4 42 3 35),(12,.var 12 28 [.d 46,.own 7 7,.own 8 8,.own 9 9,.own 10 10,.own 11 11,.d 52,.d 53]),(11,.row 11 9 1 51),(10,.row 10 9 1 50),(9,.row 9 9 1 49),(8,.row 8 28 8 48),(7,.row 7 42 3 47)],16,16,63,[(33,false)]⟩,[]⟩,⟨9,1,⟨[aa 60 61,aa 17 60,al 15 13 13 0,al 13 7 7 0,aa 28 33,aa 12 31,aa 11 29,al 10 3 3 0,al 8 2 2 0,al 7 1 1 0,al 5 0 0 0,(0,.p true [.d 0,.d 1,.d 2,.d 3,.d 4,.d 5,.d 6,.d 7]),aa 1 8,(2,.p true [.d 9,.d 10,.d 11,.d 12,.d 13,.d 14,.d 15,.d 16]),(3,.p true [.d 17,.d 18,.d 19,.d 20,.d 21,.d 22,.d 23,.d 24]),aa 4 25],[(0,.var 0 28 [.d 0,.d 1,.d 2,.d 3,.d 4,.d 5,.d 6,.d 7]),(1,.var 1 28 [.d 9,.d 10,.d 11,.d 12,.d 13,.d 14,.d 15,.d 16]),(2,.var 2 28 [.d 17,.d 18,.d 19,.d 20,.d 21,.d 22,.d 23,.d 24]),(3,.var 3 28 [.d 26,.nil,.nil,.nil,.nil,.nil,.d 27,.d 28]),(7,.var 7 28 [.d 34,.own 4 4,.own 5 5,.own 6 6,.own 14 14,.own 15 15,.d 40,.d 41]),(15,.row 15 9 1 59),(14,.row 14 9 1 58),(6,.row 6 9 1 37),(5,.row 5 28 8 36),(4,.row 4 42 3 35),(13,.var 13 28 [.d 46,.own 8 8,.own 9 9,.own 10 10,.own 11 11,.own 12 12,.d 52,.d 53]),(12,.row 12 9 1 51),(11,.row 11 9 1 50),(10,.row 10 9 1 49),(9,.row 9 28 8 48),(8,.row 8 42 3 47)],16,16,62,[(33,false)]⟩,[]⟩]
def ui:List (Nat×Nat×Bool×List Nat):=[(25,11,false,[]),(23,14,false,[]),(22,15,false,[]),(1,7,false,[])]
def b7:UP:=.ite 7 (.t<|.s #[]<|.c 0<|.po (.mk 9 1 [[0]])<|.po (.flat 0)<|.po (.app 9 1 16 9 0)<|.jump 1 [3,6,0,5,4])<|.l 6<|.i 0<|.b .gtr 1 0<|.ite 0 (.s #[]<|.c 0<|.po (.mk 9 1 [[0]])<|.po (.flat 0)<|.po (.app 9 1 16 11 0)<|.jump 1 [3,8,0,7,6])<|.jump 1 [0,5,9,4,3]
def bW:UP:=.jump 0 [2,1,0]
def bY:UP:=.ite 9 (.b .gtr 4 10<|.ite 0 (.i 1<|.b .sub 6 0<|.c 0<|.z 11<|.x 3 17 11<|.c 0<|.z 3<|.po (.chk 1 13 3)<|.c 0<|.po (.set 1 13 3 0 [0])<|.jump 2 [6,9,11,0,8,7])<|.jump 2 [0,3,5,8,2,1])<|.f<|.jump 2 [0,3,5,8,2,1]
def bZ:UP:=.i 1<|.a 10 0<|.jump 1 [0,4,3,2]
def ky:UP:=.b .lss 3 5<|.ite 0 (.sel [1,2,3,4,10,11,14,15,19,20,21]<|.join 6 bZ<|.z 3<|.x 1 10 3<|.i 4<|.e 10 0<|.join 2 bY<|.ite 0 (.i 1<|.b .sub 3 0<|.c 0<|.l 11<|.c 0<|.b .rem 9 0<|.c 0<|.z 0<|.po (.chk 8 13 0)<|.x 8 13 0<|.sel [0,1,2,3,4,5,6,7,10,15,16]<|.cl 18 [(true,[7,6,5,4,3,2,1,0])] cb<|.z 16<|.po (.chk 8 18 16)<|.c 7<|.c 1<|.c 0<|.po (.set 8 18 16 0 [7,6,5,4,3,2,1,0])<|.jump 3 [0,18])<|.i 1<|.b .sub 3 0<|.c 0<|.l 12<|.c 0<|.b .rem 9 0<|.c 0<|.z 0<|.po (.chk 3 14 0)<|.x 3 14 0<|.c 2<|.c 1<|.c 0<|.z 5<|.po (.chk 3 10 5)<|.c 2<|.c 1<|.c 0<|.po (.set 3 10 5 0 [2,1,0])<|.jump 3 [12,0])<|.c 18<|.c 17<|.c 16<|.sel [1,2,3,12,13,16,17,18]<|.cl 5000052 [(true,[7,0,1,2,4,3,6,5])] cb<|.c 7<|.c 1<|.c 0<|.sel [0,1,2,3,4,5,6,7]<|.cl 5000041 [(true,[7,6,5,4,3,2,1,0])] fX<|.c 8<|.c 2<|.c 1<|.c 0<|.ret [(true,[8,7,6,5,4,3,2,1]),(false,[0])]
def kI:UP:=.cl 19 [(true,[14,0,1,2,7,6,11,10])] aD<|.b .lss 0 17<|.ite 0 (.sel [2,3,4,5,17]<|.join 5 bW<|.i 4<|.e 5 0<|.join 2 b7<|.ite 0 (.i 0<|.i 0<|.i 0<|.c 2<|.po (.e 42 3)<|.po (.e 28 8)<|.po (.e 9 1)<|.po (.e 9 1)<|.po (.e 9 1)<|.c 6<|.c 5<|.po (.mk 28 8 [[7,4,3,2,1,0,6,5]])<|.po (.app 28 8 144 12 0)<|.jump 2 [0,12])<|.i 0<|.i 0<|.s #[]<|.c 2<|.c 1<|.c 0<|.po (.mk 42 3 [[2,1,0]])<|.po (.flat 0)<|.po (.app 42 3 32 6 0)<|.jump 2 [8,0])<|.l 20<|.i 0<|.sel [0,1,4,5,6,7,9,10,11,12,13,14,15,18,19,21,22]<|.loop [0,4,3,2] ky
def kF:UP:=.i 3<|.e 17 0<|.sel [0,2,4,5,6,7,8,9,10,12,13,14,15,16,17,19]<|.loop [1,9,10] kI
def j9:UP:=.join 1 kF<|.ite 0 (.po (.make 9 1 16 [.sc (.string ⟨#[]⟩)] 1)<|.jump 0 [0])<|.jump 0 [8]
def gk:UP:=.i 0<|.i 0<|.i 0<|.s #[]<|.c 29<|.c 12<|.sel [4,5,6,7,8,9,10,11,12,19,20,21,22,23,24,25,26,27,28,29]<|.cl 59 [(false,[8])] aD<|.po (.mm true 20 0)<|.c 0<|.c 0<|.i 40<|.b .gtr 3 0<|.ite 0 (.i 0<|.i 0<|.i 0<|.s #[114,101,115,117,108,116,32,105,115,32,116,111,111,32,108,97,114,103,101]<|.c 3<|.po (.e 42 3)<|.po (.e 28 8)<|.po (.e 9 1)<|.po (.e 9 1)<|.po (.e 9 1)<|.c 7<|.c 6<|.c 5<|.ret [(true,[8,4,3,2,1,0,7,6]),(false,[5])])<|.cl 60 [(true,[23,22,21,20,19,18,17,16]),(false,[2])] fX<|.i 0<|.i 0<|.i 0<|.sel [4,5,8,9,10,11,14,16,17,18,19,20,21,22,23,24,25,26,27,30,31]<|.cl 60 [(true,[15,14,13,12,11,10,9,8]),(false,[6])] fX<|.i 0<|.i 0<|.i 0<|.sel [9,10,12,13,14,15,16,17,18,19,28,29,30,31,32]<|.cl 51 [(false,[14])] tK<|.cl 51 [(false,[14])] tK<|.cl 19 [(true,[9,8,7,6,1,0,5,4])] aD<|.join 1 j9<|.i 3<|.e 15 0<|.ite 0 (.l 9<|.i 0<|.e 1 0<|.jump 0 [0])<|.f<|.jump 0 [0]
theorem lH:aR Try.prog 23 Try.f23 cV t7 ui=some ([(true,8),(false,1),(true,8),(true,8),(false,1)],gk):=by kernel_rfl
end Go.Proofs.Ytgdbmcoamemmaaa
