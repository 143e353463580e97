/- Proved: for every input the law 'FnGraft' returns true and its arguments read behind the call as before: part 4 of its proof. No condition. -/
import Derived.WalkKit
import Derived.Lib.Hide
import Derived.WalkSpells
import Derived.Laws.OwnMore
import Derived.Deep.AppendLies
import Derived.Deep.Draws
import Derived.Maps.AppendAt
import Derived.RegionTactic
import Derived.OwnWalk
import Derived.Below
import Derived.Laws.AppendOwnNone
import Derived.Deep.QuietTactic
import Derived.BigQuiet
import Derived.StillTailTactics
import Derived.Laws.Cells
import Derived.Laws.IdiomCopy
import Derived.ChangeKeysEq
import Derived.Laws.BytesArg
import Derived.Laws.StructEq
import Derived.Laws.Tables
import Derived.Great.BuildSlice
import Derived.StillTail
import Derived.OrdersHeld
import Derived.Test.YtngaddcgmnonbaaProg
import Derived.Test.YtngaddcgmnonbaaFnGraftQ3
set_option linter.unusedVariables false
set_option linter.unusedSimpArgs false
namespace Go.Proofs.Ytngaddcgmnonbaa
open Go.RowKit
section
variable {P:Program}{ρ ρ':List DV}{σ:List Nat}{S S':Sy}{s s0:AS}{ps:List PO}
def yY:List (Bool×List SC)->List (List (Option (Nat×Nat)))->Sy->Option (List PO×List (Bool×List Nat)×Sy)
 |[],_,S=>some ([],[],S)
 |(b,cs)::r,ty,S=>(match cK cs (ty.headD []) S with
  |some (p,xs,S1)=>(match yY r ty.tail S1 with|some (q,l,S2)=>some (p++q,(b,xs)::l,S2)|none=>none)
  |none=>none)
def Sw(t:TypeId)(st z:Nat)(S:Sy)(p:Nat×SO):Bool:=match S.own p.1 st with|some (.cur _ true t' z')=>decide (t'=t/\z'=z/\st<S.c)|_=>false
def ES(t:TypeId)(S:Sy):Option (Nat×Nat×Nat):=S.ob.findSome? λp=>match p.2 with
 |.cur st true _ z=>if Sw t st z S p then some (p.1,st,z)else none
 |_=>none
theorem JI{t:TypeId}{i st z:Nat}(h:ES t S=some (i,st,z))(hr:aO S ρ σ s):∃st' x cs,s.own? i st'=some (.cur st' true t x cs)/\ρ[z]? =some (ky t x cs):=by
 unfold ES at h;obtain⟨l1,p,l2,-,h,-⟩:=List.findSome?_eq_some_iff.1 h;split at h
 ·rename_i st0 t0 z0 hp;split at h
  ·rename_i hc;injection h with h;injection h with e1 h;injection h with e2 e3;subst e1 e2 e3;unfold Sw at hc;split at hc
   ·rename_i a t' z' ho;obtain⟨rfl,rfl,hlt⟩:=of_decide_eq_true hc;have hs:∃st',σ[st0]? =some st':=⟨_,List.getElem?_eq_getElem (by rw[hr.c];exact hlt)⟩;obtain⟨st',hs⟩:=hs;obtain⟨o',k1,k2,-,-⟩:=hr.own ho hs;cases o'<;>first|exact k2.elim|skip
    rename_i b id ty x cs;obtain⟨k5,rfl,rfl,k6⟩:=k2;obtain rfl:=aT k1 rfl;exact⟨_,x,cs,k1,k6⟩
   ·cases hc
  ·cases h
 ·cases h
theorem AW{K:AS->Prop}:∀{xs:List (Bool×List SC)} {ty:List (List (Option (Nat×Nat)))} {l:List (Bool×List Nat)} {S S':Sy} {ps:List PO} {ρ ρ':List DV} {s:AS} {rvs:List ResultVar} {ys:List (Bool×List AC)},
 yY xs ty S=some (ps,l,S')->aq ps ρ=some ρ'->aO S ρ σ s->P2 P s0 rvs ys->RT ρ σ xs ys->(∀s',aO S' ρ' σ s'->K s')->∃ds,cV ρ' l=some ds/\oW P s0 K rvs (ds.map λd=>(d.1,d.2,true)) s
 |[],ty,l,S,S',ps,ρ,ρ',s,rvs,ys,h,he,hr,hv,ht,hk=>by
  simp only[yY]at h;injection h with h;injection h with e1 h;injection h with e2 e3;subst e1 e2 e3;simp only[aq]at he;injection he with he;subst he
  match ys,ht with
  |[],_=>
   cases rvs with
   |nil=>exact⟨[],rfl,hk s hr⟩
   |cons=>exact hv.elim
 |(b,cs)::r,ty,l,S,S',ps,ρ,ρ',s,rvs,ys,h,he,hr,hv,ht,hk=>by
  simp only[yY]at h;split at h
  ·rename_i p xs S1 h1;split at h
   ·rename_i q l' S2 h2;injection h with h;injection h with e1 h;injection h with e2 e3;subst e1 e2 e3
    match ys,rvs,ht,hv with
    |y::ys,rv::rvs,ht,hv=>
     obtain⟨ρ1,a1,a2⟩:=ac he;obtain⟨s1,ds,g1,g2,g3,-⟩:=eh h1 a1 hr ht.1.2;obtain⟨dss,d1,d2⟩:=AW h2 a2 g3 hv.2 (RT.mono (ai a1) (aN.refl _) ht.2) hk;refine⟨(b,ds)::dss,by simp only[cV,g2.app_pre (ai a2),d1],?_⟩;simp only[List.map_cons,oW];refine⟨trivial,?_⟩;rw[hv.1];exact⟨ht.1.1,s1,g1,d2⟩
   ·cases h
  ·cases h
def CP(P:Program)(t:TypeId)(rvs:List ResultVar)(ty:List (List (Option (Nat×Nat)))):Kt:=λ_ e S=>
 match e with
 |.normal|.ret=>(match td P rvs S with
  |some (p,xs,S1)=>(match yY xs ty S1 with
   |some (q,l,S2)=>(match ES t S2 with|some (_,_,z)=>some (dl ((p++q).map .po) (.ret ((false,[z])::l)))|none=>none)
   |none=>none)
  |none=>none)
 |_=>none
def TT(t:TypeId)(res:List Rs)(cs':List DV)(vs:List (Bool×List DV)):Prop:=∃x ds,vs=(false,[ky t x cs'])::ds/\(ds.map λd=>(d.1,d.2,true))=res
theorem GW{t:TypeId}{rvs:List ResultVar}{ty:List (List (Option (Nat×Nat)))}{res:List Rs}{cs':List DV}{L:Lbl}:yS P (TT t res cs') L ρ (M2 P rvs res t cs') (CP P t rvs ty):=by
 intro L' ρ1 hL hp e S pg hpg σ s hr hw
 have key:∀p xs S1 q l S2 i st z,td P rvs S=some (p,xs,S1)->yY xs ty S1=some (q,l,S2)->ES t S2=some (i,st,z)->pg=dl ((p++q).map .po) (.ret ((false,[z])::l))->oW P s (KF t cs') rvs res s:=by
  intro p xs S1 q l S2 i st z h1 h2 h3 e;subst e;obtain⟨ρ2,he,hw2,-⟩:=bn (ei hw);simp only[W]at hw2;obtain⟨vs,w1,x,ds0,rfl,w2⟩:=hw2;obtain⟨ρ3,a1,a2⟩:=ac he;obtain⟨ys,y1,y2,y3⟩:=qR h1 a1 hr
  obtain⟨ds,d1,d2⟩:=AW (P:=P) (s0:=s) (K:=λs'=>∃i st x cs,s'.own? i st=some (.cur st true t x cs)/\ρ2[z]? =some (ky t x cs)) h2 a2 y3 y1 y2 (λs' hr'=>by
   obtain⟨st',x,cs,k1,k2⟩:=JI h3 hr'
   exact⟨i,st',x,cs,k1,k2⟩)
  simp only[cV,gL,d1]at w1;split at w1
  ·rename_i a b hz hb;injection w1 with w1;injection w1 with w3 w4;injection w3 with _ w3;subst w4;injection hb with hb;subst hb;rw[<-w2]
   have mono:∀{K K':AS->Prop},(∀s,K s->K' s)->∀{rvs:List ResultVar} {rs:List Rs} {u:AS},oW P s K rvs rs u->oW P s K' rvs rs u:=by
    intro K K' hKK rvs
    induction rvs with
    |nil=>intro rs u h;cases rs with
     |nil=>exact hKK _ h
     |cons=>exact h.elim
    |cons rv rvs ih=>
     intro rs u h
     cases rs with
     |nil=>exact h.elim
     |cons r rs=>
      obtain⟨b,ds,dp⟩:=r;obtain⟨h1,h2⟩:=h;refine⟨h1,?_⟩;obtain⟨cs,hcs,s',hg,hd⟩:=wr h2;rw[hcs];exact⟨rfl,s',hg,ih hd⟩
   refine mono (λs' hs=>?_) d2;obtain⟨i,st,x',cs,k1,k2⟩:=hs;have hz':[ky t x' cs]=a:=by simpa[k2]using hz
   rw[<-hz']at w3;injection w3 with w3 _;unfold ky at w3;injection w3 with _ _ w3;injection w3 with _ w3;injection w3 with w3 _;subst w3;exact⟨i,st,x',k1⟩
  ·cases w1
 unfold CP at hpg;split at hpg
 ·split at hpg
  ·split at hpg
   ·split at hpg
    ·injection hpg with hpg;exact key _ _ _ _ _ _ _ _ _ (by assumption) (by assumption) (by assumption) hpg.symm
    ·cases hpg
   ·cases hpg
  ·cases hpg
 ·split at hpg
  ·split at hpg
   ·split at hpg
    ·injection hpg with hpg;exact key _ _ _ _ _ _ _ _ _ (by assumption) (by assumption) (by assumption) hpg.symm
    ·cases hpg
   ·cases hpg
  ·cases hpg
 ·cases hpg
def oy(t:Nat)(sh:List (Bool×Nat)):Sy:=⟨(0,.p false [.own 0 0])::PU sh 1 1,[(0,.cur 0 true t 0)],1,1,1+(sh.map (·.2)).sum,[]⟩
theorem GN(t:Nat)(x:DV)(cs:List DV)(rest:List (Bool×List DV)):aO (oy t (si rest)) ([ky t x cs]++cn rest) [0] (yZ t x cs rest):=by
 refine⟨rfl,rfl,?_,λj y hx=>?_,λi y hx=>?_,λi b hb=>by simp[oy,aG]at hb⟩
 ·simp only[oy,fG,List.length_append,List.length_singleton]
 ·simp only[oy,aG]at hx;split at hx
  ·rename_i e;subst e;injection hx with hx;subst hx;exact⟨rfl,⟨rfl,rfl⟩,trivial⟩
  ·rename_i e;obtain⟨b,ds,m,h1,h2,h3,h4⟩:=z5 (pre:=[ky t x cs]) hx;subst h3
   have hj:(yZ t x cs rest).sl j=(bM ((true,[])::rest)).sl j:=by
    simp only[yZ,AS.put,AS.push,Hh];rw[if_neg (by omega)]
   rw[hj]
   have:((true,[])::rest)[j]? =rest[j-1]?:=by
    obtain⟨q,rfl⟩:=Nat.exists_eq_succ_of_ne_zero (show j≠0 by omega);simp
   simp only[bM,this,h2];exact⟨rfl,RD.toC h4⟩
 ·simp only[oy,aG]at hx;split at hx
  ·rename_i e;subst e;injection hx with hx;subst hx;refine⟨Nat.lt_succ_self _,?_⟩;have:(yZ t x cs rest).ob 0=.cur 0 true t x cs:=by simp only[yZ,AS.put,AS.push];exact ab _ _ _
   rw[this];exact⟨rfl,rfl,rfl,rfl⟩
  ·cases hx
def eA(P:Program)(f:FuncId)(fn:Func)(ow:eK)(hs:List aY)(dn:List (Nat×Nat×Bool×List Nat))(t:Nat):Option (List (Bool×Nat)×UP):=
 match fn.body,fn.params.toList with
 |some c,_::ts=>if bf P f&&decide (ts.length+1<=fn.ntmps)then
  (match y8 P fn.ntmps ow hs (xC P fn.ntmps ow dn) c 0 (oy t (Kh P ts)) (CP P t fn.results.toList (fn.resultTypes.toList.map (gO P 9)))with
  |some pg=>(match cv pg (1+((Kh P ts).map (·.2)).sum) (gY (cR 0 (1+((Kh P ts).map (·.2)).sum)) [])with|some up=>some (Kh P ts,up)|none=>none)
  |none=>none)else none
 |_,_=>none
theorem fD{ow:eK}{hs:List aY}{dn:List (Nat×Nat×Bool×List Nat)}{f:FuncId}{fn:Func}{t:Nat}{x:DV}{cs cs':List DV}{rest:List (Bool×List DV)}{res:List Rs}{sh:List (Bool×Nat)}{up:UP}
 (hf:P.funcs[f]? =some fn) (hg:eA P f fn ow hs dn t=some (sh,up)) (hsh:si rest=sh) (hdp:∀r∈res,r.2.2=true) (hw:V P (TT t res cs') up [] (gY (cn ((false,[ky t x cs])::rest)) [])):cr P f t x cs rest res cs':=by
 unfold eA at hg;split at hg
 ·rename_i c T ts hc hp;split at hg
  ·rename_i hb;rw[Bool.and_eq_true,decide_eq_true_eq]at hb;split at hg
   ·rename_i pg hp';split at hg
    ·rename_i up' hu;injection hg with hg;injection hg with e1 e2;subst e2
     have hlen:rest.length+1<=fn.ntmps:=by
      have h1:=congrArg List.length (hsh.trans e1.symm);simp only[si,Kh,List.length_map]at h1;rw[h1];exact hb.2
     rw[e1,<-hsh]at hp' hu;refine CN hf hc hb.1 hlen hdp (wK (L:=[]) nu c hp' rfl (GN _ x cs rest) GW ?_);rw[fG]at hu;have hl:(cn ((false,[ky t x cs])::rest)).length=1+(cn rest).length:=by simp[cn];omega
     obtain⟨a1,a2⟩:=Al.many (e:=cn ((false,[ky t x cs])::rest)) (μ:=[]) (ρ:=[]) (ρ':=[]) (λp i h=>by simp at h) (by simp);rw[hl]at a1 a2;simp only[List.nil_append,List.length_nil]at a1 a2;exact Bc pg hu (by rw[<-hl];rfl) a1 a2 hw
    ·cases hg
   ·cases hg
  ·cases hg
 ·cases hg
def sv:List SC->Option (List Nat)
 |[]=>some []
 |.d i::r=>(match sv r with|some l=>some (i::l)|none=>none)
 |_::_=>none
theorem EJ:∀{cs:List SC} {xs:List Nat} {ys:List AC},sv cs=some xs->cj ρ σ cs ys->∃ds:List DV,ys=ds.map .d/\gL ρ xs=some ds
 |[],xs,ys,h,hc=>by
  simp only[sv]at h;injection h with h;subst h
  cases ys with
  |nil=>exact⟨[],rfl,rfl⟩
  |cons=>exact hc.elim
 |.d i::r,xs,[],h,hc=>hc.elim
 |.d i::r,xs,y::ys,h,hc=>by
  simp only[sv]at h;split at h
  ·rename_i l hl;injection h with h;subst h;obtain⟨x,rfl,hx⟩:=nk hc.1;obtain⟨ds,rfl,hd⟩:=EJ hl hc.2;exact⟨x::ds,rfl,by simp only[gL,hx,hd]⟩
  ·cases h
 |.nil::r,xs,ys,h,hc=>by simp[sv]at h
 |.own _ _::r,xs,ys,h,hc=>by simp[sv]at h
 |.ptr _ _ _::r,xs,ys,h,hc=>by simp[sv]at h
 |.elt _ _ _ _ _::r,xs,ys,h,hc=>by simp[sv]at h
 |.rd _::r,xs,ys,h,hc=>by simp[sv]at h
 |.sub _ _ _ _ _::r,xs,ys,h,hc=>by simp[sv]at h
 |.emp::r,xs,ys,h,hc=>by simp[sv]at h
def DZ(P:Program)(t:TypeId)(rv:ResultVar):Kt:=λ_ e S=>
 match e with
 |.normal|.ret=>(match QO P S rv with
  |some (p,false,[.ptr i st 0],S1)=>(match S1.own i st with
   |some (.var _ t' cs)=>(match sv cs with
    |some xs=>if t'=t then some (dl (p.map .po) (.ret [(false,xs)]))else none
    |none=>none)
   |_=>none)
  |_=>none)
 |_=>none
def Ub(x:DV)(cs':List DV)(vs:List (Bool×List DV)):Prop:=vs=[(false,x::cs')]
theorem Ge{t:TypeId}{rv:ResultVar}{x:DV}{cs':List DV}{L:Lbl}:yS P (Ub x cs') L ρ (M6 P rv t x cs') (DZ P t rv):=by
 intro L' ρ1 hL hp e S pg hpg σ s hr hw
 have key:∀p i st S1 a t' cs xs,QO P S rv=some (p,false,[.ptr i st 0],S1)->S1.own i st=some (.var a t' cs)->sv cs=some xs->t'=t->pg=dl (p.map .po) (.ret [(false,xs)])->∃i st,Cq P s rv=some (.p false [.ptr i st 0])/\s.own? i st=some (.var st t (.d x::cs'.map .d)):=by
  rintro p i st S1 a t' cs xs h1 h2 h3 rfl e;subst e;obtain⟨ρ2,he,hw2,-⟩:=bn (ei hw);simp only[W]at hw2;obtain⟨vs,w1,rfl⟩:=hw2;obtain⟨ys,y1,y2,y3⟩:=IG h1 he hr
  match ys,y2 with
  |[y],y2=>
   cases y<;>first|exact y2.1.elim|skip
   obtain⟨⟨rfl,hst,rfl⟩,-⟩:=y2;obtain⟨o',k1,k2,-,-⟩:=y3.own h2 hst;cases o'<;>first|exact k2.elim|skip
   obtain⟨k5,rfl,k6⟩:=k2;obtain rfl:=aT k1 rfl;obtain⟨ds,rfl,hd⟩:=EJ h3 k6;simp only[cV,hd]at w1;injection w1 with w1;injection w1 with w1 _;injection w1 with _ w1;subst w1;exact⟨_,_,y1,k1⟩
 unfold DZ at hpg;split at hpg
 ·split at hpg
  ·split at hpg
   ·split at hpg
    ·split at hpg
     ·injection hpg with hpg;exact key _ _ _ _ _ _ _ _ (by assumption) (by assumption) (by assumption) (by assumption) hpg.symm
     ·cases hpg
    ·cases hpg
   ·cases hpg
  ·cases hpg
 ·split at hpg
  ·split at hpg
   ·split at hpg
    ·split at hpg
     ·injection hpg with hpg;exact key _ _ _ _ _ _ _ _ (by assumption) (by assumption) (by assumption) (by assumption) hpg.symm
     ·cases hpg
    ·cases hpg
   ·cases hpg
  ·cases hpg
 ·cases hpg
def CO(P:Program)(f:FuncId)(fn:Func)(ow:eK)(hs:List aY)(dn:List (Nat×Nat×Bool×List Nat))(t:Nat):Option (List (Bool×Nat)×UP):=
 match fn.body,fn.results.toList with
 |some c,[rv]=>if bf P f&&decide (fn.params.toList.length<=fn.ntmps)then
  (match y8 P fn.ntmps ow hs (xC P fn.ntmps ow dn) c 0 (nI (He P fn)) (DZ P t rv)with
  |some pg=>(match cv pg (((He P fn).map (·.2)).sum) (gY (cR 0 (((He P fn).map (·.2)).sum)) [])with|some up=>some (He P fn,up)|none=>none)
  |none=>none)else none
 |_,_=>none
theorem D6{ow:eK}{hs:List aY}{dn:List (Nat×Nat×Bool×List Nat)}{f:FuncId}{fn:Func}{t:Nat}{x:DV}{cs':List DV}{args:List (Bool×List DV)}{sh:List (Bool×Nat)}{up:UP}
 (hf:P.funcs[f]? =some fn) (hg:CO P f fn ow hs dn t=some (sh,up)) (hsh:si args=sh) (hfl:jl cs') (hw:V P (Ub x cs') up [] (gY (cn args) [])):nj P f args t x cs':=by
 unfold CO at hg;split at hg
 ·rename_i c rv hc hrv;split at hg
  ·rename_i hb;rw[Bool.and_eq_true,decide_eq_true_eq]at hb;split at hg
   ·rename_i pg hp;split at hg
    ·rename_i up' hu;injection hg with hg;injection hg with e1 e2;subst e2;rw[e1,<-hsh]at hp hu
     have hlen:args.length<=fn.ntmps:=by
      have h1:=congrArg List.length (hsh.trans e1.symm);simp only[si,He,List.length_map]at h1;rw[h1];exact hb.2
     refine CE hf hc hb.1 hlen hrv hfl (wK (L:=[]) nu c hp rfl (wu args) Ge ?_);rw[fG]at hu;obtain⟨a1,a2⟩:=Al.many (e:=cn args) (μ:=[]) (ρ:=[]) (ρ':=[]) (λp i h=>by simp at h) (by simp);simp only[List.nil_append,List.length_nil]at a1 a2;exact Bc pg hu rfl a1 a2 hw
    ·cases hg
   ·cases hg
  ·cases hg
 ·cases hg
end
end Go.Proofs.Ytngaddcgmnonbaa
namespace Go.Proofs.Ytngaddcgmnonbaa
open Go.RowKit
section
variable {P:Program}{R:List (Bool×List DV)->Prop}{k a b:UP}{L:Lbl}{ρ:List DV}
def Bd(P:Program)(R:List (Bool×List DV)->Prop)(k:UP)(L:Lbl)(ρ:List DV):Option (List DV)->Prop
 |some out=>V P R k L (gY out ρ)
 |none=>False
def Cl(P:Program)(R:List (Bool×List DV)->Prop)(f:FuncId)(sh:Sh)(k:UP)(L:Lbl)(ρ:List DV)(x:Option (List (Bool×List DV))):Prop:=
 ∃ys res,x=some ys/\dZ P f ys res/\cM sh res=true/\V P R k L (gY (bP res) ρ)
def Br(P:Program)(R:List (Bool×List DV)->Prop)(a b:UP)(L:Lbl)(ρ:List DV):Option DV->Prop
 |some (.sc (.bool c))=>(match c with|true=>V P R a L ρ|false=>V P R b L ρ)
 |_=>False
def Jp:Option (List DV->Prop)->Option (List DV)->Prop
 |some J,some vs=>J vs
 |_,_=>False
def Rt(R:List (Bool×List DV)->Prop):Option (List (Bool×List DV))->Prop
 |some vs=>R vs
 |none=>False
def Sl(P:Program)(R:List (Bool×List DV)->Prop)(k:UP)(L:Lbl):Option (List DV)->Prop
 |some vs=>V P R k L vs
 |none=>False
theorem Hx{o:PO}:V P R (.po o k) L ρ=Bd P R k L ρ (av ρ o):=by
 rw[V];unfold Bd;split<;>simp_all
theorem Kq{out:List DV}:Bd P R k L ρ (some out)=V P R k L (gY out ρ):=rfl
theorem TA{f:FuncId}{ar:List (Bool×List Nat)}{sh:Sh}:V P R (.cl f ar sh k) L ρ=Cl P R f sh k L ρ (cV ρ ar):=rfl
theorem QY{x:Nat}:V P R (.ite x a b) L ρ=Br P R a b L ρ (ρ[x]?):=by
 rw[V];unfold Br;rfl
theorem AF:Br P R a b L ρ (some (.sc (.bool true)))=V P R a L ρ:=rfl
theorem wc:Br P R a b L ρ (some (.sc (.bool false)))=V P R b L ρ:=rfl
theorem O1{p:Prop}[Decidable p]:Br P R a b L ρ (some (.sc (.bool (decide p))))=((p->V P R a L ρ)/\(¬p->V P R b L ρ)):=by
 by_cases h:p
 ·simp[h,AF]
 ·simp[h,wc]
theorem EP{c:Bool}:Br P R a b L ρ (some (.sc (.bool c)))=((c=true->V P R a L ρ)/\(c=false->V P R b L ρ)):=by
 cases c<;>simp[AF,wc]
theorem bI{p:Prop}[Decidable p](h1:p->V P R a L ρ)(h2:¬p->V P R b L ρ):Br P R a b L ρ (some (.sc (.bool (decide p)))):=by rw[O1];exact⟨h1,h2⟩
theorem So{c:Bool}(h1:c=true->V P R a L ρ)(h2:c=false->V P R b L ρ):Br P R a b L ρ (some (.sc (.bool c))):=by rw[EP];exact⟨h1,h2⟩
class BrD(c:Bool){α:Type}(x y:α)(p q:outParam Prop)(u v:outParam α):Prop where
 t:c=true->(p/\u=x)\/(q/\v=x)
 f:c=false->(p/\u=y)\/(q/\v=y)
instance (priority:=1200){α:Type}{x y:α}{p:Prop}[Decidable p]:BrD (decide p) x y p (¬p) x y:=⟨λh=>.inl ⟨of_decide_eq_true h,rfl⟩,λh=>.inr ⟨of_decide_eq_false h,rfl⟩⟩
instance (priority:=1200){α:Type}{x y:α}{p:Prop}[Decidable p]:BrD (!decide p) x y p (¬p) y x:=⟨λh=>.inr ⟨by simpa using h,rfl⟩,λh=>.inl ⟨by simpa using h,rfl⟩⟩
instance (priority:=900){α:Type}{x y:α}{c:Bool}:BrD (!c) x y (c=true) (c=false) y x:=⟨λh=>.inr ⟨by simpa using h,rfl⟩,λh=>.inl ⟨by simpa using h,rfl⟩⟩
instance (priority:=100){α:Type}{x y:α}{c:Bool}:BrD c x y (c=true) (c=false) x y:=⟨λh=>.inl ⟨h,rfl⟩,λh=>.inr ⟨h,rfl⟩⟩
theorem ap{c:Bool}{p q:Prop}{u v:UP}[i:BrD c a b p q u v](h1:p->V P R u L ρ)(h2:q->V P R v L ρ):Br P R a b L ρ (some (.sc (.bool c))):=by
 rw[EP];refine⟨λh=>?_,λh=>?_⟩
 ·rcases i.t h with⟨g,rfl⟩|⟨g,rfl⟩
  ·exact h1 g
  ·exact h2 g
 ·rcases i.f h with⟨g,rfl⟩|⟨g,rfl⟩
  ·exact h1 g
  ·exact h2 g
theorem Nk{l:Nat}{xs:List Nat}:V P R (.jump l xs) L ρ=Jp (L[l]?) (gL ρ xs):=by
 rw[V];cases h1:L[l]? <;>cases h2:gL ρ xs<;>simp[Jp]
theorem Kz{J:List DV->Prop}{vs:List DV}:Jp (some J) (some vs)=J vs:=rfl
theorem RK{xs:List (Bool×List Nat)}:V P R (.ret xs) L ρ=Rt R (cV ρ xs):=by
 rw[V];cases h:cV ρ xs<;>simp[Rt]
theorem Kx{vs:List (Bool×List DV)}:Rt R (some vs)=R vs:=rfl
theorem A8{xs:List Nat}:V P R (.sel xs k) L ρ=Sl P R k L (gL ρ xs):=by
 rw[V];unfold Sl;split<;>simp_all
theorem L6{vs:List DV}:Sl P R k L (some vs)=V P R k L vs:=rfl
theorem aj{f:FuncId}{sh:Sh}{ys:List (Bool×List DV)}{res:List Rs}(hm:aW P f ys res)(hs:cM sh res=true)(hk:V P R k L (gY (bP res) ρ)):Cl P R f sh k L ρ (some ys):=⟨ys,res,rfl,.n hm,hs,hk⟩
theorem aR{f:FuncId}{t:TypeId}{x:DV}{cs cs':List DV}{sh:Sh}{ys:List (Bool×List DV)}{res:List Rs}(hm:cr P f t x cs ys res cs')(hs:cM sh (res++[(false,[ky t x cs'],true)])=true)(hk:V P R k L (gY (bP (res++[(false,[ky t x cs'],true)])) ρ)):Cl P R (f+2000000) sh k L ρ (some ((false,[ky t x cs])::ys)):=by rw[Nat.add_comm];exact⟨_,_,rfl,.c hm,hs,hk⟩
theorem N2{f:FuncId}{t:TypeId}{x:DV}{cs':List DV}{sh:Sh}{ys:List (Bool×List DV)}(hm:nj P f ys t x cs')(hs:cM sh [(false,[ky t x cs'],true)]=true)(hk:V P R k L (gY [ky t x cs'] ρ)):Cl P R (f+3000000) sh k L ρ (some ys):=by rw[Nat.add_comm];exact⟨_,_,rfl,.w hm,hs,hk⟩
theorem cl_okP{f:FuncId}{sh:Sh}{ys:List (Bool×List DV)}{res:List Rs}(hm:Hn P f ys res)(hs:cM sh res=true)(hk:V P R k L (gY (bP res) ρ)):Cl P R (f+1000000) sh k L ρ (some ys):=by rw[Nat.add_comm];exact⟨ys,res,rfl,.p hm,hs,hk⟩
theorem aC{f:FuncId}{sh:Sh}{ys:List (Bool×List DV)}{res:List Rs}(hm:dZ P f ys res)(hs:cM sh res=true)(hk:V P R k L (gY (bP res) ρ)):Cl P R f sh k L ρ (some ys):=⟨ys,res,rfl,hm,hs,hk⟩
def Mk(P:Program)(R:List (Bool×List DV)->Prop)(f:FuncId)(b:Bool)(xs:List (Nat×Nat))(k:UP)(L:Lbl)(ρ:List DV)(x:Option (List DV))(y:Option DV):Prop:=
 ∃ds ds' n n',x=some ds/\y=some (.sc (.int .i64 n))/\Fg P f b ds n ds' n'/\wd xs ds ds'/\V P R k L (gY (ds'++[.sc (.int .i64 n')]) ρ)
theorem Ts{f:FuncId}{b:Bool}{xs:List (Nat×Nat)}{j:Nat}:V P R (.mk f b xs j k) L ρ=Mk P R f b xs k L ρ (gL ρ (xs.map (·.1))) (ρ[j]?):=rfl
def Kb(L L':Lbl):Prop:=∀(l:Nat) J,L[l]? =some J->∃J',L'[l]? =some J'/\∀vs,J vs->J' vs
theorem Kb.snoc{L L':Lbl}{J J':List DV->Prop}(h:Kb L L')(hl:L.length=L'.length)(hj:∀vs,J vs->J' vs):Kb (L++[J]) (L'++[J']):=by
 intro l X hX;rcases Nat.lt_or_ge l L.length with hlt|hge
 ·rw[List.getElem?_append_left hlt]at hX;obtain⟨X',h1,h2⟩:=h l X hX;exact⟨X',by rw[List.getElem?_append_left (by omega)];exact h1,h2⟩
 ·have:l=L.length:=by
   have:=(List.getElem?_eq_some_iff.1 hX).1;simp at this;omega
  subst this;simp at hX;subst hX;exact⟨J',by rw[hl];simp,hj⟩
theorem Jb:∀(up:UP) {L L':Lbl} {ρ:List DV},Kb L L'->L.length=L'.length->V P R up L ρ->V P R up L' ρ:=by
 intro up
 induction up with
 |po o k ih=>intro L L' ρ h hl hv;rw[Hx]at hv ⊢;cases he:av ρ o with
  |none=>rw[he]at hv;exact hv
  |some out=>rw[he]at hv;exact ih h hl hv
 |cl f ar sh k ih=>intro L L' ρ h hl hv;obtain⟨ys,res,h1,h2,h3,h4⟩:=hv;exact⟨ys,res,h1,h2,h3,ih h hl h4⟩
 |mk f b xs j k ih=>intro L L' ρ h hl hv;obtain⟨ds,ds',n,n',h1,h2,h3,h4,h5⟩:=hv;exact⟨ds,ds',n,n',h1,h2,h3,h4,ih h hl h5⟩
 |ite x a b iha ihb=>
  intro L L' ρ h hl hv;simp only[V]at hv ⊢;split at hv
  ·rename_i c hc
   cases c with
   |true=>exact iha h hl hv
   |false=>exact ihb h hl hv
  ·exact hv.elim
 |jump l xs=>intro L L' ρ h hl hv;obtain⟨J,vs,h1,h2,h3⟩:=hv;obtain⟨J',h4,h5⟩:=h l J h1;exact⟨J',vs,h4,h2,h5 vs h3⟩
 |join n rest k ihr ihk=>intro L L' ρ h hl hv;obtain⟨J,h1,h2⟩:=hv;exact⟨J,λvs a b=>ihr h hl (h1 vs a b),ihk (h.snoc hl λ_ h=>h) (by simp[hl]) h2⟩
 |loop xs body ih=>intro L L' ρ h hl hv;obtain⟨I,m,vs,h1,h2,h3⟩:=hv;exact⟨I,m,vs,h1,h2,λvs m a b=>ih (h.snoc hl λ_ h=>h) (by simp[hl]) (h3 vs m a b)⟩
 |ret xs=>intro L L' ρ h hl hv;exact hv
 |sel xs k ih=>intro L L' ρ h hl hv;rw[A8]at hv ⊢;cases he:gL ρ xs with
  |none=>rw[he]at hv;exact hv
  |some out=>rw[he]at hv;exact ih h hl hv
theorem lp{xs:List Nat}{body:UP}{α:Type}(enc:α->List DV)(I:α->Prop)(m:α->Nat)(a0:α)(h0:gL ρ xs=some (enc a0))(hI:I a0)
 (hb:∀a,I a->V P R body (L++[λvs'=>∃a',vs'=enc a'/\I a'/\m a'<m a]) (gY (enc a) ρ)):V P R (.loop xs body) L ρ:=by
 refine⟨λvs n=>∃a,vs=enc a/\I a/\n=m a,m a0,enc a0,h0,⟨a0,rfl,hI,rfl⟩,?_⟩;rintro vs n _ ⟨a,rfl,hIa,rfl⟩;have:=hb a hIa;refine Jb body ?_ ?_ this
 ·exact Kb.snoc (λl J h=>⟨J,h,λ_ h=>h⟩) rfl (λvs' ⟨a',h1,h2,h3⟩=>⟨m a',h3,a',h1,h2,rfl⟩)
 ·simp
theorem Dx{xs:List Nat}{body:UP}(n:Nat)(st:Nat->List DV)(h0:gL ρ xs=some (st 0))
 (hb:∀i,i<=n->V P R body (L++[λvs'=>vs'=st (i+1)/\i<n]) (gY (st i) ρ)):V P R (.loop xs body) L ρ:=by
 refine lp st (·<=n) (n - ·) 0 h0 (Nat.zero_le _) λi hi=>?_
 have:=hb i hi;refine Jb body ?_ ?_ this
 ·exact Kb.snoc (λl J h=>⟨J,h,λ_ h=>h⟩) rfl (λvs' ⟨h1,h2⟩=>⟨i+1,h1,h2,by omega⟩)
 ·simp
theorem jn{n:Nat}{rest:UP}(J:List DV->Prop)(hk:V P R k (L++[J]) ρ)(hr:∀vs,vs.length=n->J vs->V P R rest L (gY vs ρ)):V P R (.join n rest k) L ρ:=⟨J,hr,hk⟩
theorem yT{n:Nat}{rest:UP}(v:List DV)(hk:V P R k (L++[(· =v)]) ρ)(hr:V P R rest L (gY v ρ)):V P R (.join n rest k) L ρ:=⟨(· =v),λvs _ h=>h▸hr,hk⟩
end
section
variable {ρ:List DV}
def bE(op:BinOp)(b:Bool):Option DV->Option DV->Option (List DV)
 |some (.sc x),some (.sc y)=>mS (eC op b x y)
 |_,_=>none
theorem Tl{v:Value}:av ρ (.k v)=if lz v then some [.sc v]else none:=rfl
theorem TM{t k:Nat}:av ρ (.e t k)=some [.sl t k []]:=rfl
theorem OU{op:BinOp}{b:Bool}{x y:Nat}:av ρ (.bin op b x y)=bE op b ρ[x]? ρ[y]?:=by
 simp only[av,bE];split<;>simp_all
variable {b:Bool}{k:IntKind}{x y:Int}
theorem RM:bE .add b (some (.sc (.int k x))) (some (.sc (.int k y)))=some [.sc (.int k (k.wrap (x+y)))]:=by simp[bE,eC,dA,mS]
theorem Sz:bE .sub b (some (.sc (.int k x))) (some (.sc (.int k y)))=some [.sc (.int k (k.wrap (x-y)))]:=by simp[bE,eC,dA,mS]
theorem Sm:bE .mul b (some (.sc (.int k x))) (some (.sc (.int k y)))=some [.sc (.int k (k.wrap (x*y)))]:=by simp[bE,eC,dA,mS]
theorem Rw(h:y≠0):bE .quo b (some (.sc (.int k x))) (some (.sc (.int k y)))=some [.sc (.int k (k.wrap (x.tdiv y)))]:=by simp[bE,eC,dA,mS,h]
theorem QR(h:y≠0):bE .rem b (some (.sc (.int k x))) (some (.sc (.int k y)))=some [.sc (.int k (x.tmod y))]:=by simp[bE,eC,dA,mS,h]
theorem Rj:bE .eql b (some (.sc (.int k x))) (some (.sc (.int k y)))=some [.sc (.bool (decide (x=y)))]:=by simp[bE,eC,dA,mS]
theorem Sf:bE .neq b (some (.sc (.int k x))) (some (.sc (.int k y)))=some [.sc (.bool (!decide (x=y)))]:=by simp[bE,eC,dA,mS]
theorem QE:bE .lss b (some (.sc (.int k x))) (some (.sc (.int k y)))=some [.sc (.bool (decide (x<y)))]:=by simp[bE,eC,dA,mS]
theorem Rx:bE .leq b (some (.sc (.int k x))) (some (.sc (.int k y)))=some [.sc (.bool (decide (x<=y)))]:=by simp[bE,eC,dA,mS]
theorem Ra:bE .gtr b (some (.sc (.int k x))) (some (.sc (.int k y)))=some [.sc (.bool (decide (y<x)))]:=by simp[bE,eC,dA,mS]
theorem RQ:bE .geq b (some (.sc (.int k x))) (some (.sc (.int k y)))=some [.sc (.bool (decide (y<=x)))]:=by simp[bE,eC,dA,mS]
variable {s t:ByteArray}
theorem bD(h:s.size+t.size<=maxLen):bE .add b (some (.sc (.string s))) (some (.sc (.string t)))=some [.sc (.string (s++t))]:=by simp[bE,eC,mM,mS,h]
theorem Fs:bE .eql b (some (.sc (.string s))) (some (.sc (.string t)))=some [.sc (.bool (decide (s=t)))]:=by simp[bE,eC,mM,mS]
theorem RP:bE .neq b (some (.sc (.string s))) (some (.sc (.string t)))=some [.sc (.bool (!decide (s=t)))]:=by simp[bE,eC,mM,mS]
theorem Qj:bE .lss b (some (.sc (.string s))) (some (.sc (.string t)))=some [.sc (.bool (Op.bytesLess s.toList t.toList))]:=by simp[bE,eC,mM,mS]
theorem Q0:bE .gtr b (some (.sc (.string s))) (some (.sc (.string t)))=some [.sc (.bool (!(Op.bytesLess s.toList t.toList||decide (s=t))))]:=by simp[bE,eC,mM,mS]
variable {c d:Bool}
theorem RB:bE .eql true (some (.sc (.bool c))) (some (.sc (.bool d)))=some [.sc (.bool (c==d))]:=by simp[bE,eC,mS]
theorem Sp:bE .neq true (some (.sc (.bool c))) (some (.sc (.bool d)))=some [.sc (.bool (!(c==d)))]:=by simp[bE,eC,mS]
def Qa(op:UnOp):Option DV->Option (List DV)
 |some (.sc x)=>mS (Kj op x)
 |_=>none
theorem Sq{op:UnOp}{x:Nat}:av ρ (.un op x)=Qa op ρ[x]?:=by
 simp only[av,Qa];split<;>simp_all
theorem Se:Qa .neg (some (.sc (.int k x)))=some [.sc (.int k (k.wrap (0-x)))]:=by simp[Qa,Kj,mS]
theorem Ru:Qa .not (some (.sc (.bool c)))=some [.sc (.bool (!c))]:=by simp[Qa,Kj,mS]
theorem dT{z:Int}(h: -9223372036854775808<=z)(h2:z<=9223372036854775807):IntKind.i64.wrap z=z:=by
 simp only[IntKind.wrap,IntKind.bits,IntKind.signed];have e:z.bmod (2^64)=z:=Int.bmod_eq_of_le (by omega) (by omega)
 first
  |simpa using e
  |(simp;omega)
end
end Go.Proofs.Ytngaddcgmnonbaa
namespace Go.Proofs.Ytngaddcgmnonbaa
open Go.RowKit
section
variable {ρ:List DV}{k t:Nat}{kd:IntKind}{z:Int}{es fs:List (List DV)}
def Pb:Option DV->Option (List DV)
 |some (.sc (.int _ _))=>some []
 |_=>none
theorem N8{x:Nat}:av ρ (.isI x)=Pb ρ[x]?:=by simp only[av,Pb];split<;>simp_all<;>rfl
theorem SH:Pb (some (.sc (.int kd z)))=some []:=rfl
def Q4:Option DV->Option (List DV)
 |some d=>if ka d then some []else none
 |none=>none
theorem Ry{x:Nat}:av ρ (.sc x)=Q4 ρ[x]?:=by simp only[av,Q4];split<;>simp_all<;>rfl
theorem QK:Q4 (some (.sc (.int kd z)))=some []:=rfl
theorem QX{s:ByteArray}:Q4 (some (.sc (.string s)))=some []:=rfl
theorem Si{b:Bool}:Q4 (some (.sc (.bool b)))=some []:=rfl
theorem RL{n:Int}:lz (.int kd n)=true:=rfl
theorem Rz{s:ByteArray}:lz (.string s)=true:=rfl
theorem On{b:Bool}:lz (.bool b)=true:=rfl
def ml:Option DV->Option (List DV)
 |some (.sl _ _ es)=>if es.flatten.all ka then some []else none
 |_=>none
theorem KU{x:Nat}:av ρ (.flat x)=ml ρ[x]?:=by simp only[av,ml];split<;>simp_all<;>rfl
theorem PT(h:es.flatten.all ka=true):ml (some (.sl t k es))=some []:=by simp only[ml,h,if_true]
def Hj(t k:Nat):Option DV->Option (List DV)
 |some (.sl t' k' es)=>if t'=t/\k'=k/\es.flatten.all ka=true then some []else none
 |_=>none
theorem No{t k x:Nat}:av ρ (.isL t k x)=Hj t k ρ[x]?:=by simp only[av,Hj];split<;>simp_all<;>rfl
theorem Qm(h:es.flatten.all ka=true):Hj t k (some (.sl t k es))=some []:=by simp only[Hj,h];simp
theorem LI:ml (some (.sl t k []))=some []:=rfl
theorem wP{α:Type}{e:α->List DV}{l:List α}(h:∀x,(e x).all ka=true):ml (some (.sl t k (l.map e)))=some []:=by
 refine PT (List.all_eq_true.2 λd hd=>?_);obtain⟨c,hc,hd⟩:=List.mem_flatten.1 hd;obtain⟨x,_,rfl⟩:=List.mem_map.1 hc;exact List.all_eq_true.1 (h x) d hd
def NX(k:IntKind):Option DV->Option (List DV)
 |some (.sc (.int _ n))=>some [.sc (.int k (k.wrap n))]
 |_=>none
theorem OB{k:IntKind}{x:Nat}:av ρ (.cvI k x)=NX k ρ[x]?:=by simp only[av,NX];split<;>simp_all<;>rfl
theorem RY{k:IntKind}:NX k (some (.sc (.int kd z)))=some [.sc (.int k (k.wrap z))]:=rfl
def PL:Option DV->Option (List DV)
 |some (.sc (.string s))=>some [.sc (.string s)]
 |_=>none
theorem O9{x:Nat}:av ρ (.cvS x)=PL ρ[x]?:=by simp only[av,PL];split<;>simp_all<;>rfl
theorem QI{s:ByteArray}:PL (some (.sc (.string s)))=some [.sc (.string s)]:=rfl
def Dk:Option DV->Option (List DV)
 |some (.sl _ 1 es)=>(match iS es with|some xs=>some [.sc (.string (strOfNums xs))]|none=>none)
 |_=>none
theorem PZ{x:Nat}:av ρ (.cvB x)=Dk ρ[x]?:=by unfold av Dk;rfl
theorem MP{xs:List Int}(h:iS es=some xs):Dk (some (.sl t 1 es))=some [.sc (.string (strOfNums xs))]:=by simp only[Dk,h]
def JO:Option DV->Option (List DV)
 |some (.sc (.string s))=>some [.sc (.int .i64 s.size)]
 |_=>none
theorem Ly{x:Nat}:av ρ (.lenS x)=JO ρ[x]?:=by simp only[av,JO];split<;>simp_all<;>rfl
theorem PR{s:ByteArray}:JO (some (.sc (.string s)))=some [.sc (.int .i64 s.size)]:=rfl
def Hw:Option DV->Option (List DV)
 |some (.sl _ _ es)=>some [.sc (.int .i64 es.length)]
 |_=>none
theorem Lq{x:Nat}:av ρ (.lenL x)=Hw ρ[x]?:=by simp only[av,Hw];split<;>simp_all<;>rfl
theorem Ng:Hw (some (.sl t k es))=some [.sc (.int .i64 es.length)]:=rfl
def By:Option DV->Option DV->Option (List DV)
 |some (.sc (.string s)),some (.sc (.int _ z))=>if 0<=z then(match s[z.toNat]? with|some u=>some [.sc (.int .u8 u.toNat)]|none=>none)else none
 |_,_=>none
theorem PF{x i:Nat}:av ρ (.chr x i)=By ρ[x]? ρ[i]?:=by simp only[av,By];split<;>simp_all<;>rfl
theorem Ri{s:ByteArray}{u:UInt8}(h:0<=z)(hu:s[z.toNat]? =some u):By (some (.sc (.string s))) (some (.sc (.int kd z)))=some [.sc (.int .u8 u.toNat)]:=by simp only[By,if_pos h,hu]
def ah(s:ByteArray)(i:Nat):Nat:=((s[i]?).map UInt8.toNat).getD 0
theorem zZ{s:ByteArray}(h:0<=z)(hu:z<s.size):By (some (.sc (.string s))) (some (.sc (.int kd z)))=some [.sc (.int .u8 (ah s z.toNat))]:=by
 have hz:z.toNat<s.size:=by omega
 rw[Ri h (getElem?_pos s z.toNat hz)];unfold ah;rw[getElem?_pos s z.toNat hz];rfl
def rk(k:Nat):Option DV->Option DV->Option (List DV)
 |some (.sl _ k' es),some (.sc (.int _ z))=>if k'=k/\0<=z then(match es[z.toNat]? with|some e=>if e.length=k then some e else none|none=>none)else none
 |_,_=>none
theorem O8{x i:Nat}:av ρ (.idx k x i)=rk k ρ[x]? ρ[i]?:=by simp only[av,rk];split<;>simp_all<;>rfl
theorem R3{e:List DV}(h:0<=z)(he:es[z.toNat]? =some e)(hk:e.length=k):rk k (some (.sl t k es)) (some (.sc (.int kd z)))=some e:=by
 simp[rk,h,he,hk]
theorem kQ{α:Type}[Inhabited α]{e:α->List DV}{l:List α}(hk:∀x,(e x).length=k)(h:0<=z)(h1:z<l.length):rk k (some (.sl t k (l.map e))) (some (.sc (.int kd z)))=some (e (l.getD z.toNat default)):=by
 have hz:z.toNat<l.length:=by omega
 refine R3 h ?_ (hk _);rw[List.getElem?_map,List.getElem?_eq_getElem hz,List.getD_eq_getElem?_getD,List.getElem?_eq_getElem hz];rfl
def F3(k:Nat):Option DV->Option DV->Option (List DV)
 |some (.sl _ k' es),some (.sc (.int _ z))=>if k'=k/\0<=z/\z.toNat<es.length then some []else none
 |_,_=>none
theorem O5{x i:Nat}:av ρ (.chk k x i)=F3 k ρ[x]? ρ[i]?:=by simp only[av,F3];split<;>simp_all<;>rfl
theorem Rv(h:0<=z)(h1:z<es.length):F3 k (some (.sl t k es)) (some (.sc (.int kd z)))=some []:=by
 have:z.toNat<es.length:=by omega
 simp[F3,h,this]
theorem Gn{α:Type}{e:α->List DV}{l:List α}(h:0<=z)(h1:z<l.length):F3 k (some (.sl t k (l.map e))) (some (.sc (.int kd z)))=some []:=Rv h (by simpa using h1)
def lr:Option DV->Option (Option Int)->Option (Option Int)->Option (List DV)
 |some (.sc (.string s)),some l,some h=>(match jq l h s.size with|some (a,b)=>some [.sc (.string (s.extract a b))]|none=>none)
 |_,_,_=>none
theorem Lm{x:Nat}{lo hi:Option Nat}:av ρ (.cutS x lo hi)=lr ρ[x]? (vF ρ lo) (vF ρ hi):=by simp only[av,lr];split<;>simp_all<;>rfl
theorem C0{s:ByteArray}{lo hi:Option Int}(h1:0<=lo.getD 0)(h2:lo.getD 0<=hi.getD s.size)(h3:hi.getD s.size<=s.size):lr (some (.sc (.string s))) (some lo) (some hi)=some [.sc (.string (s.extract (lo.getD 0).toNat (hi.getD s.size).toNat))]:=by
 simp[lr,jq,h1,h2,h3]
def um(k:Nat):Option DV->Option (Option Int)->Option (Option Int)->Option (List DV)
 |some (.sl t k' es),some l,some h=>if k'=k then(match jq l h es.length with|some (a,b)=>some [.sl t k ((es.drop a).take (b-a))]|none=>none)else none
 |_,_,_=>none
theorem KK{x:Nat}{lo hi:Option Nat}:av ρ (.cutL k x lo hi)=um k ρ[x]? (vF ρ lo) (vF ρ hi):=by simp only[av,um];split<;>simp_all<;>rfl
theorem N7{lo hi:Option Int}(h1:0<=lo.getD 0)(h2:lo.getD 0<=hi.getD es.length)(h3:hi.getD es.length<=es.length):um k (some (.sl t k es)) (some lo) (some hi)=some [.sl t k ((es.drop (lo.getD 0).toNat).take ((hi.getD es.length).toNat-(lo.getD 0).toNat))]:=by
 simp[um,jq,h1,h2,h3]
theorem qa{α:Type}{e:α->List DV}{l:List α}{lo hi:Option Int}(h1:0<=lo.getD 0)(h2:lo.getD 0<=hi.getD l.length)(h3:hi.getD l.length<=l.length):
 um k (some (.sl t k (l.map e))) (some lo) (some hi)=some [.sl t k (((l.drop (lo.getD 0).toNat).take ((hi.getD l.length).toNat-(lo.getD 0).toNat)).map e)]:=by
 rw[N7 h1 (by simpa using h2) (by simpa using h3)];simp[List.map_take,List.map_drop]
section
variable {α:Type}{e:α->List DV}{l:List α}{a b:Int}{s:ByteArray}
theorem OH(h1:0<=a)(h2:a<=b)(h3:b<=l.length):um k (some (.sl t k (l.map e))) (some (some a)) (some (some b))=some [.sl t k (((l.drop a.toNat).take (b.toNat-a.toNat)).map e)]:=qa h1 h2 h3
theorem Bk(h1:0<=a)(h2:a<=l.length):um k (some (.sl t k (l.map e))) (some (some a)) (some none)=some [.sl t k ((l.drop a.toNat).map e)]:=by
 rw[qa (lo:=some a) (hi:=none) h1 h2 (by simp)];simp only[Option.getD_some,Option.getD_none,Int.toNat_natCast];rw[List.take_of_length_le (by simp)]
theorem Cg(h1:0<=b)(h2:b<=l.length):um k (some (.sl t k (l.map e))) (some none) (some (some b))=some [.sl t k ((l.take b.toNat).map e)]:=by
 rw[qa (lo:=none) (hi:=some b) (by simp) h1 h2];simp
theorem F9(h1:0<=a)(h2:a<=b)(h3:b<=s.size):lr (some (.sc (.string s))) (some (some a)) (some (some b))=some [.sc (.string (s.extract a.toNat b.toNat))]:=C0 h1 h2 h3
theorem Ss(h1:0<=a)(h2:a<=s.size):lr (some (.sc (.string s))) (some (some a)) (some none)=some [.sc (.string (s.extract a.toNat s.size))]:=by
 rw[C0 (lo:=some a) (hi:=none) h1 h2 (by simp)];simp
theorem MI(h1:0<=b)(h2:b<=s.size):lr (some (.sc (.string s))) (some none) (some (some b))=some [.sc (.string (s.extract 0 b.toNat))]:=by
 rw[C0 (lo:=none) (hi:=some b) (by simp) h1 h2];simp
end
def TD:Option DV->Option Int
 |some (.sc (.int _ z))=>some z
 |_=>none
theorem Tu{i:Nat}:gI ρ i=TD ρ[i]?:=by unfold gI TD;rfl
theorem Iu:TD (some (.sc (.int kd z)))=some z:=rfl
theorem JM:vF ρ none=some none:=rfl
theorem Iv{i:Nat}:vF ρ (some i)=(gI ρ i).map some:=rfl
def vz(el k b:Nat):Option DV->Option DV->Option (List DV)
 |some (.sl t1 k1 es),some (.sl _ k2 fs)=>if t1=el/\k1=k/\k2=k/\es.length+fs.length<=9223372036854775807/\(es.length+fs.length)*b<=140737488355328 then some [.sl el k (es++fs)]else none
 |_,_=>none
theorem PH{el b x y:Nat}:av ρ (.app el k b x y)=vz el k b ρ[x]? ρ[y]?:=by simp only[av,vz];split<;>simp_all<;>rfl
theorem ul{el b:Nat}(h:es.length+fs.length<=1000000000000)(hb:b<=140):vz el k b (some (.sl el k es)) (some (.sl t k fs))=some [.sl el k (es++fs)]:=by
 have h1:(es.length+fs.length)*b<=1000000000000*140:=Nat.mul_le_mul h hb;have h2:(es.length+fs.length)*b<=140737488355328:=by omega
 have h3:es.length+fs.length<=9223372036854775807:=by omega
 simp[vz,h2,h3]
theorem Nh{α:Type}{e:α->List DV}{l:List α}{el b:Nat}{x:List DV}(h:l.length<=100000000000)(hb:b<=140):vz el k b (some (.sl el k (l.map e))) (some (.sl t k [x]))=some [.sl el k (l.map e++[x])]:=ul (by simp;omega) hb
theorem we{α:Type}{e:α->List DV}{l m:List α}{el b:Nat}(h:l.length<=100000000000)(h':m.length<=100000000000)(hb:b<=140):vz el k b (some (.sl el k (l.map e))) (some (.sl t k (m.map e)))=some [.sl el k ((l++m).map e)]:=by
 rw[ul (by simp;omega) hb,List.map_append]
theorem OV{α:Type}{e:α->List DV}{m:List α}{el b:Nat}(h':m.length<=100000000000)(hb:b<=140):vz el k b (some (.sl el k [])) (some (.sl t k (m.map e)))=some [.sl el k (m.map e)]:=by
 rw[ul (by simp;omega) hb];rfl
theorem KN{el b:Nat}{x:List DV}(hb:b<=140):vz el k b (some (.sl el k [])) (some (.sl t k [x]))=some [.sl el k [x]]:=by
 rw[ul (by simp) hb];rfl
def Ta(el k:Nat):Option (List (List DV))->Option (List DV)
 |some es=>if es.all (λe=>e.length==k)then some [.sl el k es]else none
 |none=>none
theorem Rk{el:Nat}{rows:List (List Nat)}:av ρ (.mk el k rows)=Ta el k (AH ρ rows):=by simp only[av,Ta];split<;>simp_all<;>rfl
def Fa(el k b:Nat)(zz:List DV):Option DV->Option (List DV)
 |some (.sc (.int .i64 n))=>if 0<=n/\b*n.toNat<=281474976710656/\n.toNat<=9223372036854775807 then some [.sl el k (List.replicate n.toNat zz)]else none
 |_=>none
theorem LO{el b n:Nat}{zz:List DV}:av ρ (.make el k b zz n)=Fa el k b zz ρ[n]?:=by simp only[av,Fa];split<;>simp_all<;>rfl
theorem N6{el b:Nat}{zz:List DV}(h0:0<=z)(h1:z<=1000000000000)(hb:b<=140):Fa el k b zz (some (.sc (.int .i64 z)))=some [.sl el k (List.replicate z.toNat zz)]:=by
 have h2:b*z.toNat<=140*1000000000000:=Nat.mul_le_mul hb (by omega);have h3:b*z.toNat<=281474976710656:=by omega
 have h4:z.toNat<=9223372036854775807:=by omega
 simp[Fa,h0,h3,h4]
def Bg(k off:Nat):Option DV->Option DV->Option (List DV)->Option (List DV)
 |some (.sl t k' es),some (.sc (.int _ z)),some ds=>if k'=k/\0<=z/\off+ds.length<=k then(match es[z.toNat]? with|some e=>some [.sl t k (es.set z.toNat (plug off ds e))]|none=>none)else none
 |_,_,_=>none
theorem Nv{x j off:Nat}{vs:List Nat}:av ρ (.set k x j off vs)=Bg k off ρ[x]? ρ[j]? (gL ρ vs):=by simp only[av,Bg];split<;>simp_all<;>rfl
theorem M4{off:Nat}{ds e:List DV}(h0:0<=z)(hl:off+ds.length<=k)(he:es[z.toNat]? =some e):Bg k off (some (.sl t k es)) (some (.sc (.int kd z))) (some ds)=some [.sl t k (es.set z.toNat (plug off ds e))]:=by
 simp[Bg,h0,hl,he]
theorem yC{α:Type}{e:α->List DV}{l:List α}{ds:List DV}(hk:∀x,(e x).length=k)(h0:0<=z)(h1:z<l.length)(hl:ds.length=k):
 Bg k 0 (some (.sl t k (l.map e))) (some (.sc (.int kd z))) (some ds)=some [.sl t k ((l.map e).set z.toNat ds)]:=by
 have hz:z.toNat<l.length:=by omega
 rw[M4 h0 (by omega) (e:=e l[z.toNat]) (by rw[List.getElem?_map,List.getElem?_eq_getElem hz];rfl)]
 have:plug 0 ds (e l[z.toNat])=ds:=by
  unfold plug;simp only[List.take_zero,List.nil_append,Nat.zero_add];rw[List.drop_of_length_le (by rw[hk,hl];exact Nat.le_refl _),List.append_nil]
 rw[this]
def P7(mx:Bool):Option DV->Option DV->Option (List DV)
 |some (.sc (.int k a)),some (.sc (.int k' b))=>if k=k' then some [.sc (.int k (NP mx a b))]else none
 |_,_=>none
theorem RA{mx:Bool}{x y:Nat}:av ρ (.mm mx x y)=P7 mx ρ[x]? ρ[y]?:=by simp only[av,P7];split<;>simp_all<;>rfl
theorem QQ{a b:Int}:P7 true (some (.sc (.int kd a))) (some (.sc (.int kd b)))=some [.sc (.int kd (max a b))]:=by simp[P7,NP]
theorem Sj{a b:Int}:P7 false (some (.sc (.int kd a))) (some (.sc (.int kd b)))=some [.sc (.int kd (min a b))]:=by simp[P7,NP]
def Le(neg:Bool)(ks:List Kd):Option (List DV)->Option (List DV)->Option (List DV)
 |some ds,some es=>(match vt ks ds es with|some b=>some [.sc (.bool (if neg then !b else b))]|none=>none)
 |_,_=>none
theorem PA{neg:Bool}{ks:List Kd}{xs ys:List Nat}:av ρ (.eqS neg ks xs ys)=Le neg ks (gL ρ xs) (gL ρ ys):=by simp only[av,Le];split<;>simp_all<;>rfl
def uy:Option DV->Option (Option Int)->Option (Option Int)->Option (List DV)
 |some (.sl _ _ es),some l,some h=>(match jq l h es.length with|some (a,b)=>some [.sc (.int .i64 a),.sc (.int .i64 ((b-a:Nat):Int))]|none=>none)
 |_,_,_=>none
theorem LQ{x:Nat}{lo hi:Option Nat}:av ρ (.cutI x lo hi)=uy ρ[x]? (vF ρ lo) (vF ρ hi):=by simp only[av,uy];split<;>simp_all<;>rfl
theorem TZ{a b:Int}(h1:0<=a)(h2:a<=b)(h3:b<=es.length):uy (some (.sl t k es)) (some (some a)) (some (some b))=some [.sc (.int .i64 a),.sc (.int .i64 (b-a))]:=by
 simp only[uy,jq,Option.getD_some];rw[if_pos ⟨h1,h2,h3⟩];simp only[Option.some.injEq,List.cons.injEq,DV.sc.injEq,Value.int.injEq,true_and,and_true];omega
theorem R6{a:Int}(h1:0<=a)(h2:a<=es.length):uy (some (.sl t k es)) (some (some a)) (some none)=some [.sc (.int .i64 a),.sc (.int .i64 (es.length-a))]:=by
 simp only[uy,jq,Option.getD_some,Option.getD_none];rw[if_pos ⟨h1,h2,Int.le_refl _⟩];simp only[Option.some.injEq,List.cons.injEq,DV.sc.injEq,Value.int.injEq,true_and,and_true];omega
theorem RE{b:Int}(h1:0<=b)(h2:b<=es.length):uy (some (.sl t k es)) (some none) (some (some b))=some [.sc (.int .i64 0),.sc (.int .i64 b)]:=by
 simp only[uy,jq,Option.getD_some,Option.getD_none];rw[if_pos ⟨Int.le_refl _,h1,h2⟩];simp only[Option.some.injEq,List.cons.injEq,DV.sc.injEq,Value.int.injEq,true_and,and_true];omega
def FE:Option DV->Option DV->Option (Option Int)->Option (Option Int)->Option (List DV)
 |some (.sc (.int .i64 u)),some (.sc (.int .i64 v)),some l,some h=>if 0<=u/\0<=v then(match jq l h v.toNat with|some (a,b)=>some [.sc (.int .i64 ((u.toNat+a:Nat):Int)),.sc (.int .i64 ((b-a:Nat):Int))]|none=>none)else none
 |_,_,_,_=>none
theorem Lr{x y:Nat}{lo hi:Option Nat}:av ρ (.cutJ x y lo hi)=FE ρ[x]? ρ[y]? (vF ρ lo) (vF ρ hi):=by simp only[av,FE];split<;>simp_all<;>rfl
def Md:Option DV->Option DV->Option DV->Option (List DV)
 |some (.sc (.int .i64 u)),some (.sc (.int .i64 v)),some (.sc (.int _ j))=>if 0<=u/\0<=j/\j<v then some [.sc (.int .i64 (u+j))]else none
 |_,_,_=>none
theorem PC{x y i:Nat}:av ρ (.atJ x y i)=Md ρ[x]? ρ[y]? ρ[i]?:=by simp only[av,Md];split<;>simp_all<;>rfl
theorem R4{u v j:Int}(h1:0<=u)(h2:0<=j)(h3:j<v):Md (some (.sc (.int .i64 u))) (some (.sc (.int .i64 v))) (some (.sc (.int kd j)))=some [.sc (.int .i64 (u+j))]:=by simp[Md,h1,h2,h3]
def zK:Option DV->Option DV->Option DV->Option (List DV)
 |some (.sl t k es),some (.sc (.int .i64 u)),some (.sc (.int .i64 v))=>some [.sl t k ((es.drop u.toNat).take v.toNat)]
 |_,_,_=>none
theorem HW{x y i:Nat}:av ρ (.viewD x y i)=zK ρ[x]? ρ[y]? ρ[i]?:=by simp only[av,zK];split<;>simp_all<;>rfl
theorem Km{u v:Int}:zK (some (.sl t k es)) (some (.sc (.int .i64 u))) (some (.sc (.int .i64 v)))=some [.sl t k ((es.drop u.toNat).take v.toNat)]:=rfl
theorem LE{α:Type}{e:α->List DV}{l:List α}{u v:Int}:zK (some (.sl t k (l.map e))) (some (.sc (.int .i64 u))) (some (.sc (.int .i64 v)))=some [.sl t k (((l.drop u.toNat).take v.toNat).map e)]:=by
 rw[Km,List.map_take,List.map_drop]
def Fv:Option DV->Option DV->Option DV->Option (List DV)
 |some (.sl t k es),some (.sc (.int .i64 u)),some (.sc (.int .i64 v))=>if u=0/\v.toNat<=es.length then some [.sl t k (es.take v.toNat)]else none
 |_,_,_=>none
theorem KY{x y i:Nat}:av ρ (.cutP x y i)=Fv ρ[x]? ρ[y]? ρ[i]?:=by simp only[av,Fv];split<;>simp_all<;>rfl
theorem Oi{α:Type}{e:α->List DV}{l:List α}{v:Int}(h:v<=l.length):Fv (some (.sl t k (l.map e))) (some (.sc (.int .i64 0))) (some (.sc (.int .i64 v)))=some [.sl t k ((l.take v.toNat).map e)]:=by
 have:v.toNat<=(l.map e).length:=by rw[List.length_map];omega
 simp only[Fv,this,true_and,if_true,List.map_take]
def FB:Option DV->Option (List DV)
 |some (.sl _ _ es)=>some [.sc (.bool es.isEmpty)]
 |_=>none
theorem Nb{x:Nat}:av ρ (.emp x)=FB ρ[x]?:=by simp only[av,FB];split<;>simp_all<;>rfl
theorem R5{α:Type}{e:α->List DV}{l:List α}:FB (some (.sl t k (l.map e)))=some [.sc (.bool l.isEmpty)]:=by simp[FB]
def P1(n:Nat):Option DV->Option (List DV)
 |some (.sl _ 0 [[x],cs])=>if cs.length+1=n then some (x::cs)else none
 |_=>none
theorem O7{z n:Nat}:av ρ (.unc z n)=P1 n ρ[z]?:=by simp only[av,P1];split<;>simp_all<;>rfl
def F0(off:Nat):Option DV->Option DV->Option (List DV)
 |some (.sl t 0 [[x],cs]),some (.sc u)=>if lz u=true/\0<off/\off-1<cs.length then some [.sl t 0 [[x],cs.set (off-1) (.sc u)]]else none
 |_,_=>none
theorem Na{z off v:Nat}:av ρ (.cuS z off v)=F0 off ρ[z]? ρ[v]?:=by simp only[av,F0];split<;>simp_all<;>rfl
theorem MC{ty off:Nat}{x:DV}{cs:List DV}{u:Value}(h:lz u=true)(ho:off<cs.length):F0 (off+1) (some (ky ty x cs)) (some (.sc u))=some [ky ty x (cs.set off (.sc u))]:=by simp[F0,ky,h,ho]
def SD(k:Nat):Option DV->Option DV->Option DV->Option DV->Option DV->Option (List DV)
 |some (.sl t k' es),some (.sc (.int .i64 a)),some (.sc (.int .i64 m)),some (.sc (.int .i64 b)),some (.sc (.int .i64 m'))=>
  if k'=k/\es.flatten.all ka=true then some [.sl t k (Qr es a.toNat m.toNat b.toNat m'.toNat),.sc (.int .i64 ((min m'.toNat m.toNat:Nat):Int))]else none
 |_,_,_,_,_=>none
theorem PW{k x lo n lo' n':Nat}:av ρ (.cpy k x lo n lo' n')=SD k ρ[x]? ρ[lo]? ρ[n]? ρ[lo']? ρ[n']?:=by simp only[av,SD];split<;>simp_all<;>rfl
theorem Dd{n:Nat}:(n:Int)+1=((n+1:Nat):Int):=rfl
end
theorem ak:(∀(α:Type) (l:List α) (n:Nat),(l.take n).length=min n l.length)/\(∀(α:Type) (l:List α) (n:Nat),(l.drop n).length=l.length-n)/\(∀(α:Type) (l m:List α),(l++m).length=l.length+m.length)/\
 (∀(α β:Type) (f:α->β) (x:α) (l:List α),(x::l).map f=f x::l.map f)/\(∀(α β:Type) (f:α->β),([]:List α).map f=[])/\(∀(α β:Type) (f:α->β) (l:List α),(l.map f).length=l.length)/\
 (∀(α:Type) (x:α) (l:List α),(x::l).length=l.length+1)/\(∀α:Type,([]:List α).length=0)/\(∀(α:Type) (l:List α) (n:Nat) (x:α),(l.set n x).length=l.length)/\(∀(α:Type) (n:Nat) (x:α),(List.replicate n x).length=n):=
 ⟨λ_ _ _=>List.length_take,λ_ _ _=>List.length_drop,λ_ _ _=>List.length_append,λ_ _ _ _ _=>rfl,λ_ _ _=>rfl,λ_ _ _ _=>List.length_map _,λ_ _ _=>rfl,λ_=>rfl,λ_ _ _ _=>List.length_set,λ_ _ _=>List.length_replicate⟩
theorem al:(∀(α:Type) (x:α) (l:List α),(x::l).length=l.length+1)/\(∀α:Type,([]:List α).length=0)/\(∀n:Nat,0+n=n):=⟨λ_ _ _=>rfl,λ_=>rfl,Nat.zero_add⟩
attribute[go_sem] Hx Kq TA Ts QY AF wc Nk Kz RK Kx A8 L6 Tl TM OU
attribute[go_sem] RM Sz Sm Rj Sf QE Rx Ra RQ Fs RP Qj Q0 RB Sp Sq
attribute[go_sem] Se Ru dT N8 SH Ry QK QX Si RL Rz On KU No LI OB RY
attribute[go_sem] O9 QI PZ Ly PR Lq Ng PF zZ O8 O5 Gn Lm F9 Ss MI
attribute[go_sem] KK OH Bk Cg Tu Iu JM Iv PH Nh we OV KN Rk Ta LO
attribute[go_sem] LQ TZ R6 RE PC R4 HW LE KY Oi Nb R5 O7 Na PW
attribute[go_sem] N6 Nv PA RA QQ Sj bD Rw QR gY cn bP gL AH cV List.getElem?_cons_zero
attribute[go_sem] List.getElem?_cons_succ List.getElem?_nil List.map_cons List.map_nil List.length_map List.length_cons List.length_nil List.nil_append List.cons_append Option.map_some Option.getD_some Option.getD_none Int.toNat_natCast Int.natCast_zero if_true Bool.not_true
attribute[go_sem] Bool.not_false not_false_eq_true not_true_eq_false true_implies false_implies implies_true and_true true_and Nat.add_sub_cancel_left decide_true decide_false List.all_cons List.all_nil Bool.and_true beq_self_eq_true Bool.and_self
attribute[go_sem] Dd
attribute[go_sem_proc] Nat.reduceAdd Int.reduceNeg Int.reduceAdd Int.reduceSub Int.reduceMul Int.reduceLT Int.reduceLE Int.reduceEq Int.reduceToNat Nat.reduceBEq
attribute[go_sem_proc ↓] reduceIte
end Go.Proofs.Ytngaddcgmnonbaa
namespace Go.Proofs.Ytngaddcgmnonbaa
open Go.RowKit
def AG:UP->List Nat->Bool
 |.po _ k,A=>AG k A
 |.cl _ _ _ k,A=>AG k A
 |.mk _ _ _ _ k,A=>AG k A
 |.ite _ a b,A=>AG a A&&AG b A
 |.jump l xs,A=>decide (A[l]? =some xs.length)
 |.join n rest k,A=>AG rest A&&AG k (A++[n])
 |.loop xs body,A=>AG body (A++[xs.length])
 |.ret _,A=>true
 |.sel _ k,A=>AG k A
section
variable {P:Program}
abbrev OutU:=Sum (List (Bool×List DV)) (Nat×List DV)
def CT(o:OutU)(n:Nat):Lbl:=(List.range n).map λl vs=>o=.inr (l,vs)
theorem AL{o:OutU}{n:Nat}:CT o (n+1)=CT o n++[λvs=>o=.inr (n,vs)]:=by unfold CT;rw[List.range_succ,List.map_append];rfl
theorem FF{o:OutU}{n l:Nat}(h:l<n):(CT o n)[l]? =some λvs=>o=.inr (l,vs):=by unfold CT;rw[List.getElem?_map,List.getElem?_range h];rfl
theorem lY{o:OutU}{n:Nat}:(CT o n).length=n:=by simp[CT]
theorem Ce{o:OutU}{n:Nat}{J:List DV->Prop}:(CT o n++[J])[n]? =some J:=by have:=List.getElem?_concat_length (l:=CT o n) (a:=J);rwa [lY]at this
theorem rr:∀(up:UP) {R R':List (Bool×List DV)->Prop} {L L':Lbl} {ρ:List DV},(∀r,R r->R' r)->Kb L L'->L.length=L'.length->V P R up L ρ->V P R' up L' ρ:=by
 intro up
 induction up with
 |po o k ih=>intro R R' L L' ρ hR h hl hv;rw[Hx]at hv ⊢;cases he:av ρ o with
  |none=>rw[he]at hv;exact hv
  |some out=>rw[he]at hv;exact ih hR h hl hv
 |cl f ar sh k ih=>intro R R' L L' ρ hR h hl hv;obtain⟨ys,res,h1,h2,h3,h4⟩:=hv;exact⟨ys,res,h1,h2,h3,ih hR h hl h4⟩
 |mk f b xs j k ih=>intro R R' L L' ρ hR h hl hv;obtain⟨ds,ds',n,n',h1,h2,h3,h4,h5⟩:=hv;exact⟨ds,ds',n,n',h1,h2,h3,h4,ih hR h hl h5⟩
 |ite x a b iha ihb=>
  intro R R' L L' ρ hR h hl hv;simp only[V]at hv ⊢;split at hv
  ·rename_i c hc
   cases c with
   |true=>exact iha hR h hl hv
   |false=>exact ihb hR h hl hv
  ·exact hv.elim
 |jump l xs=>intro R R' L L' ρ hR h hl hv;obtain⟨J,vs,h1,h2,h3⟩:=hv;obtain⟨J',h4,h5⟩:=h l J h1;exact⟨J',vs,h4,h2,h5 vs h3⟩
 |join n rest k ihr ihk=>intro R R' L L' ρ hR h hl hv;obtain⟨J,h1,h2⟩:=hv;exact⟨J,λvs a b=>ihr hR h hl (h1 vs a b),ihk hR (h.snoc hl λ_ h=>h) (by simp[hl]) h2⟩
 |loop xs body ih=>intro R R' L L' ρ hR h hl hv;obtain⟨I,m,vs,h1,h2,h3⟩:=hv;exact⟨I,m,vs,h1,h2,λvs m a b=>ih hR (h.snoc hl λ_ h=>h) (by simp[hl]) (h3 vs m a b)⟩
 |ret xs=>intro R R' L L' ρ hR h hl hv;obtain⟨vs,h1,h2⟩:=hv;exact⟨vs,h1,hR _ h2⟩
 |sel xs k ih=>intro R R' L L' ρ hR h hl hv;rw[A8]at hv ⊢;cases he:gL ρ xs with
  |none=>rw[he]at hv;exact hv
  |some out=>rw[he]at hv;exact ih hR h hl hv
theorem Ih{o:OutU}{n:Nat}{L:Lbl}(hl:L.length=n)(h:∀l vs,o=.inr (l,vs)->l<n->∃J,L[l]? =some J/\J vs):Kb (CT o n) L:=by
 intro l J hJ;have hlt:l<n:=by have:=(List.getElem?_eq_some_iff.1 hJ).1;rw[lY]at this;exact this
 rw[FF hlt]at hJ;injection hJ with hJ;subst hJ
 cases hL:L[l]? with
 |none=>rw[List.getElem?_eq_none_iff]at hL;omega
 |some J'=>exact⟨J',rfl,λvs ho=>by obtain⟨J2,h1,h2⟩:=h l vs ho hlt;rw[hL]at h1;injection h1 with h1;exact h1▸h2⟩
def Qf(R:List (Bool×List DV)->Prop)(L:Lbl)(A:List Nat):OutU->Prop
 |.inl r=>R r
 |.inr (l,vs)=>A[l]? =some vs.length/\∃J,L[l]? =some J/\J vs
theorem Df:∀{ρ:List DV} {xs:List Nat} {vs:List DV},gL ρ xs=some vs->vs.length=xs.length
 |ρ,[],vs,h=>by simp only[gL]at h;injection h with h;subst h;rfl
 |ρ,x::xs,vs,h=>by
  simp only[gL]at h;split at h
  ·rename_i a b h1 h2;injection h with h;subst h;simp only[List.length_cons,Df h2]
  ·cases h
theorem Qq:∀(up:UP) {R:List (Bool×List DV)->Prop} {L:Lbl} {A:List Nat} {ρ:List DV},AG up A=true->A.length=L.length->V P R up L ρ->∃o,Qf R L A o/\V P (λr=>o=.inl r) up (CT o L.length) ρ:=by
 intro up
 induction up with
 |po o k ih=>
  intro R L A ρ hw hA hv;rw[Hx]at hv
  cases he:av ρ o with
  |none=>rw[he]at hv;exact hv.elim
  |some out=>
   rw[he]at hv;obtain⟨q,h1,h2⟩:=ih hw hA hv
   exact⟨q,h1,by rw[Hx,he];exact h2⟩
 |cl f ar sh k ih=>
  intro R L A ρ hw hA hv;obtain⟨ys,res,h1,h2,h3,h4⟩:=hv;obtain⟨q,g1,g2⟩:=ih hw hA h4
  exact⟨q,g1,ys,res,h1,h2,h3,g2⟩
 |mk f b xs j k ih=>
  intro R L A ρ hw hA hv;obtain⟨ds,ds',n,n',h1,h2,h3,h4,h5⟩:=hv;obtain⟨q,g1,g2⟩:=ih hw hA h5
  exact⟨q,g1,ds,ds',n,n',h1,h2,h3,h4,g2⟩
 |ite x a b iha ihb=>
  intro R L A ρ hw hA hv;simp only[AG,Bool.and_eq_true]at hw;simp only[V]at hv ⊢;split at hv
  ·rename_i c hc
   cases c with
   |true=>exact iha hw.1 hA hv
   |false=>exact ihb hw.2 hA hv
  ·exact hv.elim
 |jump l xs=>
  intro R L A ρ hw hA hv;obtain⟨J,vs,h1,h2,h3⟩:=hv;simp only[AG,decide_eq_true_eq]at hw
  exact⟨.inr (l,vs),⟨by rw[hw,Df h2],J,h1,h3⟩,_,vs,FF (List.getElem?_eq_some_iff.1 h1).1,h2,rfl⟩
 |join n rest k ihr ihk=>
  intro R L A ρ hw hA hv;simp only[AG,Bool.and_eq_true]at hw;obtain⟨J,h1,h2⟩:=hv;obtain⟨o1,g1,g2⟩:=ihk hw.2 (by simp[hA]) h2;simp only[List.length_append,List.length_singleton]at g2
  have other:(∀vs,o1≠.inr (L.length,vs))->Qf R L A o1->∃o,Qf R L A o/\V P (λr=>o=.inl r) (.join n rest k) (CT o L.length) ρ:=λhne hok=>
   ⟨o1,hok,λvs=>o1=.inr (L.length,vs),λvs _ he=>absurd he (hne vs),by rw[<-AL];exact g2⟩
  cases o1 with
  |inl r=>exact other (λvs h=>by cases h) g1
  |inr p=>
   obtain⟨l,vs⟩:=p;obtain⟨q1,J',q2,q3⟩:=g1;have hl:l<L.length+1:=by have:=(List.getElem?_eq_some_iff.1 q2).1;simpa using this
   rcases Nat.lt_or_ge l L.length with hlt|hge
   ·rw[List.getElem?_append_left (by omega)]at q1;rw[List.getElem?_append_left hlt]at q2;exact other (λvs' h=>by injection h with h;injection h with h _;omega) ⟨q1,J',q2,q3⟩
   ·obtain rfl:l=L.length:=by omega
    rw[<-hA,List.getElem?_concat_length]at q1;injection q1 with q1;rw[List.getElem?_concat_length]at q2;injection q2 with q2;subst q2;obtain⟨o2,p1,p2⟩:=ihr hw.1 hA (h1 vs q1.symm q3)
    refine⟨o2,p1,(· =vs),λvs' _ he=>he▸p2,rr k (λr h=>by cases h) (Ih (by simp[lY]) λl' vs' h hlt=>?_) (by simp[lY]) g2⟩
    injection h with h;injection h with h h';subst h h'
    exact⟨_,Ce,rfl⟩
 |loop xs body ih=>
  intro R L A ρ hw hA hv;simp only[AG]at hw;obtain⟨I,m,vs,h1,h2,h3⟩:=hv
  have key:∀m vs,vs.length=xs.length->I vs m->∃o,Qf R L A o/\∃I':List DV->Nat->Prop,I' vs m/\∀vs' m',vs'.length=xs.length->I' vs' m'->V P (λr=>o=.inl r) body (CT o L.length++[λv=>∃m'',m''<m'/\I' v m'']) (gY vs' ρ):=by
   intro m
   induction m using Nat.strongRecOn with
   |ind m ihm=>
    intro vs hlen hI;obtain⟨o1,g1,g2⟩:=ih hw (by simp[hA]) (h3 vs m hlen hI);simp only[List.length_append,List.length_singleton]at g2
    have other:(∀vs,o1≠.inr (L.length,vs))->Qf R L A o1->∃o,Qf R L A o/\∃I':List DV->Nat->Prop,I' vs m/\∀vs' m',vs'.length=xs.length->I' vs' m'->V P (λr=>o=.inl r) body (CT o L.length++[λv=>∃m'',m''<m'/\I' v m'']) (gY vs' ρ):=λhne hok=>by
     refine⟨o1,hok,λv k=>v=vs/\k=m,⟨rfl,rfl⟩,?_⟩;rintro _ _ _ ⟨rfl,rfl⟩;refine rr body (λr h=>h) ?_ (by simp[lY]) g2;rw[AL];exact Kb.snoc (λl J h=>⟨J,h,λ_ h=>h⟩) rfl (λv he=>absurd he (hne v))
    cases o1 with
    |inl r=>exact other (λvs h=>by cases h) g1
    |inr p=>
     obtain⟨l,vs1⟩:=p;obtain⟨q1,J',q2,q3⟩:=g1;have hl:l<L.length+1:=by have:=(List.getElem?_eq_some_iff.1 q2).1;simpa using this
     rcases Nat.lt_or_ge l L.length with hlt|hge
     ·rw[List.getElem?_append_left (by omega)]at q1;rw[List.getElem?_append_left hlt]at q2;exact other (λvs' h=>by injection h with h;injection h with h _;omega) ⟨q1,J',q2,q3⟩
     ·obtain rfl:l=L.length:=by omega
      rw[<-hA,List.getElem?_concat_length]at q1;injection q1 with q1;rw[List.getElem?_concat_length]at q2;injection q2 with q2;subst q2;obtain⟨m1,k1,k2⟩:=q3;obtain⟨o,r1,I1,r2,r3⟩:=ihm m1 k1 vs1 q1.symm k2;refine⟨o,r1,λv k=>(v=vs/\k=m)\/(k<m/\I1 v k),.inl ⟨rfl,rfl⟩,?_⟩;rintro v k hv (⟨rfl,rfl⟩|⟨hk,hI1⟩)
      ·refine rr body (λr h=>by cases h) (Ih (by simp[lY]) λl' vs' h hlt=>?_) (by simp[lY]) g2;injection h with h;injection h with h h';subst h h';exact⟨_,Ce,m1,k1,.inr ⟨k1,r2⟩⟩
      ·refine rr body (λr h=>h) (Kb.snoc (λl J h=>⟨J,h,λ_ h=>h⟩) rfl ?_) (by simp) (r3 v k hv hI1);rintro w ⟨m'',x1,x2⟩;exact⟨m'',x1,.inr ⟨by omega,x2⟩⟩
  obtain⟨o,r1,I',r2,r3⟩:=key m vs (Df h1) h2
  exact⟨o,r1,I',m,vs,h1,r2,r3⟩
 |ret xs=>
  intro R L A ρ hw hA hv;obtain⟨vs,h1,h2⟩:=hv
  exact⟨.inl vs,h2,vs,h1,rfl⟩
 |sel xs k ih=>
  intro R L A ρ hw hA hv;rw[A8]at hv
  cases he:gL ρ xs with
  |none=>rw[he]at hv;exact hv.elim
  |some out=>
   rw[he]at hv;obtain⟨q,h1,h2⟩:=ih hw hA hv;exact⟨q,h1,by rw[A8,he];exact h2⟩
theorem HD{α:Type}{up:UP}{ρ:List DV}{R:α->List (Bool×List DV)->Prop}{Q:α->Prop}(hw:AG up []=true)(h:V P (λvs=>∃a,Q a/\R a vs) up [] ρ):∃a,Q a/\V P (R a) up [] ρ:=by
 obtain⟨o,h1,h2⟩:=Qq up hw rfl h
 cases o with
 |inl r=>
  obtain⟨a,q1,q2⟩:=h1
  exact⟨a,q1,rr up (λr' he=>by injection he with he;exact he▸q2) (λl J h=>by simp[CT]at h) rfl h2⟩
 |inr p=>obtain⟨_,J,hJ,_⟩:=h1;simp at hJ
theorem iF{α:Type}{ow:eK}{hs:List aY}{dn:List (Nat×Nat×Bool×List Nat)}{f:FuncId}{fn:Func}{args:List (Bool×List DV)}{res:α->List Rs}{Q:α->Prop}{sh:List (Bool×Nat)}{up:UP}
 (hf:P.funcs[f]? =some fn) (hg:bk P f fn ow hs dn=some (sh,up)) (hsh:si args=sh) (hwf:AG up []=true) (hw:V P (λvs=>∃a,Q a/\iR (res a) vs) up [] (gY (cn args) [])):∃a,Q a/\aW P f args (res a):=by
 obtain⟨a,h1,h2⟩:=HD hwf hw;exact⟨a,h1,ax hf hg hsh h2⟩
theorem fB{α:Type}{ow:eK}{hs:List aY}{dn:List (Nat×Nat×Bool×List Nat)}{f:FuncId}{fn:Func}{t:Nat}{x:DV}{cs:List DV}{cs':α->List DV}{rest:List (Bool×List DV)}{res:α->List Rs}{Q:α->Prop}{sh:List (Bool×Nat)}{up:UP}
 (hf:P.funcs[f]? =some fn) (hg:eA P f fn ow hs dn t=some (sh,up)) (hsh:si rest=sh) (hdp:∀a,∀r∈res a,r.2.2=true) (hwf:AG up []=true) (hw:V P (λvs=>∃a,Q a/\TT t (res a) (cs' a) vs) up [] (gY (cn ((false,[ky t x cs])::rest)) [])):∃a,Q a/\cr P f t x cs rest (res a) (cs' a):=by
 obtain⟨a,h1,h2⟩:=HD hwf hw;exact⟨a,h1,fD hf hg hsh (hdp a) h2⟩
end
end Go.Proofs.Ytngaddcgmnonbaa
namespace Go.Proofs.Ytngaddcgmnonbaa
open Go.RowKit
section
variable {P:Program}{ρ ρ':List DV}{σ:List Nat}{S S':Sy}{s s0:AS}{ps:List PO}
def Lo(S:Sy):ResultVar->Sy
 |.tmp t=>SZ S (.tmp t)
 |.cell t _=>(match aG S.sl t with|some (.p false [.ptr i st _])=>HM (List.replicate 20 false) S i st|_=>S)
theorem Of{rv:ResultVar}(hr:aO S ρ σ s):∃s',Fz s s'/\aO (Lo S rv) ρ σ s':=by
 cases rv with
 |tmp t=>exact IH (x:=.tmp t) hr
 |cell t ty=>
  simp only[Lo];split
  ·rename_i i st off h;have hv:=hr.sl _ _ h
   have hst:∃st',σ[st]? =some st':=by
    cases hsx:s.sl t with
    |tup=>rw[hsx]at hv;exact hv.elim
    |und=>rw[hsx]at hv;exact hv.elim
    |p b cs0=>
     rw[hsx]at hv;obtain⟨rfl,hv⟩:=hv
     match cs0,hv with
     |[c],hv=>
      cases c<;>first|exact hv.1.elim|skip
      exact⟨_,hv.1.2.1⟩
   obtain⟨st',hst⟩:=hst;exact CG hr hst
  ·exact⟨s,λ_ _ _ _ E h=>⟨E,h⟩,hr⟩
theorem Fb:∀{rvs:List ResultVar} {S:Sy} {s:AS},aO S ρ σ s->∃s',Fz s s'/\aO (rvs.foldl Lo S) ρ σ s'
 |[],S,s,hr=>⟨s,λ_ _ _ _ E h=>⟨E,h⟩,hr⟩
 |x::xs,S,s,hr=>by
  obtain⟨s1,f1,r1⟩:=Of (rv:=x) hr;obtain⟨s2,f2,r2⟩:=Fb (rvs:=xs) r1;exact⟨s2,f1.trans f2,r2⟩
def BV(S:Sy):Option (Nat×Nat):=S.ob.findSome? λp=>match S.own p.1 (p.2.st.getD 0)with|some (.pvr st _ _)=>if st<S.c then some (p.1,st)else none|_=>none
theorem Jc{i st:Nat}(h:BV S=some (i,st))(hr:aO S ρ σ s):∃st',σ[st]? =some st':=by
 unfold BV at h;obtain⟨l1,p,l2,-,h,-⟩:=List.findSome?_eq_some_iff.1 h;split at h
 ·split at h
  ·rename_i hlt;injection h with h;injection h with e1 e2;subst e1 e2;exact⟨_,List.getElem?_eq_getElem (by rw[hr.c];exact hlt)⟩
  ·cases h
 ·cases h
def zE:List Bool->List SC->List (Option (Nat×Nat))->Sy->Option (List PO×List Nat×List Nat×Sy)
 |[],[],_,S=>some ([],[],[],S)
 |false::bs,c::cs,ty,S=>(match t9 true [c] [ty.headD none] S with
  |some (p,[x],S1)=>(match zE bs cs ty.tail S1 with|some (q,xs,R,S2)=>some (p++q,x::xs,R,S2)|none=>none)
  |_=>none)
 |true::bs,.own j st::cs,ty,S=>(match S.own j st with
  |some (.shr _ _ _ x)=>(match zE bs cs ty.tail S with|some (q,xs,R,S2)=>some (q,x::xs,j::R,S2)|none=>none)
  |_=>none)
 |_,_,_,_=>none
theorem D4:∀{bs:List Bool} {cs:List SC} {ty:List (Option (Nat×Nat))} {S S':Sy} {ps:List PO} {xs R:List Nat} {ρ ρ':List DV} {acs:List AC},zE bs cs ty S=some (ps,xs,R,S')->aq ps ρ=some ρ'->aO S ρ σ s->cj ρ σ cs acs->
 ∃ds,RD ρ' xs ds/\ds.length=bs.length/\Bh s acs (bs.zip ds)/\aM acs (bs.zip ds)=R/\aO S' ρ' σ s
 |[],[],ty,S,S',ps,xs,R,ρ,ρ',acs,h,he,hr,hc=>by
  simp only[zE,Option.some.injEq,Prod.mk.injEq]at h;obtain⟨rfl,rfl,rfl,rfl⟩:=h;simp only[aq]at he;injection he with he;subst he
  cases acs with
  |nil=>exact⟨[],trivial,rfl,trivial,rfl,hr⟩
  |cons=>exact hc.elim
 |false::bs,c::cs,ty,S,S',ps,xs,R,ρ,ρ',acs,h,he,hr,hc=>by
  simp only[zE]at h;split at h
  ·rename_i p x S1 h1;split at h
   ·rename_i q xs' R' S2 h2;simp only[Option.some.injEq,Prod.mk.injEq]at h;obtain⟨rfl,rfl,rfl,rfl⟩:=h
    cases acs with
    |nil=>exact hc.elim
    |cons y acs=>
     obtain⟨ρ1,a1,a2⟩:=ac he;obtain⟨ds,d1,-,d3,d4⟩:=eT h1 a1 hr (ys:=[y]) ⟨hc.1,trivial⟩;obtain⟨ds2,e1,e2,e3,e4,e5⟩:=D4 h2 a2 d4 (hc.2.mono (ai a1) (aN.refl _))
     match ds,d1,d3 rfl with
     |[d],d1,d3=>
      refine⟨d::ds2,⟨(ai a2).get d1.1,e1⟩,by simp[e2],⟨?_,e3⟩,?_,e5⟩
      ·have:=d3.1;cases y<;>exact this
      ·have:aM (y::acs) ((false,d)::bs.zip ds2)=aM acs (bs.zip ds2):=by cases y<;>rfl
       show aM (y::acs) ((false,d)::bs.zip ds2)=_
       rw[this,e4]
     |[],d1,d3=>exact d3.elim
     |_::_::_,d1,d3=>exact d3.2.elim
   ·cases h
  ·cases h
 |true::bs,.own j st::cs,ty,S,S',ps,xs,R,ρ,ρ',acs,h,he,hr,hc=>by
  simp only[zE]at h;split at h
  ·rename_i a t k x ho;split at h
   ·rename_i q xs' R' S2 h2;simp only[Option.some.injEq,Prod.mk.injEq]at h;obtain⟨rfl,rfl,rfl,rfl⟩:=h
    cases acs with
    |nil=>exact hc.elim
    |cons y acs=>
     obtain⟨hc1,hc2⟩:=hc;cases y<;>first|exact hc1.elim|skip
     rename_i j' st';obtain⟨rfl,hst⟩:=hc1;obtain⟨o',k1,k2,k3,k4⟩:=hr.own ho hst;cases o'<;>first|exact k2.elim|skip
     rename_i b ty' kr es dp;obtain⟨k5,rfl,rfl,rfl,hx⟩:=k2;obtain rfl:=aT k1 rfl;obtain⟨ds2,e1,e2,e3,e4,e5⟩:=D4 h2 he hr hc2;refine⟨.sl ty' kr es::ds2,⟨(ai he).get hx,e1⟩,by simp[e2],⟨⟨ty',kr,es,rfl,k1⟩,e3⟩,?_,e5⟩;show j'::aM acs (bs.zip ds2)=_;rw[e4]
   ·cases h
  ·cases h
 |[],_::_,_,_,_,_,_,_,_,_,_,h,_,_,_=>by simp[zE]at h
 |false::_,[],_,_,_,_,_,_,_,_,_,h,_,_,_=>by simp[zE]at h
 |true::_,[],_,_,_,_,_,_,_,_,_,h,_,_,_=>by simp[zE]at h
 |true::_,.d _::_,_,_,_,_,_,_,_,_,_,h,_,_,_=>by simp[zE]at h
 |true::_,.nil::_,_,_,_,_,_,_,_,_,_,h,_,_,_=>by simp[zE]at h
 |true::_,.emp::_,_,_,_,_,_,_,_,_,_,h,_,_,_=>by simp[zE]at h
 |true::_,.ptr _ _ _::_,_,_,_,_,_,_,_,_,_,h,_,_,_=>by simp[zE]at h
 |true::_,.elt _ _ _ _ _::_,_,_,_,_,_,_,_,_,_,h,_,_,_=>by simp[zE]at h
 |true::_,.sub _ _ _ _ _::_,_,_,_,_,_,_,_,_,_,h,_,_,_=>by simp[zE]at h
 |true::_,.rd _::_,_,_,_,_,_,_,_,_,_,h,_,_,_=>by simp[zE]at h
def DC:List (Bool×List SC)->List (List (Option (Nat×Nat)))->Sy->Option (List PO×List (Bool×List Nat)×Sy)
 |[],_,S=>some ([],[],S)
 |(b,cs)::r,ty,S=>(match t9 true cs (ty.headD []) S with
  |some (p,xs,S1)=>(match DC r ty.tail S1 with|some (q,l,S2)=>some (p++q,(b,xs)::l,S2)|none=>none)
  |none=>none)
theorem Es:∀{xs:List (Bool×List SC)} {ty:List (List (Option (Nat×Nat)))} {l:List (Bool×List Nat)} {S S':Sy} {ps:List PO} {ρ ρ':List DV} {rvs:List ResultVar} {ys:List (Bool×List AC)},
 DC xs ty S=some (ps,l,S')->aq ps ρ=some ρ'->aO S ρ σ s->P2 P s rvs ys->RT ρ σ xs ys->∃ds,cV ρ' l=some ds/\Ie P s rvs ds
 |[],ty,l,S,S',ps,ρ,ρ',rvs,ys,h,he,hr,hv,ht=>by
  simp only[DC]at h;injection h with h;injection h with e1 h;injection h with e2 e3;subst e1 e2 e3
  match ys,ht with
  |[],_=>
   cases rvs with
   |nil=>exact⟨[],rfl,trivial⟩
   |cons=>exact hv.elim
 |(b,cs)::r,ty,l,S,S',ps,ρ,ρ',rvs,ys,h,he,hr,hv,ht=>by
  simp only[DC]at h;split at h
  ·rename_i p xs S1 h1;split at h
   ·rename_i q l' S2 h2;injection h with h;injection h with e1 h;injection h with e2 e3;subst e1 e2 e3
    match ys,rvs,ht,hv with
    |y::ys,rv::rvs,ht,hv=>
     obtain⟨ρ1,a1,a2⟩:=ac he;obtain⟨ds,g1,-,g2,g3⟩:=eT h1 a1 hr ht.1.2;obtain⟨dss,d1,d2⟩:=Es h2 a2 g3 hv.2 (RT.mono (ai a1) (aN.refl _) ht.2);refine⟨(b,ds)::dss,by simp only[cV,g1.app_pre (ai a2),d1],?_⟩;simp only[Ie];refine⟨?_,d2⟩;rw[hv.1];exact⟨ht.1.1,g2 rfl⟩
   ·cases h
  ·cases h
def C4(P:Program)(T:TypeId)(bits n:Nat)(rvs:List ResultVar)(ty:List (List (Option (Nat×Nat)))):Kt:=λ_ e S=>
 match e with
 |.normal|.ret=>(match BV S with
  |some (i,st)=>(match sV (HM (bN n bits) (rvs.foldl Lo S) i st) i st with
   |some (true,T',cs)=>(match dV i st true T' ((bN n bits).zip (gO P 9 T)) 0 cs (HM (bN n bits) (rvs.foldl Lo S) i st)with
    |(p0,cs1,S1)=>(match td P rvs S1 with
     |some (p,xs,S2)=>(match zE (bN n bits) cs1 (gO P 9 T) S2 with
      |some (q,ids,R,S3)=>(match DC xs ty S3 with|some (r,l,_)=>if T'=T/\R.Nodup then some (dl ((p0++(p++(q++r))).map .po) (.ret ((true,ids)::l)))else none|none=>none)
      |none=>none)
     |none=>none))
   |_=>none)
  |none=>none)
 |_=>none
def MM(n:Nat)(res:List (Bool×List DV))(cs':List DV)(vs:List (Bool×List DV)):Prop:=vs=(true,cs')::res
def Mu(P:Program)(T:TypeId)(cs':List VC)(rvs:List ResultVar)(res:List (Bool×List DV))(e:Exit)(s:AS):Prop:=∃s',Fz s s'/\Mx P T cs' rvs res e s'
theorem GA{T:TypeId}{bits n:Nat}{rvs:List ResultVar}{ty:List (List (Option (Nat×Nat)))}{res:List (Bool×List DV)}{cs':List DV}{L:Lbl}:yS P (MM n res cs') L ρ (Mu P T ((bN n bits).zip cs') rvs res) (C4 P T bits n rvs ty):=by
 intro L' ρ1 hL hp e S pg hpg σ s hr hw
 have key:∀i st T' cs p0 cs1 S1 p xs S2 q ids R S3 r l S4,BV S=some (i,st)->sV (HM (bN n bits) (rvs.foldl Lo S) i st) i st=some (true,T',cs)->dV i st true T' ((bN n bits).zip (gO P 9 T)) 0 cs (HM (bN n bits) (rvs.foldl Lo S) i st)=(p0,cs1,S1)->td P rvs S1=some (p,xs,S2)->zE (bN n bits) cs1 (gO P 9 T) S2=some (q,ids,R,S3)->
  DC xs ty S3=some (r,l,S4)->(T'=T/\R.Nodup)->pg=dl ((p0++(p++(q++r))).map .po) (.ret ((true,ids)::l))->∃s',Fz s s'/\B2 P T ((bN n bits).zip cs') rvs res s':=by
  rintro i st T' cs p0 cs1 S1 p xs S2 q ids R S3 r l S4 h1 h2 hN h3 h4 h5 ⟨rfl,hnd⟩ e;subst e;obtain⟨ρ2,he,hw2,-⟩:=bn (ei hw);simp only[W]at hw2;obtain⟨vs,w1,rfl⟩:=hw2;obtain⟨ρ0,a0,he⟩:=ac he;obtain⟨ρ3,a1,a2⟩:=ac he;obtain⟨ρ4,b1,b2⟩:=ac a2;obtain⟨st',hst⟩:=Jc h1 hr;obtain⟨s1,f1,r1⟩:=Fb (rvs:=rvs) hr;obtain⟨s2,f2,r2⟩:=CG (bs:=bN n bits) (i:=i) r1 hst;obtain⟨acs0,v1,v2,v3⟩:=BG h2 r2 hst;obtain⟨s3,σ3,acs,f3,n2,r3,v1,v2,n6⟩:=im hN a0 r2 hst v1 v2;obtain⟨ys,y1,y2,y3⟩:=qR h3 a1 r3;obtain⟨ds,d1,d2,d3,d4,d5⟩:=D4 h4 b1 y3 (v2.mono (ai a1) (aN.refl _));obtain⟨dss,g1,g2⟩:=Es h5 b2 d5 y1 (RT.mono (ai b1) (aN.refl _) y2);simp only[cV,d1.app_pre (ai b2),g1]at w1;injection w1 with w1;injection w1 with w2 w3;injection w2 with _ w2;subst w2 w3;exact⟨s3,f1.trans (f2.trans f3),⟨i,st',acs,v1,d3,by rw[d4];exact hnd⟩,g2⟩
 unfold C4 at hpg
 have go:∀{x:Option Pg},x=(match BV S with
  |some (i,st)=>(match sV (HM (bN n bits) (rvs.foldl Lo S) i st) i st with
   |some (true,T',cs)=>(match dV i st true T' ((bN n bits).zip (gO P 9 T)) 0 cs (HM (bN n bits) (rvs.foldl Lo S) i st)with
    |(p0,cs1,S1)=>(match td P rvs S1 with
     |some (p,xs,S2)=>(match zE (bN n bits) cs1 (gO P 9 T) S2 with
      |some (q,ids,R,S3)=>(match DC xs ty S3 with|some (r,l,_)=>if T'=T/\R.Nodup then some (dl ((p0++(p++(q++r))).map .po) (.ret ((true,ids)::l)))else none|none=>none)
      |none=>none)
     |none=>none))
   |_=>none)
  |none=>none)->x=some pg->∃s',Fz s s'/\B2 P T ((bN n bits).zip cs') rvs res s':=by
  rintro _ rfl hpg;split at hpg
  ·split at hpg
   ·split at hpg;rename_i hN;split at hpg
    ·split at hpg
     ·split at hpg
      ·split at hpg
       ·injection hpg with hpg;exact key _ _ _ _ _ _ _ _ _ _ _ _ _ _ _ _ _ (by assumption) (by assumption) hN (by assumption) (by assumption) (by assumption) (by assumption) hpg.symm
       ·cases hpg
      ·cases hpg
     ·cases hpg
    ·cases hpg
   ·cases hpg
  ·cases hpg
 cases e with
 |normal=>exact go rfl hpg
 |ret=>exact go rfl hpg
 |_=>cases hpg
def MZ(m:Nat):Sy:=⟨[],[],0,0,m,[]⟩
def Ae(T:TypeId)(bs:List Bool)(ty:List (Option (Nat×Nat)))(n:Nat)(sh:List (Bool×Nat)):Sy:=
 let r:=xX bs ty 0 (MZ (n+(sh.map (·.2)).sum))
 {r.2.push (.pvr r.2.c T r.1)with sl:=(0,.p false [.ptr r.2.n r.2.c 0])::PU sh 1 n}
theorem FO{T:TypeId}{bs:List Bool}{ty:List (Option (Nat×Nat))}{cs:List DV}{rest:List (Bool×List DV)}(hok:AT bs ty=true)(hs:mU ty cs=true):∃σ,aO (Ae T bs ty cs.length (si rest)) (cs++cn rest) σ (yd T (bs.zip cs) rest):=by
 have h0:aO (MZ (cs.length+((si rest).map (·.2)).sum)) (cs++cn rest) [] (bM []):=by
  refine⟨rfl,rfl,?_,λt x hx=>by simp[MZ,aG]at hx,λi x hx=>by simp[MZ,aG]at hx,λi b hb=>by simp[MZ,aG]at hb⟩;simp only[MZ,fG,List.length_append]
 have hd:RD (cs++cn rest) (cR 0 cs.length) cs:=by
  have:RD ([]++cs) (cR ([]:List DV).length cs.length) cs:=vG;exact RD.mono (aN.app _ _) this
 obtain⟨σ',p1,p2,p3⟩:=vW (bs:=bs) (ty:=ty) (m:=0) hok hs hd h0
 have hp:=p2.push (so:=.pvr (xX bs ty 0 (MZ (cs.length+((si rest).map (·.2)).sum))).2.c T (xX bs ty 0 (MZ (cs.length+((si rest).map (·.2)).sum))).1) (ob:=.pvr ((bM []).pushL (oY (bs.zip cs) 0)).c T (Cr (bs.zip cs) 0 0)) ⟨p2.last _,rfl,p3.mono (aN.refl _) (aN.app _ _)⟩
 refine⟨_,hp.n,hp.c,hp.m,λt x hx=>?_,hp.ob,hp.kn⟩;simp only[Ae,aG]at hx;split at hx
 ·rename_i e;subst e;injection hx with hx;subst hx;exact⟨rfl,⟨p2.n,p2.last _,rfl⟩,trivial⟩
 ·rename_i e;obtain⟨b,ds,m,h1,h2,h3,h4⟩:=z5 (pre:=cs) hx;subst h3;obtain⟨q,rfl⟩:=Nat.exists_eq_succ_of_ne_zero (show t≠0 by omega);simp only[Nat.succ_eq_add_one,Nat.add_sub_cancel]at h2;simp only[yd,h2];exact⟨rfl,RD.toC h4⟩
def d7(P:Program)(f:FuncId)(fn:Func)(ow:eK)(hs:List aY)(dn:List (Nat×Nat×Bool×List Nat))(T bits:Nat):Option (List (Bool×Nat)×UP):=
 match fn.body,fn.params.toList with
 |some c,_::ts=>if bf P f&&decide (ts.length+1<=fn.ntmps)&&AT (bN (gO P 9 T).length bits) (gO P 9 T)&&decide (bits<64)then
  (match y8 P fn.ntmps ow hs (xC P fn.ntmps ow dn) c 0 (Ae T (bN (gO P 9 T).length bits) (gO P 9 T) (gO P 9 T).length (Kh P ts)) (C4 P T bits (gO P 9 T).length fn.results.toList (fn.resultTypes.toList.map (gO P 9)))with
  |some pg=>(match cv pg ((gO P 9 T).length+((Kh P ts).map (·.2)).sum) (gY (cR 0 ((gO P 9 T).length+((Kh P ts).map (·.2)).sum)) [])with|some up=>some (Kh P ts,up)|none=>none)
  |none=>none)else none
 |_,_=>none
theorem fN{ow:eK}{hs:List aY}{dn:List (Nat×Nat×Bool×List Nat)}{f:FuncId}{fn:Func}{T bits:Nat}{cs cs':List DV}{rest res:List (Bool×List DV)}{sh:List (Bool×Nat)}{up:UP}
 (hf:P.funcs[f]? =some fn) (hg:d7 P f fn ow hs dn T bits=some (sh,up)) (hsh:si rest=sh) (hty:mU (gO P 9 T) cs=true) (hw:V P (MM (gO P 9 T).length res cs') up [] (gY (cn ((true,cs)::rest)) [])):dZ P (ux T bits f) ((true,cs)::rest) ((true,cs',true)::res.map λr=>(r.1,r.2,true)):=by
 unfold d7 at hg;split at hg
 ·rename_i c T0 ts hc hp;split at hg
  ·rename_i hb;simp only[Bool.and_eq_true,decide_eq_true_eq]at hb;obtain⟨⟨⟨hb1,hb2⟩,hb3⟩,hb4⟩:=hb;split at hg
   ·rename_i pg hp';split at hg
    ·rename_i up' hu;injection hg with hg;injection hg with e1 e2;subst e2
     have hlen:rest.length+1<=fn.ntmps:=by
      have h1:=congrArg List.length (hsh.trans e1.symm);simp only[si,Kh,List.length_map]at h1;rw[h1];exact hb2
     have hcl:cs.length=(gO P 9 T).length:=gX hty;rw[e1,<-hsh,<-hcl]at hp' hu;rw[<-hcl]at hw hb3;obtain⟨σ0,hrel⟩:=FO (T:=T) (rest:=rest) hb3 hty;refine .v hb4 (DJ hf hc hb1 hlen ?_)
     have hgen:oP P fn.ntmps c (Mu P T ((bN cs.length bits).zip cs') fn.results.toList res) (yd T ((bN cs.length bits).zip cs) rest):=by
      refine wK (L:=[]) nu c hp' rfl hrel GA ?_;rw[fG]at hu;have hl:(cn ((true,cs)::rest)).length=cs.length+(cn rest).length:=by simp[cn]
      obtain⟨a1,a2⟩:=Al.many (e:=cn ((true,cs)::rest)) (μ:=[]) (ρ:=[]) (ρ':=[]) (λp i h=>by simp at h) (by simp);rw[hl]at a1 a2;simp only[List.nil_append,List.length_nil]at a1 a2;exact Bc pg hu (by rw[<-hl];rfl) a1 a2 hw
     intro w0 a w E hr;refine Code.wp_mono (λe a w hq=>?_) (hgen w0 a w E hr);obtain⟨s,E,⟨s',hf,hq⟩,hr⟩:=hq;obtain⟨E',hr'⟩:=hf _ _ _ _ _ hr;exact⟨s',E',hq,hr'⟩
    ·cases hg
   ·cases hg
  ·cases hg
 ·cases hg
theorem eF{α:Type}{ow:eK}{hs:List aY}{dn:List (Nat×Nat×Bool×List Nat)}{f:FuncId}{fn:Func}{T bits:Nat}{cs:List DV}{cs':α->List DV}{rest:List (Bool×List DV)}{res:α->List (Bool×List DV)}{Q:α->Prop}{sh:List (Bool×Nat)}{up:UP}
 (hf:P.funcs[f]? =some fn) (hg:d7 P f fn ow hs dn T bits=some (sh,up)) (hsh:si rest=sh) (hty:mU (gO P 9 T) cs=true) (hwf:AG up []=true) (hw:V P (λvs=>∃a,Q a/\MM (gO P 9 T).length (res a) (cs' a) vs) up [] (gY (cn ((true,cs)::rest)) [])):
 ∃a,Q a/\dZ P (ux T bits f) ((true,cs)::rest) ((true,cs' a,true)::(res a).map λr=>(r.1,r.2,true)):=by
 obtain⟨a,h1,h2⟩:=HD hwf hw;exact⟨a,h1,fN hf hg hsh hty h2⟩
end
end Go.Proofs.Ytngaddcgmnonbaa
namespace Go.Proofs.Ytngaddcgmnonbaa
open Go.RowKit
set_option maxRecDepth 100000
def di:eK:=⟨λg=>!([17]:List FuncId).contains g,false,[],[],[12,13,14,24,25,26,27,28,30,35,36,51],[(11,45)],[],[(39,4),(40,4),(55,4),(56,4),(57,4),(69,4),(71,4),(75,4),(76,4),(77,4),(78,4),(79,4),(82,4)]⟩
def Uw:eK:=⟨λg=>!([17]:List FuncId).contains g,true,[],[],[12,13,14,24,25,26,27,28,30,35,36,51],[(11,45)],[],[(39,4),(40,4),(55,4),(56,4),(57,4),(69,4),(71,4),(75,4),(76,4),(77,4),(78,4),(79,4),(82,4)]⟩
def sK:List aY:=[⟨11,1,⟨[aa 91 20,aa 15 19,aa 13 17,co 12 5 5,aa 11 15,co 10 4 4,aa 50 13,aa 9 9,co 8 3 3,aa 7 7,co 6 2 2,co 5 1 1,aa 4 4,co 3 0 0,aa 19 2,aa 2 1,aa 0 0],[(0,.row 0 37 5 3),(1,.row 1 37 5 5),(2,.row 2 37 5 6),(3,.row 3 37 5 8),(4,.row 4 37 5 14),(5,.row 5 37 5 16)],6,6,21,[(13,false),(12,false),(10,false),(2,false),(1,false)]⟩,[]⟩]
def tC:List (Nat×Nat×Bool×List Nat):=[]
def eR:UP:=.ite 0 (.ite 5 (.po (.bin .eql true 3 1)<|.ite 0 (.sel [7,11]<|.cl 8 [(false,[0]),(false,[1])] aP<|.c 0<|.r 0)<|.f<|.c 0<|.r 0)<|.f<|.f<|.c 0<|.r 0)<|.l 7<|.b .sub 10 0<|.l 10<|.a 1 0<|.sel [0,8,12]<|.cl 6 [(false,[1]),(false,[0])] wB<|.ite 0 (.cl 8 [(false,[1]),(false,[4])] aP<|.c 0<|.r 0)<|.f<|.c 0<|.r 0
def db:UP:=.f<|.cl 4 [(false,[1])] aP<|.ite 0 (.t<|.c 0<|.r 0)<|.cl 5 [(false,[2])] [(false,[some (37,5)],true),(false,[none],true),(false,[some (37,5)],true)]<|.cl 6 [(false,[2]),(false,[1])] wB<|.cl 7 [(false,[4]),(false,[3])] wB<|.po (.bin .neq true 2 0)<|.ite 0 (.t<|.t<|.po (.bin .eql true 5 3)<|.c 0<|.r 0)<|.sel [1,2,3,4,5,6,7]<|.cl 8 [(false,[3]),(false,[1])] aP<|.n 0<|.ite 0 (.t<|.po (.bin .eql true 5 3)<|.c 0<|.r 0)<|.n 2<|.ite 0 (.po (.bin .eql true 5 3)<|.c 0<|.r 0)<|.sel [4,7,8,9]<|.cl 9 [(false,[3]),(false,[2]),(false,[0])] wB<|.cl 9 [(false,[5]),(false,[4]),(false,[3])] wB<|.cl 10 [(false,[7]),(false,[6]),(false,[5])] wB<|.join 1 eR<|.n 4<|.ite 0 (.t<|.t<|.t<|.jump 0 [0])<|.sel [1,3,6,10]<|.cl 8 [(false,[2]),(false,[3])] aP<|.n 0<|.ite 0 (.t<|.t<|.jump 0 [0])<|.po (.bin .neq true 3 2)<|.ite 0 (.t<|.jump 0 [0])<|.n 3<|.jump 0 [0]
theorem dU:bk Try.prog 3 Try.f3 di sK tC=some ([(false,1)],db):=by kernel_rfl
def Am:List aY:=[]
def zr:List (Nat×Nat×Bool×List Nat):=[]
def qU:UP:=.f<|.l 1<|.i 1048576<|.b .gtr 1 0<|.c 0<|.r 0
theorem Av:bk Try.prog 4 Try.f4 di Am zr=some ([(false,1)],qU):=by kernel_rfl
def gW:List aY:=[]
def gR:List (Nat×Nat×Bool×List Nat):=[]
def dK:UP:=.i 0<|.cl 3000011 [(false,[1])] [(false,[some (45,0)],true)]<|.cl 2000012 [(false,[0])] [(false,[some (37,5)],true),(false,[some (45,0)],true)]<|.l 1<|.i 2<|.a 1 0<|.sel [0,3,4]<|.cl 2000013 [(false,[1]),(false,[0])] bm<|.i 1<|.b .sub 2 0<|.sel [0,2,6]<|.cl 2000014 [(false,[1])] [(false,[some (37,5)],true),(false,[some (45,0)],true)]<|.l 1<|.i 1<|.b .gtr 1 0<|.ite 0 (.l 4<|.i 1<|.b .sub 1 0<|.z 0<|.po (.chk 5 7 0)<|.x 5 7 0<|.i 1<|.e 1 0<|.ite 0 (.l 14<|.i 1<|.b .sub 1 0<|.po (.cutI 17 none (some 0))<|.c 20<|.po (.cutP 19 1 0)<|.ret [(false,[23]),(false,[21]),(false,[0])])<|.c 15<|.ret [(false,[17]),(false,[15]),(false,[14])])<|.f<|.c 6<|.ret [(false,[8]),(false,[6]),(false,[5])]
theorem gU:bk Try.prog 5 Try.f5 di gW gR=some ([(false,1)],dK):=by kernel_rfl
def oH:List aY:=[⟨2000001,1,⟨[aa 80 10,aa 14 9,aa 5 7,aa 10 5,aa 4 2,aa 0 0,aa 1 1],[],0,0,11,[(9,true),(5,false),(2,false)]⟩,[]⟩,⟨3000004,1,⟨[aa 5 7,aa 10 5,aa 4 2,aa 0 0,aa 1 1],[],0,0,8,[(5,false),(2,false)]⟩,[]⟩]
def oL:List (Nat×Nat×Bool×List Nat):=[(6,64,false,[])]
def fS:UP:=.i 1<|.a 4 0<|.jump 0 [0]
def fZ:UP:=.l 3<|.b .lss 1 0<|.ite 0 (.join 1 fS<|.z 2<|.x 5 5 2<|.c 4<|.z 7<|.x 5 9 7<|.c 4<|.b .neq 9 4<|.c 0<|.ite 0 (.t<|.c 0<|.t<|.c 0<|.t<|.c 0<|.t<|.c 0<|.ite 0 (.f<|.c 0<|.r 0)<|.jump 1 [0])<|.z 13<|.x 5 16 13<|.c 3<|.z 18<|.x 5 20 18<|.c 3<|.b .neq 8 3<|.c 0<|.c 0<|.ite 0 (.t<|.c 0<|.t<|.c 0<|.t<|.c 0<|.ite 0 (.f<|.c 0<|.r 0)<|.jump 1 [0])<|.z 24<|.x 5 27 24<|.c 2<|.z 29<|.x 5 31 29<|.c 2<|.b .neq 7 2<|.c 0<|.c 0<|.ite 0 (.t<|.c 0<|.t<|.c 0<|.ite 0 (.f<|.c 0<|.r 0)<|.jump 1 [0])<|.z 35<|.x 5 38 35<|.c 0<|.z 40<|.x 5 42 40<|.c 0<|.b .neq 5 0<|.c 0<|.c 0<|.ite 0 (.t<|.c 0<|.ite 0 (.f<|.c 0<|.r 0)<|.jump 1 [0])<|.z 46<|.x 5 49 46<|.z 51<|.x 5 53 51<|.sel [1,6]<|.cl 22 [(false,[1]),(false,[0])] aP<|.n 0<|.c 0<|.c 0<|.ite 0 (.f<|.c 0<|.r 0)<|.jump 1 [0])<|.t<|.c 0<|.r 0
def gj:UP:=.f<|.l 2<|.l 2<|.b .neq 1 0<|.ite 0 (.f<|.c 0<|.r 0)<|.i 0<|.sel [0,5,6]<|.loop [0] fZ
theorem oJ:bk Try.prog 8 Try.f8 di oH oL=some ([(false,1),(false,1)],gj):=by kernel_rfl
def qL:List aY:=[⟨3000004,1,⟨[aa 5 7,aa 10 5,aa 4 2,aa 0 0,aa 1 1],[],0,0,8,[(5,false),(2,false)]⟩,[]⟩]
def pM:List (Nat×Nat×Bool×List Nat):=[(6,9,false,[])]
def gA:UP:=.l 3<|.b .lss 1 0<|.ite 0 (.z 2<|.x 1 5 2<|.c 0<|.z 3<|.x 1 5 3<|.c 0<|.b .neq 1 0<|.c 0<|.ite 0 (.f<|.c 0<|.r 0)<|.i 1<|.a 6 0<|.jump 0 [0])<|.t<|.c 0<|.r 0
def jf:UP:=.f<|.l 2<|.l 2<|.b .neq 1 0<|.ite 0 (.f<|.c 0<|.r 0)<|.i 0<|.sel [0,5,6]<|.loop [0] gA
theorem qx:bk Try.prog 22 Try.f22 di qL pM=some ([(false,1),(false,1)],jf):=by kernel_rfl
def uP:List aY:=[⟨2000000,3,⟨[aa 20 13,aa 16 11,aa 4 8,aa 9 6,co 3 1 1,(2,.p false [.nil]),co 0 0 0],[(0,.cur 0 true 45 14),(1,.dx 1 15)],2,2,16,[(6,false)]⟩,[⟨true,22,7,0,0⟩,⟨true,12,7,0,0⟩,⟨true,3,7,0,0⟩,⟨true,6,7,0,0⟩]⟩]
def vk:List (Nat×Nat×Bool×List Nat):=[]
def kR:UP:=.ret [(false,[1]),(false,[0])]
def mh:UP:=.cl 2000014 [(false,[0])] [(false,[some (37,5)],true),(false,[some (45,0)],true)]<|.i 5<|.cl 2000024 [(false,[1]),(false,[0])] bm<|.n 1<|.ite 0 (.ret [(false,[1]),(false,[5])])<|.l 5<|.sel [0,2,6]<|.cl 2000013 [(false,[1]),(false,[0])] bm<|.i 6<|.cl 2000013 [(false,[1]),(false,[0])] bm<|.sel [0,1,4,7]<|.join 3 kR<|.i 0<|.e 2 0<|.ite 0 (.i 0<|.i 1<|.i 3<|.i (-1)<|.i 9223372036854775807<|.c 4<|.c 3<|.c 2<|.c 1<|.c 0<|.po (.mk 3 1 [[4],[3],[2],[1],[0]])<|.sel [0,6,8,10,11]<|.cl 2000025 [(false,[2]),(false,[0])] bm<|.z 5<|.po (.chk 5 6 5)<|.x 5 6 5<|.c 0<|.c 6<|.po (.set 5 11 10 4 [6])<|.jump 0 [9,6,0])<|.i 1<|.e 4 0<|.ite 0 (.i (-1)<|.i 36<|.i 1<|.i 0<|.i 9<|.i 15<|.c 5<|.c 4<|.c 3<|.c 2<|.c 1<|.c 0<|.po (.mk 3 1 [[5],[4],[3],[2],[1],[0]])<|.sel [0,9,11,13,14]<|.cl 2000025 [(false,[2]),(false,[0])] bm<|.z 5<|.po (.chk 5 6 5)<|.x 5 6 5<|.c 4<|.c 6<|.po (.set 5 11 10 0 [6])<|.jump 0 [9,6,0])<|.i 2<|.e 6 0<|.ite 0 (.s #[]<|.s #[120]<|.s #[43]<|.s #[97,32,98]<|.c 3<|.c 2<|.c 1<|.c 0<|.po (.mk 9 1 [[3],[2],[1],[0]])<|.sel [0,9,11,13,14]<|.cl 2000026 [(false,[2]),(false,[0])] bm<|.z 5<|.po (.chk 5 6 5)<|.x 5 6 5<|.c 2<|.c 6<|.po (.set 5 11 10 2 [6])<|.jump 0 [9,6,0])<|.i 3<|.e 8 0<|.ite 0 (.i (-1)<|.i 3<|.i 1<|.i 9223372036854775807<|.c 3<|.c 2<|.c 1<|.c 0<|.po (.mk 3 1 [[3],[2],[1],[0]])<|.sel [0,11,13,15,16]<|.cl 2000025 [(false,[2]),(false,[0])] bm<|.z 5<|.po (.chk 5 6 5)<|.x 5 6 5<|.c 3<|.c 6<|.po (.set 5 11 10 1 [6])<|.jump 0 [9,6,0])<|.i 4<|.e 10 0<|.ite 0 (.z 12<|.po (.chk 5 13 12)<|.x 5 13 12<|.po (.isL 9 1 1)<|.x 5 18 17<|.po (.flat 1)<|.s #[120]<|.c 0<|.po (.mk 9 1 [[0]])<|.po (.flat 0)<|.po (.app 9 1 16 8 0)<|.z 25<|.po (.chk 5 26 25)<|.po (.flat 0)<|.po (.set 5 26 25 3 [0])<|.jump 0 [22,24,0])<|.po (.e 37 5)<|.po (.app 37 5 0 14 0)<|.po (.cutI 0 none (some 14))<|.po (.cutP 2 1 0)<|.ret [(false,[15]),(false,[0])]
theorem vu:eA Try.prog 12 Try.f12 Uw uP vk 45=some ([],mh):=by kernel_rfl
def uS:List aY:=[]
def vb:List (Nat×Nat×Bool×List Nat):=[]
def mI:UP:=.s #[]<|.i 6<|.cl 2000035 [(false,[2]),(false,[0])] bm<|.i 8<|.cl 2000013 [(false,[1]),(false,[0])] bm<|.i 0<|.e 2 0<|.ite 0 (.sel [2,6]<|.cl 2000036 [(false,[0]),(false,[1])] bm<|.c 1<|.ret [(false,[0]),(false,[1])])<|.i 1<|.e 4 0<|.ite 0 (.i 4<|.sel [0,5]<|.cl 2000030 [(false,[1]),(false,[0])] bm<|.c 1<|.ret [(false,[0]),(false,[1])])<|.c 8<|.ret [(false,[4]),(false,[8])]
theorem uN:eA Try.prog 28 Try.f28 di uS vb 45=some ([],mI):=by kernel_rfl
def th:List aY:=[⟨2000001,3,⟨[aa 5 10,aa 16 11,aa 10 9,aa 6 5,aa 4 2,co 0 0 0,aa 1 1],[(0,.cur 0 true 45 12)],1,1,13,[(9,true)]⟩,[]⟩,⟨3000003,3,⟨[aa 6 5,aa 5 6,aa 4 2,co 0 0 0,aa 1 1],[(0,.cur 0 true 45 7)],1,1,8,[]⟩,[]⟩]
def sW:List (Nat×Nat×Bool×List Nat):=[]
def eN:UP:=.i 1<|.a 6 0<|.jump 0 [0,4,2]
def jS:UP:=.m 6<|.b .lss 3 0<|.ite 0 (.sel [2,3,4,8]<|.join 3 eN<|.h 3 2<|.po (.k (.int .u8 64))<|.e 1 0<|.ite 0 (.i 1<|.sel [0,1,4,5]<|.cl 2000030 [(false,[2]),(false,[0])] bm<|.a 5 1<|.jump 1 [0,4,1])<|.i 1<|.a 6 0<|.po (.cutS 8 (some 7) (some 0))<|.a 7 0<|.jump 1 [0,4,7])<|.c 3<|.ret [(false,[2]),(false,[3])]
def ll:UP:=.s #[]<|.s #[]<|.i 0<|.loop [0,1,4] jS
theorem tf:eA Try.prog 51 Try.f51 di th sW 45=some ([(false,1)],ll):=by kernel_rfl
def nM:List aY:=[]
def nO:List (Nat×Nat×Bool×List Nat):=[]
def fQ:UP:=.s #[102,32,60,45,32,102,117,110,99,116,105,111,110,40,120,44,32,121,32,61,32,120,32,43,32,49,41,32,120,32,42,32,121]<|.s #[103,32,60,45,32,102,117,110,99,116,105,111,110,40,46,46,46,41,32,115,117,109,40,99,40,46,46,46,41,41]<|.s #[104,32,60,45,32,102,117,110,99,116,105,111,110,40,97,44,32,98,41,32,123,32,112,114,105,110,116,40,34,105,110,34,41,59,32,97,59,32,97,32,125]<|.s #[120,32,60,45,32,64]<|.s #[120,32,60,45,32,99,40,97,32,61,32,49,44,32,98,32,61,32,50,44,32,51,41]<|.s #[121,32,60,45,32,108,105,115,116,40,117,32,61,32,120,44,32,118,32,61,32,64,41]<|.s #[121,36,117,91,49,93]<|.s #[120,91,50,93,32,60,45,32,64,59,32,120]<|.s #[121,36,118,32,60,45,32,64,59,32,108,101,110,103,116,104,40,121,41]<|.s #[120,91,91,49,93,93,32,60,45,32,64,59,32,112,114,105,110,116,40,120,41]<|.s #[110,97,109,101,115,40,120,41,32,60,45,32,99,40,34,112,34,44,32,34,113,34,41,59,32,120]<|.s #[102,40,64,41]<|.s #[102,40,121,32,61,32,64,44,32,120,32,61,32,64,41]<|.s #[103,40,64,44,32,64,44,32,51,41]<|.s #[104,40,123,32,112,114,105,110,116,40,34,97,114,103,34,41,59,32,64,32,125,41]<|.s #[104,40,97,32,61,32,64,41]<|.s #[102,111,114,32,40,105,32,105,110,32,49,58,51,41,32,123,32,105,102,32,40,105,32,61,61,32,50,41,32,110,101,120,116,59,32,112,114,105,110,116,40,105,41,32,125]<|.s #[110,32,60,45,32,48,59,32,119,104,105,108,101,32,40,84,82,85,69,41,32,123,32,110,32,60,45,32,110,32,43,32,49,59,32,105,102,32,40,110,32,62,32,50,41,32,98,114,101,97,107,32,125,59,32,110]<|.s #[116,114,121,67,97,116,99,104,40,115,116,111,112,40,34,98,97,100,34,41,44,32,101,114,114,111,114,32,61,32,102,117,110,99,116,105,111,110,40,101,41,32,101,36,109,101,115,115,97,103,101,41]<|.s #[116,114,121,67,97,116,99,104,40,123,32,112,114,105,110,116,40,49,41,59,32,64,32,125,44,32,101,114,114,111,114,32,61,32,102,117,110,99,116,105,111,110,40,101,41,32,112,114,105,110,116,40,101,36,109,101,115,115,97,103,101,41,41]<|.s #[119,105,116,104,67,97,108,108,105,110,103,72,97,110,100,108,101,114,115,40,123,32,119,97,114,110,105,110,103,40,34,99,97,114,101,102,117,108,34,41,59,32,64,32,125,44,32,119,97,114,110,105,110,103,32,61,32,102,117,110,99,116,105,111,110,40,119,41,32,112,114,105,110,116,40,34,115,101,101,110,34,41,41]<|.s #[119,105,116,104,82,101,115,116,97,114,116,40,123,32,105,110,118,111,107,101,82,101,115,116,97,114,116,40,34,115,107,105,112,34,44,32,64,41,59,32,50,32,125,44,32,115,107,105,112,32,61,32,102,117,110,99,116,105,111,110,40,118,41,32,118,41]<|.s #[107,32,60,45,32,102,117,110,99,116,105,111,110,40,122,41,32,123,32,111,110,46,101,120,105,116,40,112,114,105,110,116,40,34,98,121,101,34,41,41,59,32,105,102,32,40,122,32,62,32,49,41,32,114,101,116,117,114,110,40,64,41,59,32,115,116,111,112,40,34,108,111,119,34,41,32,125]<|.s #[107,40,50,41]<|.s #[116,114,121,67,97,116,99,104,40,107,40,48,41,44,32,101,114,114,111,114,32,61,32,102,117,110,99,116,105,111,110,40,101,41,32,99,108,97,115,115,40,101,41,41]<|.s #[97,114,101,97,32,60,45,32,102,117,110,99,116,105,111,110,40,115,41,32,85,115,101,77,101,116,104,111,100,40,34,97,114,101,97,34,41]<|.s #[97,114,101,97,46,115,113,117,97,114,101,32,60,45,32,102,117,110,99,116,105,111,110,40,115,41,32,123,32,112,114,105,110,116,40,34,115,113,117,97,114,101,34,41,59,32,78,101,120,116,77,101,116,104,111,100,40,41,32,125]<|.s #[97,114,101,97,46,100,101,102,97,117,108,116,32,60,45,32,102,117,110,99,116,105,111,110,40,115,41,32,108,101,110,103,116,104,40,115,41]<|.s #[97,114,101,97,40,115,116,114,117,99,116,117,114,101,40,108,105,115,116,40,115,105,100,101,32,61,32,64,41,44,32,99,108,97,115,115,32,61,32,34,115,113,117,97,114,101,34,41,41]<|.s #[99,111,117,110,116,101,114,32,60,45,32,102,117,110,99,116,105,111,110,40,41,32,123,32,110,32,60,45,32,48,59,32,102,117,110,99,116,105,111,110,40,41,32,123,32,110,32,60,60,45,32,110,32,43,32,49,59,32,110,32,125,32,125]<|.s #[117,112,32,60,45,32,99,111,117,110,116,101,114,40,41,59,32,117,112,40,41,59,32,117,112,40,41]<|.s #[96,115,101,99,111,110,100,60,45,96,32,60,45,32,102,117,110,99,116,105,111,110,40,120,44,32,118,97,108,117,101,41,32,123,32,120,91,50,93,32,60,45,32,118,97,108,117,101,59,32,120,32,125]<|.s #[115,101,99,111,110,100,40,120,41,32,60,45,32,64,59,32,120]<|.s #[109,32,60,45,32,102,117,110,99,116,105,111,110,40,112,44,32,113,41,32,105,102,32,40,109,105,115,115,105,110,103,40,113,41,41,32,112,32,101,108,115,101,32,113]<|.s #[109,40,64,41,59,32,109,40,64,44,32,64,41]<|.s #[102,97,99,116,32,60,45,32,102,117,110,99,116,105,111,110,40,110,41,32,105,102,32,40,110,32,60,32,50,41,32,49,32,101,108,115,101,32,110,32,42,32,102,97,99,116,40,110,32,45,32,49,41]<|.s #[102,97,99,116,40,53,41]<|.s #[115,101,101,100,40,55,41,59,32,114,97,110,100,111,109,40,54,41,59,32,114,97,110,100,111,109,40,54,41]<|.s #[100,32,60,45,32,115,116,114,117,99,116,117,114,101,40,108,105,115,116,40,120,32,61,32,99,40,48,44,32,49,44,32,50,44,32,64,41,44,32,121,32,61,32,99,40,50,44,32,52,44,32,53,44,32,57,41,41,44,32,99,108,97,115,115,32,61,32,34,100,97,116,97,46,102,114,97,109,101,34,41]<|.s #[100,36,121,91,50,93,32,60,45,32,64,59,32,100,36,121]<|.s #[114,101,118,40,120,41]<|.s #[115,105,103,110,97,108,40,34,110,111,116,101,34,44,32,34,104,101,108,108,111,34,41]<|.s #[119,105,116,104,67,97,108,108,105,110,103,72,97,110,100,108,101,114,115,40,115,105,103,110,97,108,40,34,110,111,116,101,34,44,32,34,104,101,108,108,111,34,41,44,32,110,111,116,101,32,61,32,102,117,110,99,116,105,111,110,40,115,41,32,112,114,105,110,116,40,115,36,109,101,115,115,97,103,101,41,41]<|.s #[101,32,60,45,32,102,117,110,99,116,105,111,110,40,97,41,32,123,32,98,32,60,45,32,102,117,110,99,116,105,111,110,40,41,32,114,101,116,117,114,110,40,97,41,59,32,98,40,41,59,32,112,114,105,110,116,40,34,97,102,116,101,114,34,41,32,125]<|.s #[101,40,114,101,116,117,114,110,40,64,41,41]<|.s #[112,32,60,45,32,113,117,111,116,101]<|.s #[112,114,105,110,116,40,102,41]<|.s #[121,32,126,32,120]<|.s #[115,117,109,40,120,41,32,43,32,64]<|.s #[105,102,32,40,64,41,32,34,121,101,115,34,32,101,108,115,101,32,34,110,111,34]<|.c 49<|.c 48<|.c 47<|.c 46<|.c 45<|.c 44<|.c 43<|.c 42<|.c 41<|.c 40<|.c 39<|.c 38<|.c 37<|.c 36<|.c 35<|.c 34<|.c 33<|.c 32<|.c 31<|.c 30<|.c 29<|.c 28<|.c 27<|.c 26<|.c 25<|.c 24<|.c 23<|.c 22<|.c 21<|.c 20<|.c 19<|.c 18<|.c 17<|.c 16<|.c 15<|.c 14<|.c 13<|.c 12<|.c 11<|.c 10<|.c 9<|.c 8<|.c 7<|.c 6<|.c 5<|.c 4<|.c 3<|.c 2<|.c 1<|.c 0<|.po (.mk 9 1 [[49],[48],[47],[46],[45],[44],[43],[42],[41],[40],[39],[38],[37],[36],[35],[34],[33],[32],[31],[30],[29],[28],[27],[26],[25],[24],[23],[22],[21],[20],[19],[18],[17],[16],[15],[14],[13],[12],[11],[10],[9],[8],[7],[6],[5],[4],[3],[2],[1],[0]])<|.r 0
theorem nS:bk Try.prog 50 Try.f50 di nM nO=some ([],fQ):=by kernel_rfl
def pJ:List aY:=[⟨2000001,6,⟨[aa 7 20,aa 49 21,aa 6 22,aa 38 23,aa 9 24,aa 24 19,aa 8 12,co 5 1 1,aa 4 2,co 0 0 0,aa 1 1],[(0,.cur 0 true 45 25),(1,.row 1 9 1 3)],2,2,26,[(19,true),(17,true)]⟩,[]⟩,⟨3000005,4,⟨[aa 8 12,aa 7 13,aa 6 14,co 5 1 1,aa 4 2,co 0 0 0,aa 1 1],[(0,.cur 0 true 45 15),(1,.row 1 9 1 3)],2,2,16,[]⟩,[]⟩]
def qf:List (Nat×Nat×Bool×List Nat):=[]
def cw:UP:=.i 1<|.b .sub 10 0<|.jump 0 [0,7,5,2]
def gk:UP:=.i 0<|.b .gtr 4 0<|.ite 0 (.l 10<|.b .lss 5 0<|.ite 0 (.sel [4,5,6,7,12]<|.join 6 cw<|.z 2<|.po (.chk 1 4 2)<|.x 1 4 2<|.cl 2000051 [(false,[1]),(false,[0])] bm<|.m 4<|.m 2<|.a 1 0<|.i 600<|.b .lss 1 0<|.ite 0 (.a 9 6<|.s #[10]<|.a 1 0<|.i 1<|.a 14 0<|.i 5<|.sel [0,1,3,6,11,12]<|.cl 2000013 [(false,[4]),(false,[0])] bm<|.a 3 1<|.i 4<|.sel [0,1,2,6,7,9]<|.cl 2000024 [(false,[2]),(false,[0])] bm<|.ite 1 (.i 20<|.cl 2000013 [(false,[1]),(false,[0])] bm<|.a 6 1<|.jump 1 [0,5,9,10,11,1])<|.jump 1 [3,1,5,6,7,0])<|.i 1<|.a 11 0<|.i 5<|.sel [0,1,3,8,9,12]<|.cl 2000013 [(false,[3]),(false,[0])] bm<|.a 3 1<|.i 4<|.sel [0,1,2,6,8,9]<|.cl 2000024 [(false,[2]),(false,[0])] bm<|.ite 1 (.i 20<|.cl 2000013 [(false,[1]),(false,[0])] bm<|.a 6 1<|.jump 1 [0,5,11,9,10,1])<|.jump 1 [3,1,7,5,6,0])<|.c 5<|.ret [(false,[4]),(false,[5])])<|.f<|.c 4<|.ret [(false,[3]),(false,[4])]
def jd:UP:=.s #[]<|.cl 50 [] Fr<|.s #[]<|.i 12<|.cl 2000013 [(false,[5]),(false,[0])] bm<|.cl 2000013 [(false,[0]),(false,[6])] bm<|.i 1<|.a 0 2<|.sel [0,2,5,7,8]<|.loop [0,2,3,1] gk
theorem qI:eA Try.prog 35 Try.f35 di pJ qf 45=some ([(false,1)],jd):=by kernel_rfl
def tS:List aY:=[⟨1000003,1,⟨[aa 12 4,aa 3 1,(2,.p false [.nil]),co 0 0 0],[(0,.cur 0 true 45 6)],1,1,7,[]⟩,[]⟩]
def uf:List (Nat×Nat×Bool×List Nat):=[]
def jB:UP:=.sel [0,5]<|.cl 31 [(false,[1])] [(false,[some (37,5)],true),(false,[none],true),(false,[none],true)]<|.i 0<|.b .neq 2 0<|.ite 0 (.i 0<|.i 0<|.s #[]<|.i 0<|.i 7<|.s #[120]<|.c 1<|.c 4<|.c 0<|.po (.e 9 1)<|.c 3<|.po (.mk 37 5 [[2,5,1,0,3]])<|.ret [(false,[13]),(false,[0])])<|.ret [(false,[5]),(false,[4])]
def kO:UP:=.cl 2000028 [(false,[0])] bm<|.i 3<|.cl 2000024 [(false,[1]),(false,[0])] bm<|.join 1 jB<|.ite 1 (.i 3<|.sel [0,1]<|.cl 2000030 [(false,[1]),(false,[0])] bm<|.cl 29 [(false,[1])] wB<|.ite 0 (.ret [(false,[2]),(false,[1])])<|.jump 0 [2])<|.jump 0 [0]
theorem s8:eA Try.prog 14 Try.f14 di tS uf 45=some ([],kO):=by kernel_rfl
def sP:List aY:=[⟨1000015,1,⟨[aa 41 21,aa 29 18,aa 24 16,aa 19 14,aa 13 12,aa 12 8,aa 5 8,aa 9 7,aa 4 2,co 0 0 0,aa 1 1],[(0,.cur 0 true 45 5)],1,1,22,[(18,false),(16,false),(14,false),(12,false),(10,false)]⟩,[]⟩,⟨1000003,1,⟨[aa 5 8,aa 9 7,aa 4 2,co 0 0 0,aa 1 1],[(0,.cur 0 true 45 5)],1,1,9,[]⟩,[]⟩]
def tm:List (Nat×Nat×Bool×List Nat):=[]
def jD:UP:=.ite 0 (.i 1<|.b .sub 5 0<|.sel [0,5,6]<|.cl 2000030 [(false,[1]),(false,[0])] bm<|.s #[40]<|.a 0 2<|.s #[32,43,32]<|.s #[32,45,32]<|.s #[32,42,32]<|.s #[32,47,32]<|.s #[32,94,32]<|.s #[32,37,37,32]<|.s #[32,61,61,32]<|.s #[32,60,32]<|.s #[32,38,32]<|.s #[32,124,124,32]<|.s #[58]<|.s #[32,38,38,32]<|.s #[32,37,47,37,32]<|.s #[32,126,32]<|.c 13<|.c 12<|.c 11<|.c 10<|.c 9<|.c 8<|.c 7<|.c 6<|.c 5<|.c 4<|.c 3<|.c 2<|.c 1<|.c 0<|.po (.mk 9 1 [[13],[12],[11],[10],[9],[8],[7],[6],[5],[4],[3],[2],[1],[0]])<|.sel [0,15,17,21]<|.cl 2000026 [(false,[2]),(false,[0])] bm<|.a 3 1<|.i 1<|.b .sub 7 0<|.sel [0,2,3]<|.cl 2000030 [(false,[2]),(false,[0])] bm<|.a 3 1<|.s #[41]<|.a 1 0<|.c 0<|.ret [(false,[3]),(false,[0])])<|.i 7<|.e 3 0<|.ite 0 (.s #[115,117,109]<|.s #[108,101,110,103,116,104]<|.s #[102]<|.s #[114,101,118]<|.s #[112,114,105,110,116]<|.s #[110,97,109,101,115]<|.s #[105,115,46,110,97]<|.s #[108,105,115,116]<|.s #[97,110,121]<|.s #[107]<|.s #[99,108,97,115,115]<|.c 10<|.c 9<|.c 8<|.c 7<|.c 6<|.c 5<|.c 4<|.c 3<|.c 2<|.c 1<|.c 0<|.po (.mk 9 1 [[10],[9],[8],[7],[6],[5],[4],[3],[2],[1],[0]])<|.sel [0,17,18]<|.cl 2000026 [(false,[1]),(false,[0])] bm<|.s #[40]<|.a 2 0<|.i 1<|.b .sub 7 0<|.sel [0,2,4]<|.cl 2000030 [(false,[2]),(false,[0])] bm<|.a 3 1<|.s #[41]<|.a 1 0<|.c 0<|.ret [(false,[3]),(false,[0])])<|.i 8<|.e 5 0<|.ite 0 (.s #[120,91]<|.s #[121,91]<|.s #[99,40,52,44,32,53,44,32,54,41,91]<|.c 2<|.c 1<|.c 0<|.po (.mk 9 1 [[2],[1],[0]])<|.sel [0,11,12]<|.cl 2000026 [(false,[1]),(false,[0])] bm<|.i 1<|.b .sub 5 0<|.sel [0,2,3]<|.cl 2000030 [(false,[1]),(false,[0])] bm<|.a 4 1<|.s #[93]<|.a 1 0<|.c 0<|.ret [(false,[3]),(false,[0])])<|.i 9<|.e 7 0<|.ite 0 (.s #[40,45]<|.s #[40,33]<|.c 1<|.c 0<|.po (.mk 9 1 [[1],[0]])<|.sel [0,12,13]<|.cl 2000026 [(false,[1]),(false,[0])] bm<|.i 1<|.b .sub 5 0<|.sel [0,2,3]<|.cl 2000030 [(false,[1]),(false,[0])] bm<|.a 4 1<|.s #[41]<|.a 1 0<|.c 0<|.ret [(false,[3]),(false,[0])])<|.i 10<|.e 9 0<|.ite 0 (.i 1<|.b .sub 13 0<|.sel [0,13,14]<|.cl 2000030 [(false,[1]),(false,[0])] bm<|.s #[40,105,102,32,40]<|.a 0 2<|.s #[41,32]<|.a 1 0<|.i 1<|.b .sub 9 0<|.sel [0,2,6,10]<|.cl 2000030 [(false,[2]),(false,[0])] bm<|.a 3 1<|.s #[32,101,108,115,101,32]<|.a 1 0<|.i 1<|.b .sub 9 0<|.sel [0,2,5]<|.cl 2000030 [(false,[2]),(false,[0])] bm<|.a 3 1<|.s #[41]<|.a 1 0<|.c 0<|.ret [(false,[3]),(false,[0])])<|.i 1<|.b .sub 13 0<|.sel [0,13]<|.cl 2000030 [(false,[1]),(false,[0])] bm<|.s #[123,32,120,32,60,45,32]<|.a 0 2<|.s #[59,32,120,32,125]<|.a 1 0<|.c 0<|.ret [(false,[4]),(false,[0])]
def j7:UP:=.i 0<|.e 1 0<|.ite 0 (.i 7<|.sel [0,5]<|.cl 2000013 [(false,[1]),(false,[0])] bm<|.cl 37 [(false,[1])] aP<|.c 0<|.ret [(false,[1]),(false,[0])])<|.i 1<|.e 3 0<|.ite 0 (.i 7<|.sel [0,7]<|.cl 2000013 [(false,[1]),(false,[0])] bm<|.cl 37 [(false,[1])] aP<|.c 0<|.ret [(false,[1]),(false,[0])])<|.i 2<|.e 5 0<|.ite 0 (.s #[120]<|.s #[121]<|.s #[110]<|.s #[120]<|.s #[117,112]<|.s #[103]<|.c 5<|.c 4<|.c 3<|.c 2<|.c 1<|.c 0<|.po (.mk 9 1 [[5],[4],[3],[2],[1],[0]])<|.sel [0,15]<|.cl 2000026 [(false,[1]),(false,[0])] bm<|.c 1<|.ret [(false,[0]),(false,[1])])<|.i 3<|.e 7 0<|.ite 0 (.s #[84,82,85,69]<|.s #[78,65]<|.s #[78,85,76,76]<|.s #[34,97,34]<|.s #[99,40,97,32,61,32,49,44,32,98,32,61,32,50,41]<|.s #[78,65,95,110,117,109,98,101,114,95]<|.s #[108,105,115,116,40,49,44,32,98,32,61,32,34,117,34,41]<|.s #[49,58,51]<|.s #[70,65,76,83,69]<|.s #[99,40,51,44,32,49,41]<|.c 9<|.c 8<|.c 7<|.c 6<|.c 5<|.c 4<|.c 3<|.c 2<|.c 1<|.c 0<|.po (.mk 9 1 [[9],[8],[7],[6],[5],[4],[3],[2],[1],[0]])<|.sel [0,21]<|.cl 2000026 [(false,[1]),(false,[0])] bm<|.c 1<|.ret [(false,[0]),(false,[1])])<|.i 4<|.e 9 0<|.ite 0 (.i 5<|.sel [0,13]<|.cl 2000013 [(false,[1]),(false,[0])] bm<|.cl 37 [(false,[1])] aP<|.s #[99,40]<|.a 0 1<|.s #[44,32]<|.a 1 0<|.i 5<|.sel [0,1,6]<|.cl 2000013 [(false,[2]),(false,[0])] bm<|.cl 37 [(false,[1])] aP<|.a 4 0<|.s #[41]<|.a 1 0<|.c 0<|.ret [(false,[4]),(false,[0])])<|.i 5<|.e 11 0<|.sel [0,12,14,16]<|.join 1 jD<|.ite 0 (.jump 0 [0])<|.i 6<|.e 2 0<|.jump 0 [0]
def lh:UP:=.s #[]<|.i 12<|.cl 2000013 [(false,[3]),(false,[0])] bm<|.i 0<|.e 5 0<|.sel [0,2,3,6]<|.join 1 j7<|.ite 0 (.i 5<|.b .rem 3 0<|.jump 0 [0])<|.jump 0 [2]
theorem tW:eA Try.prog 30 Try.f30 di sP tm 45=some ([(false,1)],lh):=by kernel_rfl
def tA:List aY:=[]
def sG:List (Nat×Nat×Bool×List Nat):=[(9,9,false,[]),(8,9,false,[]),(6,9,false,[1000000,0,1,2,3,4,7,8,9,10,5,6,11,12,1000000,0,1,2,5,6,7,8])]
def kZ:UP:=.s #[]<|.s #[]<|.e 2 0<|.ite 0 (.s #[120]<|.c 0<|.ret [(false,[5]),(false,[0])])<|.m 3<|.cl 2000013 [(false,[5]),(false,[0])] bm<|.i 3<|.sel [0,1,2,7]<|.cl 2000013 [(false,[1]),(false,[0])] bm<|.i 0<|.e 2 0<|.ite 0 (.po (.cutS 7 none (some 6))<|.c 0<|.s #[32]<|.s #[40]<|.s #[48]<|.s #[34]<|.s #[120]<|.s #[10]<|.s #[44]<|.s #[45]<|.s #[58]<|.s #[255]<|.s #[32]<|.s #[40]<|.s #[48]<|.s #[34]<|.s #[120]<|.s #[10]<|.s #[44]<|.s #[45]<|.s #[58]<|.s #[255]<|.po (.mk 9 1 [[19],[18],[17],[16],[15],[14],[13],[12],[11],[10]])<|.i 1<|.a 29 0<|.c 0<|.po (.cutS 31 (some 0) none)<|.c 0<|.c 13<|.c 12<|.c 11<|.c 10<|.c 9<|.c 8<|.c 7<|.c 6<|.c 5<|.c 4<|.po (.mk 9 1 [[13],[12],[11],[10],[9],[8],[7],[6],[5],[4]])<|.sel [0,1,25,28]<|.cl 2000026 [(false,[3]),(false,[0])] bm<|.a 4 1<|.a 0 4<|.c 0<|.ret [(false,[2]),(false,[0])])<|.i 1<|.e 4 0<|.ite 0 (.po (.cutS 9 none (some 8))<|.c 0<|.i 1<|.a 10 0<|.c 0<|.po (.cutS 12 (some 0) none)<|.c 0<|.a 3 0<|.c 0<|.c 0<|.c 0<|.ret [(false,[9]),(false,[0])])<|.i 1<|.a 9 0<|.c 0<|.po (.cutS 11 none (some 0))<|.c 0<|.po (.cutS 12 (some 11) none)<|.c 0<|.a 1 0<|.c 0<|.c 0<|.c 0<|.ret [(false,[9]),(false,[0])]
theorem sO:eA Try.prog 36 Try.f36 di tA sG 45=some ([(false,1)],kZ):=by kernel_rfl
def sR:List aY:=[]
def tN:List (Nat×Nat×Bool×List Nat):=[]
def lI:UP:=.i 0<|.i 0<|.b .leq 2 0<|.ite 0 (.i 0<|.c 0<|.ret [(false,[5]),(false,[0])])<|.i 256<|.b .leq 4 0<|.ite 0 (.sel [5,6]<|.cl 2000027 [(false,[1])] bm<|.b .rem 1 2<|.c 0<|.ret [(false,[1]),(false,[0])])<|.sel [5,6]<|.cl 2000027 [(false,[1])] bm<|.cl 2000027 [(false,[0])] bm<|.cl 2000027 [(false,[0])] bm<|.cl 2000027 [(false,[0])] bm<|.i 16777216<|.b .mul 8 0<|.i 65536<|.b .mul 8 0<|.a 2 0<|.i 256<|.b .mul 9 0<|.a 2 0<|.a 0 9<|.b .rem 0 17<|.c 0<|.ret [(false,[10]),(false,[0])]
theorem tL:eA Try.prog 13 Try.f13 di sR tN 45=some ([(false,1)],lI):=by kernel_rfl
def uQ:List aY:=[]
def vA:List (Nat×Nat×Bool×List Nat):=[(4,14,false,[]),(3,10,false,[]),(2,13,false,[])]
def my:UP:=.i 0<|.po (.unc 1 3)<|.i 6364136223846793005<|.b .mul 1 0<|.i 1442695040888963407<|.a 1 0<|.po (.cuS 8 2 0)<|.po (.unc 0 3)<|.c 0<|.po (.k (.int .u64 33))<|.b .shr 1 0<|.c 0<|.po (.unc 5 3)<|.c 0<|.po (.k (.int .u64 45))<|.b .shr 1 0<|.c 0<|.b .xor 5 0<|.c 0<|.i 255<|.b .and 1 0<|.c 0<|.c 0<|.po (.unc 13 3)<|.c 1<|.po (.unc 16 3)<|.l 2<|.c 0<|.b .lss 5 0<|.c 0<|.ite 0 (.po (.unc 21 3)<|.po (.unc 24 3)<|.c 1<|.z 1<|.x 1 5 1<|.c 0<|.po (.cvI .i64 0)<|.c 0<|.a 16 0<|.c 0<|.i 255<|.b .and 1 0<|.c 0<|.po (.unc 32 3)<|.i 1<|.a 2 0<|.po (.cuS 37 1 0)<|.c 6<|.ret [(false,[0]),(false,[6])])<|.c 8<|.ret [(false,[21]),(false,[8])]
theorem vm:eA Try.prog 27 Try.f27 di uQ vA 45=some ([],my):=by kernel_rfl
def wt:List aY:=[⟨3000003,2,⟨[aa 4 5,aa 3 6,aa 0 0],[],0,0,7,[]⟩,[]⟩]
def w9:List (Nat×Nat×Bool×List Nat):=[]
def mi:UP:=.l 6<|.b .lss 2 0<|.ite 0 (.i 4000<|.b .lss 4 0<|.ite 0 (.i 131<|.b .mul 5 0<|.z 7<|.x 1 12 7<|.po (.cvI .i64 0)<|.a 2 0<|.i 7<|.a 1 0<|.i 1073741823<|.b .and 1 0<|.i 1<|.a 15 0<|.jump 0 [0,2])<|.i 0<|.i 0<|.ret [(false,[12,1,6])])<|.f<|.i 0<|.i 0<|.ret [(false,[11,1,5])]
def nH:UP:=.l 0<|.i 10101<|.a 0 1<|.i 0<|.loop [0,1] mi
theorem wF:CO Try.prog 11 Try.f11 di wt w9 45=some ([(false,1)],nH):=by kernel_rfl
def uZ:List aY:=[]
def vx:List (Nat×Nat×Bool×List Nat):=[]
def mA:UP:=.f<|.cl 2000013 [(false,[2]),(false,[1])] bm<|.i 0<|.e 2 0<|.c 0<|.ret [(false,[2]),(false,[0])]
theorem vd:eA Try.prog 24 Try.f24 di uZ vx 45=some ([(false,1)],mA):=by kernel_rfl
def vg:List aY:=[]
def uB:List (Nat×Nat×Bool×List Nat):=[]
def mw:UP:=.s #[]<|.l 1<|.cl 2000013 [(false,[3]),(false,[0])] bm<|.z 1<|.x 1 4 1<|.c 0<|.ret [(false,[1]),(false,[0])]
theorem u4:eA Try.prog 26 Try.f26 di vg uB 45=some ([(false,1)],mw):=by kernel_rfl
def pV:List aY:=[]
def pj:List (Nat×Nat×Bool×List Nat):=[]
def iI:UP:=.i 0<|.l 1<|.cl 2000013 [(false,[3]),(false,[0])] bm<|.z 1<|.x 1 4 1<|.c 0<|.ret [(false,[1]),(false,[0])]
theorem pd:eA Try.prog 25 Try.f25 di pV pj 45=some ([(false,1)],iI):=by kernel_rfl
def uA:List aY:=[⟨3000002,1,⟨[aa 3 3,aa 2 1,aa 0 0],[],0,0,4,[(1,false)]⟩,[]⟩]
def vi:List (Nat×Nat×Bool×List Nat):=[]
def lq:UP:=.m 3<|.b .lss 1 0<|.ite 0 (.h 5 2<|.po (.k (.int .u8 33))<|.b .lss 1 0<|.ite 0 (.t<|.t<|.f<|.c 0<|.r 0)<|.h 8 5<|.po (.k (.int .u8 126))<|.b .gtr 1 0<|.ite 0 (.t<|.f<|.c 0<|.r 0)<|.h 11 8<|.po (.k (.int .u8 96))<|.e 1 0<|.ite 0 (.f<|.c 0<|.r 0)<|.i 1<|.a 12 0<|.jump 0 [0])<|.m 5<|.i 1<|.b .geq 1 0<|.ite 0 (.m 8<|.i 20<|.b .leq 1 0<|.c 0<|.r 0)<|.f<|.c 0<|.r 0
def mp:UP:=.f<|.i 0<|.loop [0] lq
theorem vB:bk Try.prog 59 Try.f59 di uA vi=some ([(false,1)],mp):=by kernel_rfl
def sF:List aY:=[]
def su:List (Nat×Nat×Bool×List Nat):=[]
def ld:UP:=.f<|.cl 72 [(false,[2]),(false,[1])] aP<|.i 0<|.b .geq 1 0<|.c 0<|.r 0
theorem ui:bk Try.prog 60 Try.f60 di sF su=some ([(false,1),(false,1)],ld):=by kernel_rfl
def qg:List aY:=[⟨3000002,1,⟨[aa 9 5,aa 8 3,aa 7 0,aa 4 2,aa 0 0,aa 1 1],[],0,0,6,[]⟩,[]⟩]
def qy:List (Nat×Nat×Bool×List Nat):=[]
def gG:UP:=.b .lss 0 2<|.ite 0 (.z 1<|.x 1 6 1<|.e 0 6<|.ite 0 (.c 3<|.r 3)<|.i 1<|.a 4 0<|.jump 0 [0])<|.i (-1)<|.c 0<|.r 0
def iB:UP:=.i 0<|.l 2<|.i 0<|.loop [0] gG
theorem qO:bk Try.prog 72 Try.f72 di qg qy=some ([(false,1),(false,1)],iB):=by kernel_rfl
def uE:List aY:=[⟨3000002,1,⟨[aa 3 3,aa 2 1,aa 0 0],[],0,0,4,[(1,false)]⟩,[]⟩]
def vq:List (Nat×Nat×Bool×List Nat):=[]
def lx:UP:=.m 3<|.b .lss 1 0<|.ite 0 (.h 5 2<|.po (.k (.int .u8 33))<|.b .lss 1 0<|.ite 0 (.t<|.t<|.f<|.c 0<|.r 0)<|.h 8 5<|.po (.k (.int .u8 126))<|.b .gtr 1 0<|.ite 0 (.t<|.f<|.c 0<|.r 0)<|.h 11 8<|.po (.k (.int .u8 96))<|.e 1 0<|.ite 0 (.f<|.c 0<|.r 0)<|.i 1<|.a 12 0<|.jump 0 [0])<|.m 5<|.i 1<|.i 20<|.sel [0,1,2]<|.cl 19 [(false,[2]),(false,[1]),(false,[0])] aP<|.c 0<|.r 0
def mo:UP:=.f<|.i 0<|.loop [0] lx
theorem va:bk Try.prog 48 Try.f48 di uE vq=some ([(false,1)],mo):=by kernel_rfl
def vl:List aY:=[⟨3000002,1,⟨[aa 5 4,aa 4 2,aa 0 0,aa 1 1],[],0,0,5,[]⟩,[]⟩]
def uz:List (Nat×Nat×Bool×List Nat):=[]
def kI:UP:=.l 4<|.b .lss 1 0<|.ite 0 (.z 2<|.x 1 6 2<|.e 0 6<|.ite 0 (.c 4<|.r 4)<|.i 1<|.a 5 0<|.jump 0 [0])<|.i (-1)<|.c 0<|.r 0
def mz:UP:=.i 0<|.i 0<|.loop [0] kI
theorem uW:bk Try.prog 49 Try.f49 di vl uz=some ([(false,1),(false,1)],mz):=by kernel_rfl
def xF:List aY:=[]
def xv:List (Nat×Nat×Bool×List Nat):=[]
def m7:UP:=.f<|.cl 49 [(false,[2]),(false,[1])] aP<|.i 0<|.b .geq 1 0<|.c 0<|.r 0
theorem wU:bk Try.prog 54 Try.f54 di xF xv=some ([(false,1),(false,1)],m7):=by kernel_rfl
def xL:List aY:=[]
def xU:List (Nat×Nat×Bool×List Nat):=[]
def o9:UP:=.f<|.b .geq 3 2<|.ite 0 (.b .leq 4 2<|.c 0<|.r 0)<|.f<|.c 0<|.r 0
theorem x5:bk Try.prog 19 Try.f19 di xL xU=some ([(false,1),(false,1),(false,1)],o9):=by kernel_rfl
section
variable {P:Program}{R:List (Bool×List DV)->Prop}{k:UP}{L:Lbl}{ρ:List DV}
theorem am{n:Nat}{rest:UP}(hk:V P R k (L++[λvs=>V P R rest L (gY vs ρ)]) ρ):V P R (.join n rest k) L ρ:=⟨λvs=>V P R rest L (gY vs ρ),λvs _ h=>h,hk⟩
end
theorem aU{b c:Bool}(h:b=c):iR [(false,[.sc (.bool b)],true)] [(false,[.sc (.bool c)])]:=by subst h;rfl
theorem yR{k:IntKind}{b c:Int}(h:b=c):iR [(false,[.sc (.int k b)],true)] [(false,[.sc (.int k c)])]:=by subst h;rfl
theorem Jz{b c:ByteArray}(h:b=c):iR [(false,[.sc (.string b)],true)] [(false,[.sc (.string c)])]:=by subst h;rfl
def cJ(p:Nat->Bool)(n:Nat):Bool:=(List.range n).all p
theorem FU(p:Nat->Bool):cJ p 0=true:=rfl
theorem ya(p:Nat->Bool)(n:Nat):cJ p (n+1)=(cJ p n&&p n):=by simp[cJ,List.range_succ]
theorem nC{p:Nat->Bool}{n:Nat}:cJ p n=true↔∀i,i<n->p i=true:=by simp[cJ]
theorem gP{p:Nat->Bool}{n i:Nat}(h:i<n)(hp:p i=false):cJ p n=false:=by
 cases hb:cJ p n
 ·rfl
 ·rw[nC.1 hb i h]at hp;cases hp
theorem bW{p:Nat->Bool}{i:Nat}(h:cJ p i=true)(hp:p i=true):cJ p (i+1)=true:=by rw[ya,h,hp];rfl
def zm:List ByteArray->ByteArray->Nat->Int
 |[],_,_=>-1
 |x::l,s,k=>if x=s then(k:Int)else zm l s (k+1)
def jG(l:List ByteArray)(s:ByteArray):Int:=zm l s 0
def tQ(l:List ByteArray)(s:ByteArray):Bool:=decide (0<=jG l s)
theorem L0(s:ByteArray):∀(l:List ByteArray) (k m:Nat),(∀j,j<k->l[j]? ≠some s)->l[k]? =some s->zm l s m=((m+k:Nat):Int):=by
 intro l
 induction l with
 |nil=>intro k m _ hk;simp at hk
 |cons x l ih=>
  intro k m h hk;unfold zm
  cases k with
  |zero=>simp at hk;rw[if_pos hk];simp
  |succ k=>
   rw[if_neg (λe=>h 0 (by omega) (by simp[e])),ih k (m+1) (λj hj=>by have:=h (j+1) (by omega);simpa using this) (by simpa using hk)];omega
theorem G8(s:ByteArray):∀(l:List ByteArray) (m:Nat),(∀j,j<l.length->l[j]? ≠some s)->zm l s m= -1:=by
 intro l
 induction l with
 |nil=>intro m _;rfl
 |cons x l ih=>
  intro m h;unfold zm;rw[if_neg (λe=>h 0 (by simp) (by simp[e]))];exact ih _ (λj hj=>by have:=h (j+1) (by simpa using hj);simpa using this)
theorem F5(s:ByteArray):∀(l:List ByteArray) (m:Nat),(zm l s m= -1/\s∉l)\/∃k:Nat,zm l s m=((m+k:Nat):Int)/\l[k]? =some s/\∀j,j<k->l[j]? ≠some s:=by
 intro l
 induction l with
 |nil=>intro m;exact .inl ⟨rfl,by simp⟩
 |cons x l ih=>
  intro m;unfold zm;by_cases e:x=s
  ·rw[if_pos e];exact .inr ⟨0,by simp,by simp[e],λj hj=>by omega⟩
  ·rw[if_neg e];rcases ih (m+1)with⟨h1,h2⟩|⟨k,h1,h2,h3⟩
   ·exact .inl ⟨h1,by simp[h2];exact λh=>e h.symm⟩
   ·refine .inr ⟨k+1,by rw[h1];omega,by simpa using h2,λj hj=>?_⟩
    cases j with
    |zero=>simpa using e
    |succ j=>simpa using h3 j (by omega)
theorem pP(l:List ByteArray)(s:ByteArray):(jG l s= -1/\s∉l)\/∃k:Nat,jG l s=k/\l[k]? =some s/\∀j,j<k->l[j]? ≠some s:=by
 rcases F5 s l 0 with h|⟨k,h1,h2⟩
 ·exact .inl h
 ·exact .inr ⟨k,by unfold jG;rw[h1];simp,h2⟩
theorem ne(l:List ByteArray)(s:ByteArray):tQ l s=true↔s∈l:=by
 unfold tQ;rcases pP l s with⟨h,h2⟩|⟨k,h1,h2,_⟩
 ·rw[h];simp[h2]
 ·rw[h1];simp;exact List.mem_of_getElem? h2
theorem getD_some{α:Type}[Inhabited α]{l:List α}{i:Nat}(h:i<l.length):l[i]? =some (l.getD i default):=by
 rw[List.getD_eq_getElem?_getD,List.getElem?_eq_getElem h];rfl
theorem yJ{l:List ByteArray}{s:ByteArray}{i:Nat}(h:cJ (λj=>!decide (l.getD j default=s)) i=true)(hi:i<l.length)(he:l.getD i default=s):jG l s=i:=by
 unfold jG;rw[L0 s l i 0 (λj hj hx=>?_) (by rw[getD_some hi,he])]
 ·simp
 ·have:=nC.1 h j hj;rw[List.getD_eq_getElem?_getD,hx]at this;simp at this
theorem xD{l:List ByteArray}{s:ByteArray}(h:cJ (λj=>!decide (l.getD j default=s)) l.length=true):jG l s= -1:=by
 refine G8 s l 0 λj hj hx=>?_
 have:=nC.1 h j hj;rw[List.getD_eq_getElem?_getD,hx]at this;simp at this
theorem ox{l:List ByteArray}{m:Nat}(h:∀x∈l,x.size<=m)(i:Nat):(l.getD i default).size<=m:=by
 rw[List.getD_eq_getElem?_getD]
 cases hi:l[i]? with
 |none=>exact Nat.zero_le _
 |some x=>exact h x (List.mem_of_getElem? hi)
theorem dF(s:ByteArray)(i:Nat):ah s i<256:=by
 unfold ah
 cases h:s[i]? with
 |none=>decide
 |some u=>exact u.toNat_lt
def mq(s:ByteArray)(i:Nat):Bool:=decide (33<=ah s i)&&(decide (ah s i<=126)&& !decide (ah s i=96))
def de(s:ByteArray):Bool:=cJ (mq s) s.size&&decide (1<=s.size/\s.size<=20)
theorem kK{s:ByteArray}{i:Nat}(h:i<s.size)(hp:mq s i=false):de s=false:=by unfold de;rw[gP h hp];rfl
theorem Du{s:ByteArray}(h:de s=true):1<=s.size/\s.size<=20:=by
 unfold de at h;simp only[Bool.and_eq_true,decide_eq_true_eq]at h;exact h.2
theorem oz(a:Nat):BitVec.ofInt 64 (a:Int)=BitVec.ofNat 64 a:=by simp
theorem OG{a b:Nat}(ha:a<2^63):IntKind.i64.wrap ((BitVec.ofInt 64 (a:Int) &&& BitVec.ofInt 64 (b:Int)).toNat:Nat)=((a &&& b:Nat):Int):=by
 have h1:(BitVec.ofInt 64 (a:Int) &&& BitVec.ofInt 64 (b:Int)).toNat=a &&& b:=by
  rw[oz,oz,BitVec.toNat_and,BitVec.toNat_ofNat,BitVec.toNat_ofNat,<-Nat.and_mod_two_pow];have:a &&& b<=a:=Nat.and_le_left;exact Nat.mod_eq_of_lt (by omega)
 rw[h1];have:a &&& b<=a:=Nat.and_le_left;exact dT (by omega) (by omega)
theorem QF{a b:Nat}(ha:a<2^63)(hb:b<2^63):IntKind.i64.wrap ((BitVec.ofInt 64 (a:Int) ||| BitVec.ofInt 64 (b:Int)).toNat:Nat)=((a ||| b:Nat):Int):=by
 have h0:a ||| b<2^63:=Nat.or_lt_two_pow ha hb
 have h1:(BitVec.ofInt 64 (a:Int) ||| BitVec.ofInt 64 (b:Int)).toNat=a ||| b:=by
  rw[oz,oz,BitVec.toNat_or,BitVec.toNat_ofNat,BitVec.toNat_ofNat,<-Nat.or_mod_two_pow];exact Nat.mod_eq_of_lt (by omega)
 rw[h1];exact dT (by omega) (by omega)
theorem MU{c:Bool}{a b:Nat}(ha:a<2^63):bE .and c (some (.sc (.int .i64 (a:Int)))) (some (.sc (.int .i64 (b:Int))))=some [.sc (.int .i64 ((a &&& b:Nat):Int))]:=by
 simp only[bE,eC,dA,if_true,mS];exact congrArg (λz=>some [DV.sc (.int .i64 z)]) (OG ha)
theorem TC{c:Bool}{a b:Nat}(ha:a<2^63)(hb:b<2^63):bE .or c (some (.sc (.int .i64 (a:Int)))) (some (.sc (.int .i64 (b:Int))))=some [.sc (.int .i64 ((a ||| b:Nat):Int))]:=by
 simp only[bE,eC,dA,if_true,mS];exact congrArg (λz=>some [DV.sc (.int .i64 z)]) (QF ha hb)
theorem MY{c:Bool}{k:IntKind}{a b:Nat}(hb:b<=64):bE .shr c (some (.sc (.int .i64 (a:Int)))) (some (.sc (.int k (b:Int))))=some [.sc (.int .i64 ((a / 2^b:Nat):Int))]:=by
 have h1:¬(b:Int)<0:=by omega
 simp only[bE,eC,dA,if_neg h1,mS,IntKind.bits,Int.toNat_natCast,Nat.min_eq_left hb];have h2:(2:Int)^b=((2^b:Nat):Int):=by simp
 rw[h2,Int.fdiv_eq_ediv_of_nonneg _ (Int.natCast_nonneg _)];rfl
theorem Rr{c:Bool}{k:IntKind}{a b:Nat}(hb:b<=64)(h:a*2^b<2^63):bE .shl c (some (.sc (.int .i64 (a:Int)))) (some (.sc (.int k (b:Int))))=some [.sc (.int .i64 ((a*2^b:Nat):Int))]:=by
 have h1:¬(b:Int)<0:=by omega
 have h2:(a:Int)*2^b=((a*2^b:Nat):Int):=by simp
 simp only[bE,eC,dA,if_neg h1,mS,IntKind.bits,Int.toNat_natCast,Nat.min_eq_left hb,h2];rw[dT (by omega) (by omega)]
theorem Pe{c:Bool}{k:IntKind}{b:Nat}(hb:b<=62):bE .shl c (some (.sc (.int .i64 1))) (some (.sc (.int k (b:Int))))=some [.sc (.int .i64 ((2^b:Nat):Int))]:=by
 have hp:2^b<=2^62:=Nat.pow_le_pow_right (by decide) hb;have:=@Rr c k 1 b (by omega) (by omega)
 rwa [Nat.one_mul]at this
theorem Rf{c:Bool}{a b:Int}(h0:0<=a)(ha:a<9223372036854775808)(h1:0<=b)(hb:b<9223372036854775808):bE .or c (some (.sc (.int .i64 a))) (some (.sc (.int .i64 b)))=some [.sc (.int .i64 ((a.toNat ||| b.toNat:Nat):Int))]:=by
 obtain⟨m,rfl⟩:=Int.eq_ofNat_of_zero_le h0;obtain⟨n,rfl⟩:=Int.eq_ofNat_of_zero_le h1;exact TC (by omega) (by omega)
theorem PY{c:Bool}{a b:Int}(h0:0<=a)(ha:a<9223372036854775808)(h1:0<=b):bE .and c (some (.sc (.int .i64 a))) (some (.sc (.int .i64 b)))=some [.sc (.int .i64 ((a.toNat &&& b.toNat:Nat):Int))]:=by
 obtain⟨m,rfl⟩:=Int.eq_ofNat_of_zero_le h0;obtain⟨n,rfl⟩:=Int.eq_ofNat_of_zero_le h1;exact MU (by omega)
theorem SI{n:Nat}(h:n<9223372036854775808):IntKind.u64.wrap (n:Int)=n:=by
 simp only[IntKind.wrap,IntKind.bits,IntKind.signed];simp;omega
theorem BK{z:Int}(h:0<=z)(h2:z<256):IntKind.u8.wrap z=z:=by
 simp only[IntKind.wrap,IntKind.bits,IntKind.signed];simp;omega
theorem Ux{i:Nat}:((i:Int)-1).toNat=i-1:=by omega
theorem MD{c:Bool}{s t:ByteArray}:bE .leq c (some (.sc (.string s))) (some (.sc (.string t)))=some [.sc (.bool (Op.bytesLess s.toList t.toList||decide (s=t)))]:=by simp[bE,eC,mM,mS]
theorem Mz{c:Bool}{s t:ByteArray}:bE .geq c (some (.sc (.string s))) (some (.sc (.string t)))=some [.sc (.bool (!Op.bytesLess s.toList t.toList))]:=by simp[bE,eC,mM,mS]
end Go.Proofs.Ytngaddcgmnonbaa
namespace Go.Proofs.Ytngaddcgmnonbaa
open Go.RowKit
set_option maxRecDepth 100000
def dc(s:ByteArray):List DV:=[.sc (.string s)]
def mL(n:Int):List DV:=[.sc (.int .i64 n)]
def bo(l:List ByteArray):DV:=.sl 9 1 (l.map dc)
def IR(l:List Int):DV:=.sl 3 1 (l.map mL)
theorem BE{t:Nat}{l:List ByteArray}{kd:IntKind}{z:Int}(h:0<=z)(h1:z<l.length):rk 1 (some (.sl t 1 (l.map dc))) (some (.sc (.int kd z)))=some [.sc (.string (l.getD z.toNat default))]:=kQ (λ_=>rfl) h h1
theorem BO{t:Nat}{l:List Int}{kd:IntKind}{z:Int}(h:0<=z)(h1:z<l.length):rk 1 (some (.sl t 1 (l.map mL))) (some (.sc (.int kd z)))=some [.sc (.int .i64 (l.getD z.toNat default))]:=kQ (λ_=>rfl) h h1
theorem TE{t:Nat}{l:List ByteArray}{kd:IntKind}{z:Int}{s:ByteArray}(h:0<=z)(h1:z<l.length):Bg 1 0 (some (.sl t 1 (l.map dc))) (some (.sc (.int kd z))) (some [.sc (.string s)])=some [.sl t 1 ((l.set z.toNat s).map dc)]:=by
 rw[yC (e:=dc) (λ_=>rfl) h h1 rfl,List.map_set];rfl
theorem Tq{t:Nat}{l:List Int}{kd:IntKind}{z n:Int}(h:0<=z)(h1:z<l.length):Bg 1 0 (some (.sl t 1 (l.map mL))) (some (.sc (.int kd z))) (some [.sc (.int .i64 n)])=some [.sl t 1 ((l.set z.toNat n).map mL)]:=by
 rw[yC (e:=mL) (λ_=>rfl) h h1 rfl,List.map_set];rfl
theorem OX{t k:Nat}{l:List ByteArray}:ml (some (.sl t k (l.map dc)))=some []:=wP λ_=>rfl
theorem Su{t k:Nat}{l:List Int}:ml (some (.sl t k (l.map mL)))=some []:=wP λ_=>rfl
theorem MR{t:Nat}{s:ByteArray}:ml (some (.sl t 1 [[.sc (.string s)]]))=some []:=rfl
theorem MO{t:Nat}{kd:IntKind}{n:Int}:ml (some (.sl t 1 [[.sc (.int kd n)]]))=some []:=rfl
theorem Js(l:List ByteArray)(s:ByteArray):l.map dc++[[.sc (.string s)]]=(l++[s]).map dc:=by rw[List.map_append];rfl
theorem MN(l:List Int)(n:Int):l.map mL++[[.sc (.int .i64 n)]]=(l++[n]).map mL:=by rw[List.map_append];rfl
attribute[go_sem] MD Mz Pe Rf PY MY SI BK Ux BE BO TE Tq OX Su MR MO Js MN
theorem Ca(t:Nat)(l:List ByteArray)(s:ByteArray)(hl:l.length<=100000000000):aW Try.prog 72 [(false,[.sl t 1 (l.map dc)]),(false,[.sc (.string s)])] [(false,[.sc (.int .i64 (jG l s))],true)]:=by
 refine ax Try.func72 qO rfl ?_;simp only[iB];simp(disch:=first|omega|(simp only[ak];omega)|simp only[al,Nat.reduceAdd]) only[go_sem,true_and];refine lp (λi:Nat=>[.sc (.int .i64 i)]) (λi=>i<=l.length/\cJ (λj=>!decide (l.getD j default=s)) i=true) (λi=>l.length-i) 0 rfl ⟨by omega,rfl⟩ ?_;rintro i ⟨hi,hb⟩;simp only[gG]
 repeat' (first|(with_reducible first|refine am ?_|refine aj (by assumption) rfl ?_|refine ap (λhbr=>?_) λhbr=>?_)|simp(disch:=first|omega|(simp only[ak];omega)|simp only[al,Nat.reduceAdd]) only[go_sem,BE,Dd])
 ·rw[yJ hb (by omega) ‹_›];rfl
 ·exact⟨i+1,rfl,⟨by omega,bW hb (by simpa using‹¬l.getD i default=s›)⟩,by omega⟩
 ·obtain rfl:i=l.length:=by omega
  rw[xD hb];rfl
theorem yL(t:Nat)(l:List ByteArray)(s:ByteArray)(hl:l.length<=100000000000):aW Try.prog 60 [(false,[.sl t 1 (l.map dc)]),(false,[.sc (.string s)])] [(false,[.sc (.bool (tQ l s))],true)]:=by
 have h:=Ca t l s hl;refine ax Try.func60 ui rfl ?_;simp only[ld]
 repeat' (first|(with_reducible first|refine am ?_|refine aj (by assumption) rfl ?_|refine ap (λhbr=>?_) λhbr=>?_)|simp(disch:=first|omega|(simp only[ak];omega)|simp only[al,Nat.reduceAdd]) only[go_sem,true_and])
 rfl
theorem pG(s:ByteArray)(hs:s.size<=100000000000):aW Try.prog 59 [(false,[.sc (.string s)])] [(false,[.sc (.bool (de s))],true)]:=by
 refine ax Try.func59 vB rfl ?_;simp only[mp];simp(disch:=first|omega|(simp only[ak];omega)|simp only[al,Nat.reduceAdd]) only[go_sem,true_and];refine lp (λi:Nat=>[.sc (.int .i64 i)]) (λi=>i<=s.size/\cJ (mq s) i=true) (λi=>s.size-i) 0 rfl ⟨by omega,rfl⟩ ?_;rintro i ⟨hi,hb⟩;simp only[lq]
 repeat' (first|(with_reducible first|refine am ?_|refine aj (by assumption) rfl ?_|refine ap (λhbr=>?_) λhbr=>?_)|simp(disch:=first|omega|(simp only[ak];omega)|simp only[al,Nat.reduceAdd]) only[go_sem,Dd])
 ·rw[kK (i:=i) (by omega) (by simp[mq];omega)];rfl
 ·rw[kK (i:=i) (by omega) (by simp[mq];omega)];rfl
 ·rw[kK (i:=i) (by omega) (by simp[mq];omega)];rfl
 ·exact⟨i+1,rfl,⟨by omega,bW hb (by simp[mq];omega)⟩,by omega⟩
 ·obtain rfl:i=s.size:=by omega
  refine aU ?_;unfold de;rw[hb,Bool.true_and,Bool.eq_iff_iff];simp;omega
 ·obtain rfl:i=s.size:=by omega
  refine aU ?_;unfold de;rw[hb,Bool.true_and,Bool.eq_iff_iff];simp;omega
theorem kf(x lo hi:Int):aW Try.prog 19 [(false,[.sc (.int .i64 x)]),(false,[.sc (.int .i64 lo)]),(false,[.sc (.int .i64 hi)])] [(false,[.sc (.bool (decide (lo<=x/\x<=hi)))],true)]:=by
 refine ax Try.func19 x5 rfl ?_;simp only[o9]
 repeat' (first|(with_reducible first|refine am ?_|refine aj (by assumption) rfl ?_|refine ap (λhbr=>?_) λhbr=>?_)|simp(disch:=first|omega|(simp only[ak];omega)|simp only[al,Nat.reduceAdd]) only[go_sem,true_and])
 all_goals (refine aU ?_;rw[Bool.eq_iff_iff];simp;omega)
theorem rn(t:Nat)(l:List ByteArray)(s:ByteArray)(hl:l.length<=100000000000):aW Try.prog 49 [(false,[.sl t 1 (l.map dc)]),(false,[.sc (.string s)])] [(false,[.sc (.int .i64 (jG l s))],true)]:=by
 refine ax Try.func49 uW rfl ?_;simp only[mz];simp(disch:=first|omega|(simp only[ak];omega)|simp only[al,Nat.reduceAdd]) only[go_sem,true_and];refine lp (λi:Nat=>[.sc (.int .i64 i)]) (λi=>i<=l.length/\cJ (λj=>!decide (l.getD j default=s)) i=true) (λi=>l.length-i) 0 rfl ⟨by omega,rfl⟩ ?_;rintro i ⟨hi,hb⟩;simp only[kI]
 repeat' (first|(with_reducible first|refine am ?_|refine aj (by assumption) rfl ?_|refine ap (λhbr=>?_) λhbr=>?_)|simp(disch:=first|omega|(simp only[ak];omega)|simp only[al,Nat.reduceAdd]) only[go_sem,BE,Dd])
 ·rw[yJ hb (by omega) ‹_›];rfl
 ·exact⟨i+1,rfl,⟨by omega,bW hb (by simpa using‹¬l.getD i default=s›)⟩,by omega⟩
 ·obtain rfl:i=l.length:=by omega
  rw[xD hb];rfl
theorem jP(t:Nat)(l:List ByteArray)(s:ByteArray)(hl:l.length<=100000000000):aW Try.prog 54 [(false,[.sl t 1 (l.map dc)]),(false,[.sc (.string s)])] [(false,[.sc (.bool (tQ l s))],true)]:=by
 have h:=rn t l s hl;refine ax Try.func54 wU rfl ?_;simp only[m7]
 repeat' (first|(with_reducible first|refine am ?_|refine aj (by assumption) rfl ?_|refine ap (λhbr=>?_) λhbr=>?_)|simp(disch:=first|omega|(simp only[ak];omega)|simp only[al,Nat.reduceAdd]) only[go_sem,true_and])
 rfl
theorem eq(s:ByteArray)(hs:s.size<=100000000000):aW Try.prog 48 [(false,[.sc (.string s)])] [(false,[.sc (.bool (de s))],true)]:=by
 have h:=kf s.size 1 20;refine ax Try.func48 va rfl ?_;simp only[mo];simp(disch:=first|omega|(simp only[ak];omega)|simp only[al,Nat.reduceAdd]) only[go_sem,true_and];refine lp (λi:Nat=>[.sc (.int .i64 i)]) (λi=>i<=s.size/\cJ (mq s) i=true) (λi=>s.size-i) 0 rfl ⟨by omega,rfl⟩ ?_;rintro i ⟨hi,hb⟩;simp only[lx]
 repeat' (first|(with_reducible first|refine am ?_|refine aj (by assumption) rfl ?_|refine ap (λhbr=>?_) λhbr=>?_)|simp(disch:=first|omega|(simp only[ak];omega)|simp only[al,Nat.reduceAdd]) only[go_sem,Dd])
 ·rw[kK (i:=i) (by omega) (by simp[mq];omega)];rfl
 ·rw[kK (i:=i) (by omega) (by simp[mq];omega)];rfl
 ·rw[kK (i:=i) (by omega) (by simp[mq];omega)];rfl
 ·exact⟨i+1,rfl,⟨by omega,bW hb (by simp[mq];omega)⟩,by omega⟩
 ·obtain rfl:i=s.size:=by omega
  refine aU ?_;unfold de;rw[hb,Bool.true_and,Bool.eq_iff_iff];simp;omega
open Int (reduceNeg reduceSub reduceMul reduceLT reduceLE reduceEq reduceToNat)
def IY(n:Int):List DV:=[.sc (.int .u8 n)]
def bw(l:List Int):DV:=.sl 5 1 (l.map IY)
theorem BI{t:Nat}{l:List Int}{kd:IntKind}{z:Int}(h:0<=z)(h1:z<l.length):rk 1 (some (.sl t 1 (l.map IY))) (some (.sc (.int kd z)))=some [.sc (.int .u8 (l.getD z.toNat default))]:=kQ (λ_=>rfl) h h1
theorem yN{α:Type}[Inhabited α]{l:List α}{i:Nat}(h:i<l.length):l.getD i default∈l:=by
 rw[List.getD_eq_getElem?_getD,List.getElem?_eq_getElem h];exact List.getElem_mem h
structure Cu where
 i:Int
 h:Int
def Cu.cs(c:Cu):List DV:=[.sc (.int .i64 c.i),.sc (.int .i64 c.h)]
theorem Lz(c:Cu):jl c.cs:=by intro x hx;simp only[Cu.cs,List.mem_cons,List.not_mem_nil,or_false]at hx;rcases hx with rfl|rfl<;>exact⟨_,rfl⟩
def H7(a b:Int):Int:=IntKind.i64.wrap ((BitVec.ofInt 64 a ^^^ BitVec.ofInt 64 b).toNat:Nat)
def w7(a b:Int):Int:=IntKind.i64.wrap ((BitVec.ofInt 64 a &&& BitVec.ofInt 64 b).toNat:Nat)
theorem Eu{c:Bool}{a b:Int}:bE .xor c (some (.sc (.int .i64 a))) (some (.sc (.int .i64 b)))=some [.sc (.int .i64 (H7 a b))]:=by simp only[bE,eC,dA,if_true,mS,H7];rfl
theorem xA{c:Bool}{a b:Int}:bE .and c (some (.sc (.int .i64 a))) (some (.sc (.int .i64 b)))=some [.sc (.int .i64 (w7 a b))]:=by simp only[bE,eC,dA,if_true,mS,w7];rfl
theorem Jj{c:Bool}{k:IntKind}{a:Int}{b:Nat}(hb:b<=64):bE .shr c (some (.sc (.int .i64 a))) (some (.sc (.int k (b:Int))))=some [.sc (.int .i64 (a.fdiv (2^b)))]:=by
 have h1:¬(b:Int)<0:=by omega
 simp only[bE,eC,dA,if_neg h1,mS,IntKind.bits,Int.toNat_natCast,Nat.min_eq_left hb]
theorem BF(a:Int):0<=w7 a 255/\w7 a 255<=255:=by
 unfold w7
 have h:(BitVec.ofInt 64 a &&& BitVec.ofInt 64 255).toNat<=255:=by
  rw[BitVec.toNat_and];exact Nat.and_le_right
 generalize (BitVec.ofInt 64 a &&& BitVec.ofInt 64 255).toNat=n at h;simp only[IntKind.wrap,IntKind.bits,IntKind.signed];simp;omega
def rB(h:Int):Int:=IntKind.i64.wrap (IntKind.i64.wrap (h*6364136223846793005)+1442695040888963407)
def Gp(h:Int):Int:=w7 (H7 (h.fdiv (2^33)) (h.fdiv (2^45))) 255
def fq(l:List Int)(c:Cu):Int:=if c.i<l.length then w7 (IntKind.i64.wrap (Gp (rB c.h)+IntKind.i64.wrap (l.getD c.i.toNat default))) 255 else Gp (rB c.h)
def cb(l:List Int)(c:Cu):Cu:=⟨if c.i<l.length then c.i+1 else c.i,rB c.h⟩
theorem ou(l:List Int)(c:Cu):0<=fq l c/\fq l c<=255:=by
 unfold fq;split
 ·exact BF _
 ·exact BF _
theorem c9{l:List Int}{c:Cu}(h:0<=c.i):0<=(cb l c).i:=by
 unfold cb;simp only;split<;>omega
theorem zt{ty:Nat}{x a b:DV}:P1 3 (some (ky ty x [a,b]))=some [x,a,b]:=rfl
theorem Ay{ty:Nat}{x a b:DV}{kd:IntKind}{n:Int}:F0 2 (some (ky ty x [a,b])) (some (.sc (.int kd n)))=some [ky ty x [a,.sc (.int kd n)]]:=MC (off:=1) rfl (by simp)
theorem zD{ty:Nat}{x a b:DV}{kd:IntKind}{n:Int}:F0 1 (some (ky ty x [a,b])) (some (.sc (.int kd n)))=some [ky ty x [.sc (.int kd n),b]]:=MC (off:=0) rfl (by simp)
theorem zf(l:List Int)(c:Cu)(hc:0<=c.i)(hl:l.length<=4611686018427387904):cr Try.prog 27 45 (bw l) c.cs [] [(false,[.sc (.int .i64 (fq l c))],true)] (cb l c).cs:=by
 obtain⟨i,h⟩:=c;simp only at hc;have s33:=λa:Int=>@Jj false .u64 a 33 (by decide)
 have s45:=λa:Int=>@Jj false .u64 a 45 (by decide)
 have k1:∀n:Int,lz (.int .i64 n)=true:=λ_=>rfl
 refine fD Try.func27 vm rfl (by simp) ?_;simp only[my];simp only[Cu.cs,bw];by_cases hi:i<l.length
 ·have hbv:fq l ⟨i,h⟩=w7 (IntKind.i64.wrap (Gp (rB h)+IntKind.i64.wrap (l.getD i.toNat default))) 255:=by unfold fq;rw[if_pos hi]
  have hbc:(cb l ⟨i,h⟩).i=i+1:=by unfold cb;rw[if_pos hi]
  have hbh:(cb l ⟨i,h⟩).h=rB h:=rfl;rw[hbv,hbc,hbh];unfold Gp rB;simp(disch:=first|omega) only[go_sem,↓reduceIte,Nat.reduceAdd,reduceNeg,Int.reduceAdd,reduceSub,reduceMul,reduceLT,reduceLE,reduceEq,reduceToNat,Nat.reduceBEq,zt,Ay,zD,s33,s45,Eu,xA,BI];refine bI (λhbr=>?_) (λhbr=>absurd (by simpa only[List.length_map]using hi) hbr);simp(disch:=first|omega) only[go_sem,↓reduceIte,Nat.reduceAdd,reduceNeg,Int.reduceAdd,reduceSub,reduceMul,reduceLT,reduceLE,reduceEq,reduceToNat,Nat.reduceBEq,zt,Ay,zD,s33,s45,Eu,xA,BI];unfold w7 H7;exact⟨_,_,rfl,rfl⟩
 ·have hbv:fq l ⟨i,h⟩=Gp (rB h):=by unfold fq;rw[if_neg hi]
  have hbc:(cb l ⟨i,h⟩).i=i:=by unfold cb;rw[if_neg hi]
  have hbh:(cb l ⟨i,h⟩).h=rB h:=rfl;rw[hbv,hbc,hbh];unfold Gp rB;simp(disch:=first|omega) only[go_sem,↓reduceIte,Nat.reduceAdd,reduceNeg,Int.reduceAdd,reduceSub,reduceMul,reduceLT,reduceLE,reduceEq,reduceToNat,Nat.reduceBEq,zt,Ay,zD,s33,s45,Eu,xA,BI];refine bI (λhbr=>absurd (by simpa only[List.length_map]using hbr) hi) (λhbr=>?_);simp(disch:=first|omega) only[go_sem,↓reduceIte,Nat.reduceAdd,reduceNeg,Int.reduceAdd,reduceSub,reduceMul,reduceLT,reduceLE,reduceEq,reduceToNat,Nat.reduceBEq,zt,Ay,zD,s33,s45,Eu,xA,BI];unfold w7 H7;exact⟨_,_,rfl,rfl⟩
def Ot(l:List Int):Nat->Int
 |0=>10101+l.length
 |i+1=>w7 (IntKind.i64.wrap (IntKind.i64.wrap (IntKind.i64.wrap (Ot l i*131)+IntKind.i64.wrap (l.getD i default))+7)) 1073741823
def NV(l:List Int):Cu:=⟨0,Ot l (min l.length 4000)⟩
theorem RF(l:List Int)(hl:l.length<=4611686018427387904):nj Try.prog 11 [(false,[bw l])] 45 (bw l) (NV l).cs:=by
 refine D6 Try.func11 wF rfl (Lz _) ?_;simp only[nH];simp only[bw,NV,Cu.cs];simp(disch:=first|omega|(simp only[ak];omega)|simp only[al,Nat.reduceAdd]) only[go_sem,true_and];refine Dx (min l.length 4000) (λi=>[.sc (.int .i64 i),.sc (.int .i64 (Ot l i))]) rfl λi hi=>?_
 simp only[mi]
 repeat' (first|(with_reducible first|refine am ?_|refine aj (by assumption) rfl ?_|refine ap (λhbr=>?_) λhbr=>?_)|simp(disch:=first|omega|(simp only[ak];omega)|simp only[al,Nat.reduceAdd]) only[go_sem,BI,Dd,xA])
 ·exact⟨rfl,by omega⟩
 ·obtain rfl:i=min l.length 4000:=by omega
  rfl
 ·obtain rfl:i=min l.length 4000:=by omega
  rfl
def l4(l:List Int)(c:Cu)(n:Int):Int:=
 if n<=0 then 0 else if n<=256 then(fq l c).tmod n else
 let c1:=cb l c
 let c2:=cb l c1
 let c3:=cb l c2
 (IntKind.i64.wrap (IntKind.i64.wrap (IntKind.i64.wrap (IntKind.i64.wrap (fq l c*16777216)+IntKind.i64.wrap (fq l c1*65536))+IntKind.i64.wrap (fq l c2*256))+fq l c3)).tmod n
def nz(l:List Int)(c:Cu)(n:Int):Cu:=if n<=0 then c else if n<=256 then cb l c else cb l (cb l (cb l (cb l c)))
theorem vL(l:List Int)(c:Cu)(n:Int)(hc:0<=c.i)(hl:l.length<=4611686018427387904)(hn:n<=4611686018427387904):cr Try.prog 13 45 (bw l) c.cs [(false,[.sc (.int .i64 n)])] [(false,[.sc (.int .i64 (l4 l c n))],true)] (nz l c n).cs:=by
 have b1:=zf l c hc hl;have b2:=zf l (cb l c) (c9 hc) hl;have b3:=zf l (cb l (cb l c)) (c9 (c9 hc)) hl;have b4:=zf l (cb l (cb l (cb l c))) (c9 (c9 (c9 hc))) hl;refine fD Try.func13 tL rfl (by simp) ?_;simp only[lI];simp(disch:=first|omega|(simp only[ak];omega)|simp only[al,Nat.reduceAdd]) only[go_sem,true_and];refine bI (λhbr=>?_) (λhbr=>?_)
 ·simp(disch:=first|omega|(simp only[ak];omega)|simp only[al,Nat.reduceAdd]) only[go_sem,true_and];rw[l4,nz,if_pos hbr,if_pos hbr];exact⟨_,_,rfl,rfl⟩
 ·simp(disch:=first|omega|(simp only[ak];omega)|simp only[al,Nat.reduceAdd]) only[go_sem,true_and];rw[l4,nz,if_neg hbr,if_neg hbr];refine bI (λhb2=>?_) (λhb2=>?_)
  ·rw[if_pos hb2,if_pos hb2];simp(disch:=first|omega|(simp only[ak];omega)|simp only[al,Nat.reduceAdd]) only[go_sem,true_and];refine aR b1 rfl ?_;simp(disch:=first|omega|(simp only[ak];omega)|simp only[al,Nat.reduceAdd]) only[go_sem,true_and];exact⟨_,_,rfl,rfl⟩
  ·rw[if_neg hb2,if_neg hb2];simp(disch:=first|omega|(simp only[ak];omega)|simp only[al,Nat.reduceAdd]) only[go_sem,true_and];refine aR b1 rfl ?_;simp(disch:=first|omega|(simp only[ak];omega)|simp only[al,Nat.reduceAdd]) only[go_sem,true_and];refine aR b2 rfl ?_;simp(disch:=first|omega|(simp only[ak];omega)|simp only[al,Nat.reduceAdd]) only[go_sem,true_and];refine aR b3 rfl ?_;simp(disch:=first|omega|(simp only[ak];omega)|simp only[al,Nat.reduceAdd]) only[go_sem,true_and];refine aR b4 rfl ?_;simp(disch:=first|omega|(simp only[ak];omega)|simp only[al,Nat.reduceAdd]) only[go_sem,true_and];exact⟨_,_,rfl,rfl⟩
theorem iT(l:List Int)(c:Cu){n:Int}(hn:0<n):0<=l4 l c n/\l4 l c n<n:=by
 have b1:=ou l c;have b2:=ou l (cb l c);have b3:=ou l (cb l (cb l c));have b4:=ou l (cb l (cb l (cb l c)));have key:∀x:Int,0<=x->0<=x.tmod n/\x.tmod n<n:=λx hx=>⟨Int.tmod_nonneg n hx,Int.tmod_lt_of_pos x hn⟩
 unfold l4;rw[if_neg (by omega)];split
 ·exact key _ b1.1
 ·refine key _ ?_;rw[dT (z:=fq l c*16777216) (by omega) (by omega),dT (z:=fq l (cb l c)*65536) (by omega) (by omega),dT (z:=fq l (cb l (cb l c))*256) (by omega) (by omega),dT (z:=_+fq l (cb l c)*65536) (by omega) (by omega),dT (z:=_+fq l (cb l (cb l c))*256) (by omega) (by omega)]
  first|omega|(rw[dT (by omega) (by omega)];omega)
theorem lT{l:List Int}{c:Cu}{n:Int}(h:0<=c.i):0<=(nz l c n).i:=by
 unfold nz;split
 ·exact h
 ·split
  ·exact c9 h
  ·exact c9 (c9 (c9 (c9 h)))
theorem NO(l:List Int)(c:Cu)(n:Int)(hc:0<=c.i)(hl:l.length<=4611686018427387904)(hn:n<=4611686018427387904):cr Try.prog 24 45 (bw l) c.cs [(false,[.sc (.int .i64 n)])] [(false,[.sc (.bool (decide (l4 l c n=0)))],true)] (nz l c n).cs:=by
 have b1:=vL l c n hc hl hn;refine fD Try.func24 vd rfl (by simp) ?_;simp only[mA];simp(disch:=first|omega|(simp only[ak];omega)|simp only[al,Nat.reduceAdd]) only[go_sem,true_and];refine aR b1 rfl ?_;simp(disch:=first|omega|(simp only[ak];omega)|simp only[al,Nat.reduceAdd]) only[go_sem,true_and];exact⟨_,_,rfl,rfl⟩
theorem NR(t:Nat)(l:List Int)(c:Cu)(p:List ByteArray)(hc:0<=c.i)(hl:l.length<=4611686018427387904)(h0:p≠[])(hp:p.length<=1000000):cr Try.prog 26 45 (bw l) c.cs [(false,[.sl t 1 (p.map dc)])] [(false,[.sc (.string (p.getD (l4 l c p.length).toNat default))],true)] (nz l c p.length).cs:=by
 have b1:=vL l c p.length hc hl (by omega);have hr:=iT l c (n:=p.length) (by have:=List.length_pos_iff.2 h0;omega);refine fD Try.func26 u4 rfl (by simp) ?_;simp only[mw];simp(disch:=first|omega|(simp only[ak];omega)|simp only[al,Nat.reduceAdd]) only[go_sem,true_and];refine aR b1 rfl ?_;simp(disch:=first|omega|(simp only[ak];omega)|simp only[al,Nat.reduceAdd]) only[go_sem,BE];exact⟨_,_,rfl,rfl⟩
theorem LM(t:Nat)(l:List Int)(c:Cu)(p:List Int)(hc:0<=c.i)(hl:l.length<=4611686018427387904)(h0:p≠[])(hp:p.length<=1000000):cr Try.prog 25 45 (bw l) c.cs [(false,[.sl t 1 (p.map mL)])] [(false,[.sc (.int .i64 (p.getD (l4 l c p.length).toNat default))],true)] (nz l c p.length).cs:=by
 have b1:=vL l c p.length hc hl (by omega);have hr:=iT l c (n:=p.length) (by have:=List.length_pos_iff.2 h0;omega);refine fD Try.func25 pd rfl (by simp) ?_;simp only[iI];simp(disch:=first|omega|(simp only[ak];omega)|simp only[al,Nat.reduceAdd]) only[go_sem,true_and];refine aR b1 rfl ?_;simp(disch:=first|omega|(simp only[ak];omega)|simp only[al,Nat.reduceAdd]) only[go_sem,BO];exact⟨_,_,rfl,rfl⟩
theorem gc(l:List Int)(c:Cu)(n:Int)(hc:0<=c.i)(hl:l.length<=1048576)(h0:0<n)(hn:n<=4611686018427387904):∃(v:Int) (c':Cu),(0<=v/\v<n)/\0<=c'.i/\cr Try.prog 13 45 (bw l) c.cs [(false,[.sc (.int .i64 n)])] [(false,[.sc (.int .i64 v)],true)] c'.cs:=
 ⟨_,_,iT l c h0,lT hc,vL l c n hc (by omega) hn⟩
theorem Qz(l:List Int)(hl:l.length<=1048576):∃c':Cu,0<=c'.i/\nj Try.prog 11 [(false,[bw l])] 45 (bw l) c'.cs:=⟨NV l,Int.le_refl 0,RF l (by omega)⟩
theorem FA(l:List Int)(c:Cu)(n:Int)(hc:0<=c.i)(hl:l.length<=1048576)(hn:n<=4611686018427387904):∃(b:Bool) (c':Cu),0<=c'.i/\cr Try.prog 24 45 (bw l) c.cs [(false,[.sc (.int .i64 n)])] [(false,[.sc (.bool b)],true)] c'.cs:=
 ⟨_,_,lT hc,NO l c n hc (by omega) hn⟩
theorem IS(t:Nat)(l:List Int)(c:Cu)(p:List Int)(hc:0<=c.i)(hl:l.length<=1048576)(h0:p≠[])(hp:p.length<=1000000):∃(v:Int) (c':Cu),v∈p/\0<=c'.i/\cr Try.prog 25 45 (bw l) c.cs [(false,[.sl t 1 (p.map mL)])] [(false,[.sc (.int .i64 v)],true)] c'.cs:=
 ⟨_,_,yN (by have hr:=iT l c (n:=p.length) (by have:=List.length_pos_iff.2 h0;omega);omega),lT hc,LM t l c p hc (by omega) h0 hp⟩
theorem uk(t:Nat)(l:List Int)(c:Cu)(p:List ByteArray)(hc:0<=c.i)(hl:l.length<=1048576)(h0:p≠[])(hp:p.length<=1000000):∃(v:ByteArray) (c':Cu),v∈p/\0<=c'.i/\cr Try.prog 26 45 (bw l) c.cs [(false,[.sl t 1 (p.map dc)])] [(false,[.sc (.string v)],true)] c'.cs:=
 ⟨_,_,yN (by have hr:=iT l c (n:=p.length) (by have:=List.length_pos_iff.2 h0;omega);omega),lT hc,NR t l c p hc (by omega) h0 hp⟩
def Q5:List ByteArray:=[⟨#[32]⟩,⟨#[40]⟩,⟨#[48]⟩,⟨#[34]⟩,⟨#[120]⟩,⟨#[10]⟩,⟨#[44]⟩,⟨#[45]⟩,⟨#[58]⟩,⟨#[255]⟩]
theorem GD:∀x∈Q5,x.size<=5:=by decide
theorem Ao{b:Bool}{s t:ByteArray}(h:s.size+t.size<=1000000):bE .add b (some (.sc (.string s))) (some (.sc (.string t)))=some [.sc (.string (s++t))]:=bD (by unfold maxLen;omega)
theorem v6(s:ByteArray)(a b:Nat):(s.extract a b).size<=s.size:=by rw[ByteArray.size_extract];omega
set_option maxHeartbeats 4000000 in
theorem FJ(l:List Int)(c:Cu)(s:ByteArray)(hs:s.size<=1000)(hc:0<=c.i)(hl:l.length<=1048576):∃a:ByteArray×Cu,(a.1.size<=2*s.size+10/\0<=a.2.i)/\cr Try.prog 36 45 (bw l) c.cs [(false,[.sc (.string s)])] [(false,[.sc (.string a.1)],true)] a.2.cs:=by
 refine fB Try.func36 sO rfl (by intro a;simp) (by kernel_rfl) ?_;simp only[kZ];simp(disch:=first|omega|(simp only[ak];omega)|simp only[al,Nat.reduceAdd]) only[go_sem,true_and];refine bI (λhbr=>?_) (λhbr=>?_)
 ·simp(disch:=first|omega|(simp only[ak];omega)|simp only[al,Nat.reduceAdd]) only[go_sem,true_and];exact⟨(⟨#[120]⟩,c),⟨by simp only;show 1<=_;omega,hc⟩,_,_,rfl,rfl⟩
 have hpos:0<s.size:=by
  rcases Nat.eq_zero_or_pos s.size with e|e
  ·exfalso;apply hbr;have:=ByteArray.size_eq_zero_iff.1 e;rw[this];rfl
  ·exact e
 simp(disch:=first|omega|(simp only[ak];omega)|simp only[al,Nat.reduceAdd]) only[go_sem,true_and];obtain⟨i,c1,hi,h1,hcb⟩:=gc l c s.size (by first|assumption|omega) (by omega) (by omega) (by omega);refine aR hcb rfl ?_;clear hcb;simp(disch:=first|omega|(simp only[ak];omega)|simp only[al,Nat.reduceAdd]) only[go_sem,true_and];obtain⟨k,c2,hk,h2,hcb⟩:=gc l c1 3 (by first|assumption|omega) (by omega) (by omega) (by omega);refine aR hcb rfl ?_;clear hcb;simp(disch:=first|omega|(simp only[ak];omega)|simp only[al,Nat.reduceAdd]) only[go_sem,true_and];obtain⟨i,rfl⟩:=Int.eq_ofNat_of_zero_le hi.1;have z1:=v6 s 0 i;have z2:=v6 s (i+1) s.size;have z3:=v6 s 0 (i+1);have z4:=v6 s i s.size;refine bI (λhbr2=>?_) (λhbr2=>?_)
 ·simp(disch:=first|omega|(simp only[ak];omega)|simp only[al,Nat.reduceAdd]) only[go_sem,true_and];obtain⟨x,c3,hx,h3,hcb⟩:=uk 9 l c2 Q5 h2 hl (by decide) (by decide);have hsz:=GD x hx;refine aR hcb rfl ?_;clear hcb;have hcat:=@Ao false (s.extract 0 i) x (by omega);have hcat2:=@Ao false (s.extract 0 i++x) (s.extract (i+1) s.size) (by rw[ByteArray.size_append];omega);simp(disch:=first|omega|(simp only[ak];omega)|simp only[al,Nat.reduceAdd]) only[go_sem,hcat,hcat2];exact⟨(_,c3),⟨by simp only[ByteArray.size_append];omega,h3⟩,_,_,rfl,rfl⟩
 simp(disch:=first|omega|(simp only[ak];omega)|simp only[al,Nat.reduceAdd]) only[go_sem,true_and];refine bI (λhbr3=>?_) (λhbr3=>?_)
 ·have hcat:=@Ao false (s.extract 0 i) (s.extract (i+1) s.size) (by omega);simp(disch:=first|omega|(simp only[ak];omega)|simp only[al,Nat.reduceAdd]) only[go_sem,hcat];exact⟨(_,c2),⟨by simp only[ByteArray.size_append];omega,h2⟩,_,_,rfl,rfl⟩
 ·have hcat:=@Ao false (s.extract 0 (i+1)) (s.extract i s.size) (by omega);simp(disch:=first|omega|(simp only[ak];omega)|simp only[al,Nat.reduceAdd]) only[go_sem,hcat];exact⟨(_,c2),⟨by simp only[ByteArray.size_append];omega,h2⟩,_,_,rfl,rfl⟩
def qE:List aY:=[⟨2000001,3,⟨[aa 3 7,aa 5 8,aa 14 9,aa 8 6,aa 4 3,aa 2 1,aa 0 0],[],0,0,10,[(6,true)]⟩,[]⟩,⟨3000003,2,⟨[aa 4 3,aa 3 4,aa 2 1,aa 0 0],[],0,0,5,[]⟩,[]⟩]
def qr:List (Nat×Nat×Bool×List Nat):=[]
def d6:UP:=.i 10<|.b .quo 5 0<|.jump 0 [0,4]
def gp:UP:=.i 0<|.b .neq 2 0<|.ite 0 (.sel [2,3]<|.join 3 d6<|.i 10<|.b .rem 2 0<|.i 0<|.b .lss 1 0<|.ite 0 (.po (.un .neg 2)<|.i 1<|.a 1 0<|.s #[48,49,50,51,52,53,54,55,56,57]<|.po (.cutS 0 (some 3) (some 1))<|.a 0 9<|.jump 1 [0,5,6])<|.i 1<|.a 3 0<|.s #[48,49,50,51,52,53,54,55,56,57]<|.po (.cutS 0 (some 5) (some 1))<|.a 0 8<|.jump 1 [0,7,5])<|.i 0<|.e 7 0<|.ite 0 (.s #[48]<|.c 0<|.r 0)<|.i 0<|.b .lss 9 0<|.ite 0 (.s #[45]<|.a 0 7<|.c 0<|.r 0)<|.c 6<|.r 6
def iY:UP:=.s #[]<|.s #[]<|.loop [2,0] gp
theorem pq:bk Try.prog 37 Try.f37 di qE qr=some ([(false,1)],iY):=by kernel_rfl
def Pv(n:Nat):List DV:=[.sc (.int .u8 (n:Int))]
def cI(l:List Nat):ByteArray:=strOfNums (l.map λn:Nat=>(n:Int))
theorem fX(l:List Nat):(cI l).data.toList=l.map UInt8.ofNat:=by
 unfold cI;rw[strOfNums_data,List.map_map];rfl
theorem jE(l m:List Nat):cI (l++m)=cI l++cI m:=by
 apply ByteArray.ext;apply Array.ext';rw[ByteArray.data_append,Array.toList_append,fX,fX,fX,List.map_append]
theorem ej(l:List Nat):(cI l).size=l.length:=by
 unfold cI;rw[strOfNums_size,List.length_map]
theorem FG(l:List Nat):iS (l.map Pv)=some (l.map λn:Nat=>(n:Int)):=by
 induction l with
 |nil=>rfl
 |cons n l ih=>simp only[List.map_cons,Pv,iS];rw[ih]
theorem Sx{t:Nat}{l:List Nat}:Dk (some (.sl t 1 (l.map Pv)))=some [.sc (.string (cI l))]:=MP (FG l)
theorem vC{s:ByteArray}{i:Nat}(h:i<s.size):s.extract i (i+1)=cI [ah s i]:=by
 apply ByteArray.ext;apply Array.ext';rw[fX,ByteArray.data_extract];have hd:i<s.data.size:=h;have hb:ah s i=(s.data[i]).toNat:=by unfold ah;rw[getElem?_pos s i h];rfl
 rw[hb];apply List.ext_getElem
 ·simp;omega
 ·intro j h1 h2;simp at h1 h2;have:j=0:=by omega
  subst this;simp
def De(m:Nat):List Nat:=if h:m=0 then[]else De (m / 10)++[48+m % 10]
 termination_by m
 decreasing_by omega
theorem wg:De 0=[]:=by rw[De];simp
theorem Fo{m:Nat}(h:m≠0):De m=De (m / 10)++[48+m % 10]:=by rw[De,dif_neg h]
theorem Mh(k:Nat):∀m,m<10^k->(De m).length<=k:=by
 induction k with
 |zero=>intro m h;have:m=0:=by simpa using h
        subst this;rw[wg];exact Nat.zero_le _
 |succ k ih=>
  intro m h;by_cases h0:m=0
  ·subst h0;rw[wg];exact Nat.zero_le _
  ·rw[Fo h0,List.length_append,List.length_singleton];have:=ih (m / 10) (by rw[Nat.pow_succ]at h;omega);omega
theorem yG{m:Nat}(h:m<=9223372036854775808):(De m).length<=19:=Mh 19 m (Nat.lt_of_le_of_lt h (by decide))
def oC(n:Int):List Nat:=if n=0 then[48]else if n<0 then 45::De n.natAbs else De n.natAbs
def eQ(n:Int):ByteArray:=cI (oC n)
theorem Ba{n:Int}(h:zA n):(oC n).length<=20:=by
 have h2:n.natAbs<=9223372036854775808:=by unfold zA at h;omega
 have:=yG h2;unfold oC;split
 ·simp
 ·split
  ·simp;omega
  ·omega
theorem Pn{x:Int}:(x.tdiv 10).natAbs=x.natAbs / 10:=by rw[Int.natAbs_tdiv];rfl
theorem Oo{x:Int}:(x.tmod 10).natAbs=x.natAbs % 10:=by rw[Int.natAbs_tmod];rfl
def NB:ByteArray:=⟨#[48,49,50,51,52,53,54,55,56,57]⟩
theorem LT{d:Nat}(h:d<10):NB.extract d (d+1)=cI [48+d]:=by
 have hs:d<NB.size:=h;rw[vC hs];have:∀k:Fin 10,ah NB k.val=48+k.val:=by decide
 rw[this ⟨d,h⟩]
set_option maxHeartbeats 1000000 in
theorem gQ(n:Int)(hn:zA n):aW Try.prog 37 [(false,[.sc (.int .i64 n)])] [(false,[.sc (.string (eQ n))],true)]:=by
 have hn': -9223372036854775808<=n/\n<=9223372036854775807:=hn;have hlen:=yG (m:=n.natAbs) (by omega);refine ax Try.func37 pq rfl ?_;simp only[iY];simp(disch:=first|omega|(simp only[ak];omega)|simp only[al,Nat.reduceAdd]) only[go_sem,true_and];refine lp (λs:Int×List Nat=>[.sc (.int .i64 s.1),.sc (.string (cI s.2))]) (λs=>s.1.natAbs<=9223372036854775808/\-9223372036854775808<=s.1/\s.1<=9223372036854775807/\De s.1.natAbs++s.2=De n.natAbs) (λs=>s.1.natAbs) (n,[]) rfl ⟨by simp only;omega,by simp only;omega,by simp only;omega,by simp⟩ ?_;rintro⟨x,acc⟩ ⟨g1,g2,g3,g4⟩;simp only at g1 g2 g3 g4 ⊢;simp only[gp];by_cases hx:x=0
 ·subst hx;rw[Int.natAbs_zero,wg,List.nil_append]at g4;have hsz:=ej acc;rw[g4]at hsz ⊢
  have e1:(⟨#[45]⟩:ByteArray).size+(cI (De n.natAbs)).size<=maxLen:=by
   have e:(⟨#[45]⟩:ByteArray).size=1:=rfl;unfold maxLen;omega
  repeat' (first|(with_reducible first|refine am ?_|refine aj (by assumption) rfl ?_|refine ap (λhbr=>?_) λhbr=>?_)|simp(disch:=first|omega|(simp only[ak];omega)|simp only[al,Nat.reduceAdd]) only[go_sem,bD e1])
  ·exact Jz (by unfold eQ oC;rw[if_pos ‹n=0›];rfl)
  ·refine Jz ?_;unfold eQ oC;rw[if_neg ‹¬n=0›,if_pos ‹n<0›];exact jE [45] _
  ·refine Jz ?_;unfold eQ oC;rw[if_neg ‹¬n=0›,if_neg ‹¬n<0›]
 ·have hd:=Fo (m:=x.natAbs) (by omega);have a1:=@Pn x;have a2:=@Oo x;have a3:x.tmod 10<10/\-10<x.tmod 10:=by omega
  have hl2:acc.length<=19:=by
   have:=congrArg List.length g4;rw[List.length_append]at this;omega
  have hsz:=ej acc;have hm10:x.natAbs % 10<10:=Nat.mod_lt _ (by decide);have hdg:=LT hm10;have e0:(cI [48+x.natAbs % 10]).size=1:=by rw[ej];rfl
  have e1:(cI [48+x.natAbs % 10]).size+(cI acc).size<=maxLen:=by unfold maxLen;omega
  have happ:cI [48+x.natAbs % 10]++cI acc=cI ((48+x.natAbs % 10)::acc):=(jE [48+x.natAbs % 10] acc).symm;have hne:¬(10:Int)=0:=by decide
  have hfin:∀y:Int,y=x.tdiv 10->(∃a':Int×List Nat,[DV.sc (.int .i64 y),.sc (.string (cI ((48+x.natAbs % 10)::acc)))]=[.sc (.int .i64 a'.1),.sc (.string (cI a'.2))]/\(a'.1.natAbs<=9223372036854775808/\-9223372036854775808<=a'.1/\a'.1<=9223372036854775807/\De a'.1.natAbs++a'.2=De n.natAbs)/\a'.1.natAbs<x.natAbs):=by
   rintro y rfl;refine⟨(x.tdiv 10,(48+x.natAbs % 10)::acc),rfl,⟨by simp only;omega,by simp only;omega,by simp only;omega,?_⟩,by simp only;omega⟩;rw[<-g4,hd,a1];simp
  generalize hdd:x.natAbs % 10=d at *;by_cases hneg:x.tmod 10<0
  ·have t1:x.tmod 10= -(d:Int):=by omega
   have c1:(0:Int) - -(d:Int)=(d:Int):=by omega
   have dD:lr (some (.sc (.string ⟨#[48,49,50,51,52,53,54,55,56,57]⟩))) (some (some (d:Int))) (some (some ((d+1:Nat):Int)))=some [.sc (.string (cI [48+d]))]:=by
    rw[F9 (by omega) (by omega) (by show((d+1:Nat):Int)<=((10:Nat):Int);omega)];exact congrArg (λz=>some [DV.sc (.string z)]) hdg
   repeat' (first|(with_reducible first|refine am ?_|refine aj (by assumption) rfl ?_|refine ap (λhbr=>?_) λhbr=>?_)|simp(disch:=first|omega|(simp only[ak];omega)|simp only[al,Nat.reduceAdd]) only[go_sem,t1,c1,dD,bD e1,happ,d6])
   all_goals first|omega|exact hfin _ rfl
  ·have t1:x.tmod 10=(d:Int):=by omega
   have dD:lr (some (.sc (.string ⟨#[48,49,50,51,52,53,54,55,56,57]⟩))) (some (some (d:Int))) (some (some ((d+1:Nat):Int)))=some [.sc (.string (cI [48+d]))]:=by
    rw[F9 (by omega) (by omega) (by show((d+1:Nat):Int)<=((10:Nat):Int);omega)];exact congrArg (λz=>some [DV.sc (.string z)]) hdg
   repeat' (first|(with_reducible first|refine am ?_|refine aj (by assumption) rfl ?_|refine ap (λhbr=>?_) λhbr=>?_)|simp(disch:=first|omega|(simp only[ak];omega)|simp only[al,Nat.reduceAdd]) only[go_sem,t1,dD,bD e1,happ,d6])
   all_goals first|omega|exact hfin _ rfl
theorem jp(a:Array UInt8):(ByteArray.mk a).size=a.size:=rfl
theorem aX:maxLen=9223372036854775807:=rfl
def Uk:List ByteArray:=[⟨#[120]⟩,⟨#[121]⟩,⟨#[110]⟩,⟨#[120]⟩,⟨#[117,112]⟩,⟨#[103]⟩]
theorem QU:∀x∈Uk,x.size<=20:=by decide
def T5:List ByteArray:=[⟨#[84,82,85,69]⟩,⟨#[78,65]⟩,⟨#[78,85,76,76]⟩,⟨#[34,97,34]⟩,⟨#[99,40,97,32,61,32,49,44,32,98,32,61,32,50,41]⟩,⟨#[78,65,95,110,117,109,98,101,114,95]⟩,⟨#[108,105,115,116,40,49,44,32,98,32,61,32,34,117,34,41]⟩,⟨#[49,58,51]⟩,⟨#[70,65,76,83,69]⟩,⟨#[99,40,51,44,32,49,41]⟩]
theorem Rq:∀x∈T5,x.size<=20:=by decide
def Ui:List ByteArray:=[⟨#[32,43,32]⟩,⟨#[32,45,32]⟩,⟨#[32,42,32]⟩,⟨#[32,47,32]⟩,⟨#[32,94,32]⟩,⟨#[32,37,37,32]⟩,⟨#[32,61,61,32]⟩,⟨#[32,60,32]⟩,⟨#[32,38,32]⟩,⟨#[32,124,124,32]⟩,⟨#[58]⟩,⟨#[32,38,38,32]⟩,⟨#[32,37,47,37,32]⟩,⟨#[32,126,32]⟩]
theorem Qn:∀x∈Ui,x.size<=20:=by decide
def T8:List ByteArray:=[⟨#[115,117,109]⟩,⟨#[108,101,110,103,116,104]⟩,⟨#[102]⟩,⟨#[114,101,118]⟩,⟨#[112,114,105,110,116]⟩,⟨#[110,97,109,101,115]⟩,⟨#[105,115,46,110,97]⟩,⟨#[108,105,115,116]⟩,⟨#[97,110,121]⟩,⟨#[107]⟩,⟨#[99,108,97,115,115]⟩]
theorem Q7:∀x∈T8,x.size<=20:=by decide
def Ug:List ByteArray:=[⟨#[120,91]⟩,⟨#[121,91]⟩,⟨#[99,40,52,44,32,53,44,32,54,41,91]⟩]
theorem RS:∀x∈Ug,x.size<=20:=by decide
def T6:List ByteArray:=[⟨#[40,45]⟩,⟨#[40,33]⟩]
theorem QL:∀x∈T6,x.size<=20:=by decide
def bT:Nat->Nat
 |0=>60
 |d+1=>3*bT d+60
theorem Sg:∀d,d<=4->bT d<=8000:=by decide
theorem DN{n:Int}(h:zA n):(eQ n).size<=20:=by
 unfold eQ;rw[ej];exact Ba h
set_option maxHeartbeats 16000000 in
theorem Jy(l:List Int)(hl:l.length<=1048576)(d:Nat)(hd:d<=4)(hrec:1<=d->∀(c:Cu),0<=c.i->∃a:ByteArray×Cu,(a.1.size<=bT (d-1)/\0<=a.2.i)/\cr Try.prog 30 45 (bw l) c.cs [(false,[.sc (.int .i64 (d-1:Nat))])] [(false,[.sc (.string a.1)],true)] a.2.cs)(c:Cu)(hc:0<=c.i):
 ∃a:ByteArray×Cu,(a.1.size<=bT d/\0<=a.2.i)/\cr Try.prog 30 45 (bw l) c.cs [(false,[.sc (.int .i64 d)])] [(false,[.sc (.string a.1)],true)] a.2.cs:=by
 have hB:=Sg d hd;have hB0:60<=bT d:=by cases d<;>simp[bT]
 have fm:∀n:Int,0<=n/\n<7->aW Try.prog 37 [(false,[.sc (.int .i64 n)])] [(false,[.sc (.string (eQ n))],true)]/\(eQ n).size<=20:=λn hn=>⟨gQ n (by unfold zA;omega),DN (by unfold zA;omega)⟩
 refine fB Try.func30 tW rfl (by intro a;simp) (by kernel_rfl) ?_;simp only[lh];simp(disch:=first|omega|(simp only[ak];omega)|simp only[al,Nat.reduceAdd]) only[go_sem,true_and];obtain⟨k0,c1,hk0,h1,hcb⟩:=gc l c 12 (by first|assumption|omega) (by omega) (by omega) (by omega);refine aR hcb rfl ?_;clear hcb;simp(disch:=first|omega|(simp only[ak];omega)|simp only[al,Nat.reduceAdd]) only[go_sem,true_and];refine jn (λvs=>∃k:Int,(0<=k/\k<12/\(d=0->k<5))/\vs=[.sc (.int .i64 k)]) ?_ ?_
 ·refine ap (λh0=>?_) (λh0=>?_)
  ·simp(disch:=first|omega|(simp only[ak];omega)|simp only[al,Nat.reduceAdd]) only[go_sem,true_and];have m1:=Int.tmod_nonneg 5 hk0.1;have m2:=Int.tmod_lt_of_pos k0 (show(0:Int)<5 by decide);exact⟨_,⟨by omega,by omega,by omega⟩,rfl⟩
  ·simp(disch:=first|omega|(simp only[ak];omega)|simp only[al,Nat.reduceAdd]) only[go_sem,true_and];exact⟨k0,⟨by omega,by omega,by omega⟩,rfl⟩
 rintro vs - ⟨k,⟨q1,q2,q3⟩,rfl⟩;simp only[j7];simp(disch:=first|omega|(simp only[ak];omega)|simp only[al,Nat.reduceAdd]) only[go_sem,true_and];refine ap (λh0=>?_) (λh0=>?_)
 ·simp(disch:=first|omega|(simp only[ak];omega)|simp only[al,Nat.reduceAdd]) only[go_sem,true_and];obtain⟨n,c2,hn,h2,hcb⟩:=gc l c1 7 (by first|assumption|omega) (by omega) (by omega) (by omega);refine aR hcb rfl ?_;clear hcb;simp(disch:=first|omega|(simp only[ak];omega)|simp only[al,Nat.reduceAdd]) only[go_sem,true_and];obtain⟨f1,f2⟩:=fm n hn;refine aj f1 rfl ?_;simp(disch:=first|omega|(simp only[ak];omega)|simp only[al,Nat.reduceAdd]) only[go_sem,true_and];exact⟨(eQ n,c2),⟨by simp only;omega,h2⟩,_,_,rfl,rfl⟩
 simp(disch:=first|omega|(simp only[ak];omega)|simp only[al,Nat.reduceAdd]) only[go_sem,true_and];refine ap (λh0=>?_) (λh0=>?_)
 ·simp(disch:=first|omega|(simp only[ak];omega)|simp only[al,Nat.reduceAdd]) only[go_sem,true_and];obtain⟨n,c2,hn,h2,hcb⟩:=gc l c1 7 (by first|assumption|omega) (by omega) (by omega) (by omega);refine aR hcb rfl ?_;clear hcb;simp(disch:=first|omega|(simp only[ak];omega)|simp only[al,Nat.reduceAdd]) only[go_sem,true_and];obtain⟨f1,f2⟩:=fm n hn;refine aj f1 rfl ?_;simp(disch:=first|omega|(simp only[ak];omega)|simp only[al,Nat.reduceAdd]) only[go_sem,true_and];exact⟨(eQ n,c2),⟨by simp only;omega,h2⟩,_,_,rfl,rfl⟩
 simp(disch:=first|omega|(simp only[ak];omega)|simp only[al,Nat.reduceAdd]) only[go_sem,true_and];refine ap (λh0=>?_) (λh0=>?_)
 ·simp(disch:=first|omega|(simp only[ak];omega)|simp only[al,Nat.reduceAdd]) only[go_sem,true_and];obtain⟨x,c2,hx,h2,hcb⟩:=uk 9 l c1 Uk h1 hl (by decide) (by decide);have hx:=QU x hx;refine aR hcb rfl ?_;clear hcb;simp(disch:=first|omega|(simp only[ak];omega)|simp only[al,Nat.reduceAdd]|(simp only[ByteArray.size_append,jp,List.size_toArray,List.length_cons,List.length_nil,Nat.zero_add,Nat.reduceAdd,aX];omega)) only[go_sem,bD,true_and];exact⟨(x,c2),⟨by simp only;omega,h2⟩,_,_,rfl,rfl⟩
 simp(disch:=first|omega|(simp only[ak];omega)|simp only[al,Nat.reduceAdd]) only[go_sem,true_and];refine ap (λh0=>?_) (λh0=>?_)
 ·simp(disch:=first|omega|(simp only[ak];omega)|simp only[al,Nat.reduceAdd]) only[go_sem,true_and];obtain⟨x,c2,hx,h2,hcb⟩:=uk 9 l c1 T5 h1 hl (by decide) (by decide);have hx:=Rq x hx;refine aR hcb rfl ?_;clear hcb;simp(disch:=first|omega|(simp only[ak];omega)|simp only[al,Nat.reduceAdd]|(simp only[ByteArray.size_append,jp,List.size_toArray,List.length_cons,List.length_nil,Nat.zero_add,Nat.reduceAdd,aX];omega)) only[go_sem,bD,true_and];exact⟨(x,c2),⟨by simp only;omega,h2⟩,_,_,rfl,rfl⟩
 simp(disch:=first|omega|(simp only[ak];omega)|simp only[al,Nat.reduceAdd]) only[go_sem,true_and];refine ap (λh0=>?_) (λh0=>?_)
 ·simp(disch:=first|omega|(simp only[ak];omega)|simp only[al,Nat.reduceAdd]) only[go_sem,true_and];obtain⟨n,c2,hn,h2,hcb⟩:=gc l c1 5 (by first|assumption|omega) (by omega) (by omega) (by omega);refine aR hcb rfl ?_;clear hcb;simp(disch:=first|omega|(simp only[ak];omega)|simp only[al,Nat.reduceAdd]) only[go_sem,true_and];obtain⟨f1,f2⟩:=fm n (by omega);refine aj f1 rfl ?_;simp(disch:=first|omega|(simp only[ak];omega)|simp only[al,Nat.reduceAdd]|(simp only[ByteArray.size_append,jp,List.size_toArray,List.length_cons,List.length_nil,Nat.zero_add,Nat.reduceAdd,aX];omega)) only[go_sem,bD,true_and];obtain⟨n2,c3,hn2,h3,hcb⟩:=gc l c2 5 (by first|assumption|omega) (by omega) (by omega) (by omega);refine aR hcb rfl ?_;clear hcb;simp(disch:=first|omega|(simp only[ak];omega)|simp only[al,Nat.reduceAdd]) only[go_sem,true_and];obtain⟨f3,f4⟩:=fm n2 (by omega);refine aj f3 rfl ?_;simp(disch:=first|omega|(simp only[ak];omega)|simp only[al,Nat.reduceAdd]|(simp only[ByteArray.size_append,jp,List.size_toArray,List.length_cons,List.length_nil,Nat.zero_add,Nat.reduceAdd,aX];omega)) only[go_sem,bD,true_and];refine⟨(_,c3),⟨?_,h3⟩,_,_,rfl,rfl⟩;simp only[ByteArray.size_append,jp,List.size_toArray,List.length_cons,List.length_nil];omega
 have hd1:1<=d:=by omega
 have hBd:bT d=3*bT (d-1)+60:=by cases d<;>first|omega|rfl
 have Ed:(d:Int)-1=((d-1:Nat):Int):=by omega
 simp(disch:=first|omega|(simp only[ak];omega)|simp only[al,Nat.reduceAdd]) only[go_sem,true_and];refine jn (λvs=>∃b:Bool,vs=[.sc (.bool b)]) ?_ ?_
 ·repeat' (first|(with_reducible first|refine am ?_|refine aj (by assumption) rfl ?_|refine ap (λhbr=>?_) λhbr=>?_)|simp(disch:=first|omega|(simp only[ak];omega)|simp only[al,Nat.reduceAdd]) only[go_sem,true_and])
  all_goals exact⟨_,rfl⟩
 rintro vs - ⟨b,rfl⟩;simp only[jD];cases b;rotate_left
 ·simp(disch:=first|omega|(simp only[ak];omega)|simp only[al,Nat.reduceAdd]|(simp only[ByteArray.size_append,jp,List.size_toArray,List.length_cons,List.length_nil,Nat.zero_add,Nat.reduceAdd,aX];omega)) only[go_sem,bD,Ed];obtain⟨⟨s1,c2⟩,⟨z1,h2⟩,hcb⟩:=hrec hd1 c1 h1;simp only at z1 h2 hcb;refine aR hcb rfl ?_;clear hcb;simp(disch:=first|omega|(simp only[ak];omega)|simp only[al,Nat.reduceAdd]|(simp only[ByteArray.size_append,jp,List.size_toArray,List.length_cons,List.length_nil,Nat.zero_add,Nat.reduceAdd,aX];omega)) only[go_sem,bD,Ed];obtain⟨x,c3,hx,h3,hcb⟩:=uk 9 l c2 Ui h2 hl (by decide) (by decide);have hx:=Qn x hx;refine aR hcb rfl ?_;clear hcb;simp(disch:=first|omega|(simp only[ak];omega)|simp only[al,Nat.reduceAdd]|(simp only[ByteArray.size_append,jp,List.size_toArray,List.length_cons,List.length_nil,Nat.zero_add,Nat.reduceAdd,aX];omega)) only[go_sem,bD,true_and];simp(disch:=first|omega|(simp only[ak];omega)|simp only[al,Nat.reduceAdd]|(simp only[ByteArray.size_append,jp,List.size_toArray,List.length_cons,List.length_nil,Nat.zero_add,Nat.reduceAdd,aX];omega)) only[go_sem,bD,Ed];obtain⟨⟨s2,c4⟩,⟨z2,h4⟩,hcb⟩:=hrec hd1 c3 h3;simp only at z2 h4 hcb;refine aR hcb rfl ?_;clear hcb;simp(disch:=first|omega|(simp only[ak];omega)|simp only[al,Nat.reduceAdd]|(simp only[ByteArray.size_append,jp,List.size_toArray,List.length_cons,List.length_nil,Nat.zero_add,Nat.reduceAdd,aX];omega)) only[go_sem,bD,Ed];refine⟨(_,c4),⟨?_,h4⟩,_,_,rfl,rfl⟩;simp only[ByteArray.size_append,jp,List.size_toArray,List.length_cons,List.length_nil];omega
 simp(disch:=first|omega|(simp only[ak];omega)|simp only[al,Nat.reduceAdd]|(simp only[ByteArray.size_append,jp,List.size_toArray,List.length_cons,List.length_nil,Nat.zero_add,Nat.reduceAdd,aX];omega)) only[go_sem,bD,Ed];refine ap (λh0=>?_) (λh0=>?_)
 ·simp(disch:=first|omega|(simp only[ak];omega)|simp only[al,Nat.reduceAdd]|(simp only[ByteArray.size_append,jp,List.size_toArray,List.length_cons,List.length_nil,Nat.zero_add,Nat.reduceAdd,aX];omega)) only[go_sem,bD,Ed];obtain⟨x,c2,hx,h2,hcb⟩:=uk 9 l c1 T8 h1 hl (by decide) (by decide);have hx:=Q7 x hx;refine aR hcb rfl ?_;clear hcb;simp(disch:=first|omega|(simp only[ak];omega)|simp only[al,Nat.reduceAdd]|(simp only[ByteArray.size_append,jp,List.size_toArray,List.length_cons,List.length_nil,Nat.zero_add,Nat.reduceAdd,aX];omega)) only[go_sem,bD,true_and];simp(disch:=first|omega|(simp only[ak];omega)|simp only[al,Nat.reduceAdd]|(simp only[ByteArray.size_append,jp,List.size_toArray,List.length_cons,List.length_nil,Nat.zero_add,Nat.reduceAdd,aX];omega)) only[go_sem,bD,Ed];obtain⟨⟨s2,c4⟩,⟨z2,h4⟩,hcb⟩:=hrec hd1 c2 h2;simp only at z2 h4 hcb;refine aR hcb rfl ?_;clear hcb;simp(disch:=first|omega|(simp only[ak];omega)|simp only[al,Nat.reduceAdd]|(simp only[ByteArray.size_append,jp,List.size_toArray,List.length_cons,List.length_nil,Nat.zero_add,Nat.reduceAdd,aX];omega)) only[go_sem,bD,Ed];refine⟨(_,c4),⟨?_,h4⟩,_,_,rfl,rfl⟩;simp only[ByteArray.size_append,jp,List.size_toArray,List.length_cons,List.length_nil];omega
 simp(disch:=first|omega|(simp only[ak];omega)|simp only[al,Nat.reduceAdd]|(simp only[ByteArray.size_append,jp,List.size_toArray,List.length_cons,List.length_nil,Nat.zero_add,Nat.reduceAdd,aX];omega)) only[go_sem,bD,Ed];refine ap (λh0=>?_) (λh0=>?_)
 ·simp(disch:=first|omega|(simp only[ak];omega)|simp only[al,Nat.reduceAdd]|(simp only[ByteArray.size_append,jp,List.size_toArray,List.length_cons,List.length_nil,Nat.zero_add,Nat.reduceAdd,aX];omega)) only[go_sem,bD,Ed];obtain⟨x,c2,hx,h2,hcb⟩:=uk 9 l c1 Ug h1 hl (by decide) (by decide);have hx:=RS x hx;refine aR hcb rfl ?_;clear hcb;simp(disch:=first|omega|(simp only[ak];omega)|simp only[al,Nat.reduceAdd]|(simp only[ByteArray.size_append,jp,List.size_toArray,List.length_cons,List.length_nil,Nat.zero_add,Nat.reduceAdd,aX];omega)) only[go_sem,bD,true_and];simp(disch:=first|omega|(simp only[ak];omega)|simp only[al,Nat.reduceAdd]|(simp only[ByteArray.size_append,jp,List.size_toArray,List.length_cons,List.length_nil,Nat.zero_add,Nat.reduceAdd,aX];omega)) only[go_sem,bD,Ed];obtain⟨⟨s2,c4⟩,⟨z2,h4⟩,hcb⟩:=hrec hd1 c2 h2;simp only at z2 h4 hcb;refine aR hcb rfl ?_;clear hcb;simp(disch:=first|omega|(simp only[ak];omega)|simp only[al,Nat.reduceAdd]|(simp only[ByteArray.size_append,jp,List.size_toArray,List.length_cons,List.length_nil,Nat.zero_add,Nat.reduceAdd,aX];omega)) only[go_sem,bD,Ed];refine⟨(_,c4),⟨?_,h4⟩,_,_,rfl,rfl⟩;simp only[ByteArray.size_append,jp,List.size_toArray,List.length_cons,List.length_nil];omega
 simp(disch:=first|omega|(simp only[ak];omega)|simp only[al,Nat.reduceAdd]|(simp only[ByteArray.size_append,jp,List.size_toArray,List.length_cons,List.length_nil,Nat.zero_add,Nat.reduceAdd,aX];omega)) only[go_sem,bD,Ed];refine ap (λh0=>?_) (λh0=>?_)
 ·simp(disch:=first|omega|(simp only[ak];omega)|simp only[al,Nat.reduceAdd]|(simp only[ByteArray.size_append,jp,List.size_toArray,List.length_cons,List.length_nil,Nat.zero_add,Nat.reduceAdd,aX];omega)) only[go_sem,bD,Ed];obtain⟨x,c2,hx,h2,hcb⟩:=uk 9 l c1 T6 h1 hl (by decide) (by decide);have hx:=QL x hx;refine aR hcb rfl ?_;clear hcb;simp(disch:=first|omega|(simp only[ak];omega)|simp only[al,Nat.reduceAdd]|(simp only[ByteArray.size_append,jp,List.size_toArray,List.length_cons,List.length_nil,Nat.zero_add,Nat.reduceAdd,aX];omega)) only[go_sem,bD,true_and];simp(disch:=first|omega|(simp only[ak];omega)|simp only[al,Nat.reduceAdd]|(simp only[ByteArray.size_append,jp,List.size_toArray,List.length_cons,List.length_nil,Nat.zero_add,Nat.reduceAdd,aX];omega)) only[go_sem,bD,Ed];obtain⟨⟨s2,c4⟩,⟨z2,h4⟩,hcb⟩:=hrec hd1 c2 h2;simp only at z2 h4 hcb;refine aR hcb rfl ?_;clear hcb;simp(disch:=first|omega|(simp only[ak];omega)|simp only[al,Nat.reduceAdd]|(simp only[ByteArray.size_append,jp,List.size_toArray,List.length_cons,List.length_nil,Nat.zero_add,Nat.reduceAdd,aX];omega)) only[go_sem,bD,Ed];refine⟨(_,c4),⟨?_,h4⟩,_,_,rfl,rfl⟩;simp only[ByteArray.size_append,jp,List.size_toArray,List.length_cons,List.length_nil];omega
 simp(disch:=first|omega|(simp only[ak];omega)|simp only[al,Nat.reduceAdd]|(simp only[ByteArray.size_append,jp,List.size_toArray,List.length_cons,List.length_nil,Nat.zero_add,Nat.reduceAdd,aX];omega)) only[go_sem,bD,Ed];refine ap (λh0=>?_) (λh0=>?_)
 ·simp(disch:=first|omega|(simp only[ak];omega)|simp only[al,Nat.reduceAdd]|(simp only[ByteArray.size_append,jp,List.size_toArray,List.length_cons,List.length_nil,Nat.zero_add,Nat.reduceAdd,aX];omega)) only[go_sem,bD,Ed];obtain⟨⟨s1,c2⟩,⟨z1,h2⟩,hcb⟩:=hrec hd1 c1 h1;simp only at z1 h2 hcb;refine aR hcb rfl ?_;clear hcb;simp(disch:=first|omega|(simp only[ak];omega)|simp only[al,Nat.reduceAdd]|(simp only[ByteArray.size_append,jp,List.size_toArray,List.length_cons,List.length_nil,Nat.zero_add,Nat.reduceAdd,aX];omega)) only[go_sem,bD,Ed];obtain⟨⟨s2,c3⟩,⟨z2,h3⟩,hcb⟩:=hrec hd1 c2 h2;simp only at z2 h3 hcb;refine aR hcb rfl ?_;clear hcb;simp(disch:=first|omega|(simp only[ak];omega)|simp only[al,Nat.reduceAdd]|(simp only[ByteArray.size_append,jp,List.size_toArray,List.length_cons,List.length_nil,Nat.zero_add,Nat.reduceAdd,aX];omega)) only[go_sem,bD,Ed];obtain⟨⟨s3,c4⟩,⟨z3,h4⟩,hcb⟩:=hrec hd1 c3 h3;simp only at z3 h4 hcb;refine aR hcb rfl ?_;clear hcb;simp(disch:=first|omega|(simp only[ak];omega)|simp only[al,Nat.reduceAdd]|(simp only[ByteArray.size_append,jp,List.size_toArray,List.length_cons,List.length_nil,Nat.zero_add,Nat.reduceAdd,aX];omega)) only[go_sem,bD,Ed];refine⟨(_,c4),⟨?_,h4⟩,_,_,rfl,rfl⟩;simp only[ByteArray.size_append,jp,List.size_toArray,List.length_cons,List.length_nil];omega
 ·simp(disch:=first|omega|(simp only[ak];omega)|simp only[al,Nat.reduceAdd]|(simp only[ByteArray.size_append,jp,List.size_toArray,List.length_cons,List.length_nil,Nat.zero_add,Nat.reduceAdd,aX];omega)) only[go_sem,bD,Ed];obtain⟨⟨s1,c2⟩,⟨z1,h2⟩,hcb⟩:=hrec hd1 c1 h1;simp only at z1 h2 hcb;refine aR hcb rfl ?_;clear hcb;simp(disch:=first|omega|(simp only[ak];omega)|simp only[al,Nat.reduceAdd]|(simp only[ByteArray.size_append,jp,List.size_toArray,List.length_cons,List.length_nil,Nat.zero_add,Nat.reduceAdd,aX];omega)) only[go_sem,bD,Ed];refine⟨(_,c2),⟨?_,h2⟩,_,_,rfl,rfl⟩;simp only[ByteArray.size_append,jp,List.size_toArray,List.length_cons,List.length_nil];omega
theorem DP(l:List Int)(hl:l.length<=1048576):∀(d:Nat),d<=4->∀(c:Cu),0<=c.i->∃a:ByteArray×Cu,(a.1.size<=bT d/\0<=a.2.i)/\cr Try.prog 30 45 (bw l) c.cs [(false,[.sc (.int .i64 d)])] [(false,[.sc (.string a.1)],true)] a.2.cs:=by
 intro d
 induction d with
 |zero=>exact λhd c hc=>Jy l hl 0 hd (λh=>absurd h (by decide)) c hc
 |succ d ih=>exact λhd c hc=>Jy l hl (d+1) hd (λ_=>ih (by omega)) c hc
def kj:List aY:=[]
def ku:List (Nat×Nat×Bool×List Nat):=[]
def ec:UP:=.f<|.cl 31 [(false,[1])] [(false,[some (37,5)],true),(false,[none],true),(false,[none],true)]<|.i 0<|.b .neq 2 0<|.ite 0 (.t<|.po (.mk 37 5 [])<|.f<|.c 0<|.ret [(false,[1]),(false,[0])])<|.l 4<|.i 1<|.b .sub 1 0<|.z 0<|.po (.chk 5 7 0)<|.x 5 7 0<|.i 1<|.b .neq 1 0<|.ite 0 (.po (.mk 37 5 [])<|.f<|.c 0<|.ret [(false,[1]),(false,[0])])<|.l 14<|.i 1<|.b .sub 1 0<|.po (.cutI 17 none (some 0))<|.t<|.po (.cutP 20 2 1)<|.c 1<|.ret [(false,[0]),(false,[1])]
theorem kl:bk Try.prog 29 Try.f29 di kj ku=some ([(false,1)],ec):=by kernel_rfl
def mR:List aY:=[]
def mK:List (Nat×Nat×Bool×List Nat):=[(7,8,false,[])]
def dG:UP:=.i 0<|.i 0<|.cl 38 [(false,[2])] [(false,[some (77,2)],true),(false,[none],true)]<|.i 0<|.b .geq 1 0<|.ite 0 (.po (.mk 37 5 [])<|.i 1<|.c 0<|.c 4<|.ret [(false,[1]),(false,[0]),(false,[4])])<|.i 0<|.f<|.po (.e 37 5)<|.f<|.sel [0,1,2,3,7]<|.cl 1004228000039 [(true,[4,3,1,2]),(false,[0])] cc<|.ite 1 (.c 3<|.i 2<|.c 0<|.c 4<|.po (.mk 37 5 [])<|.c 1<|.c 5<|.ret [(false,[0]),(false,[1]),(false,[5])])<|.i 0<|.s #[]<|.sel [0,1,2,3,4,5,6]<|.cl 1004228000040 [(true,[6,5,4,3]),(false,[1]),(false,[0]),(false,[2])] aZ<|.l 1<|.i 200<|.b .gtr 1 0<|.ite 0 (.po (.mk 37 5 [])<|.i 3<|.i 0<|.c 1<|.c 0<|.ret [(false,[2]),(false,[1]),(false,[0])])<|.sel [4]<|.cl 20 [(false,[0])] qY<|.i 0<|.i 0<|.c 1<|.c 0<|.ret [(false,[2]),(false,[1]),(false,[0])]
theorem ft:bk Try.prog 31 Try.f31 di mR mK=some ([(false,1)],dG):=by kernel_rfl
def l3:List aY:=[⟨1000008,9,⟨[aa 70 39,bh 10 2 2 0,aa 65 27,aa 9 23,aa 8 22,aa 7 21,bh 6 1 1 0,aa 37 16,aa 5 11,aa 4 5,bh 0 0 0 0,aa 1 4],[(0,.pvr 0 66 [.d 40,.d 41,.own 3 3,.d 42]),(3,.shr 3 37 5 43),(1,.var 1 77 [.d 17,.d 18]),(2,.var 2 37 [.d 44,.d 45,.d 46,.d 47,.d 48])],4,4,49,[(27,false),(26,false),(25,false),(16,true)]⟩,[⟨false,3,1003,9,0⟩]⟩,⟨2,1,⟨[aa 37 16,aa 5 11,aa 4 5,bh 0 0 0 0,aa 1 4],[(0,.pvr 0 66 [.d 12,.d 13,.own 1 1,.d 14]),(1,.shr 1 37 5 15)],2,2,17,[]⟩,[]⟩,⟨3000002,5,⟨[aa 5 11,aa 4 5,bh 0 0 0 0,aa 1 4],[(0,.pvr 0 66 [.d 12,.d 13,.own 1 1,.d 14]),(1,.shr 1 37 5 15)],2,2,16,[]⟩,[]⟩]
def mf:List (Nat×Nat×Bool×List Nat):=[(13,7,false,[0]),(3,11,false,[]),(2,17,false,[])]
def eG:UP:=.i 1<|.a 8 0<|.sel [0,2,3,4,5,6,7,8,10,15,16]<|.cl 1004228000056 [(true,[8,0,6,7]),(false,[9])] aZ<|.po (.mk 37 5 [[9,8,7,6,5]])<|.po (.mk 37 5 [[10,9,8,7,6]])<|.po (.app 37 5 64 3 0)<|.jump 0 [17,6,5,3,0]
def eJ:UP:=.ite 0 (.c 3<|.z 3<|.x 2 4 3<|.c 1<|.c 0<|.i 0<|.s #[]<|.cl 70 [(true,[3,2])] [(false,[none],true),(false,[none],true),(false,[none],true)]<|.i 0<|.e 3 0<|.ite 0 (.t<|.t<|.ret [(true,[15,14,12,13])])<|.b .lss 4 16<|.ite 0 (.t<|.ret [(true,[15,14,12,13])])<|.b .lss 15 4<|.ite 0 (.ret [(true,[15,14,12,13])])<|.i 0<|.i 0<|.s #[]<|.i 0<|.i 11<|.i 2<|.i 0<|.i 0<|.s #[]<|.i 0<|.i 1<|.e 17 0<|.sel [0,6,7,10,16,18,21,24,25,26,27,29]<|.join 9 eG<|.ite 0 (.sel [6,7,8,9,10,11]<|.cl 1004228000071 [(true,[4,3,1,2]),(false,[5]),(false,[0])] [(true,[some (77,2),none,some (37,5),none],true),(true,[none,none,none,some (9,1),none],true),(false,[none],true)]<|.i 0<|.i 0<|.s #[]<|.i 0<|.n 4<|.ite 0 (.ret [(true,[14,13,12,11])])<|.jump 1 [14,13,11,12,10,9,8,7,6])<|.po (.e 9 1)<|.jump 1 [11,10,9,8,3,4,7,0,2])<|.ret [(true,[4,3,1,2])]
def eH:UP:=.sel [0,1,2,3,4,10,11]<|.join 1 eJ<|.c 1<|.n 1<|.c 0<|.ite 0 (.c 3<|.l 4<|.c 0<|.b .lss 4 0<|.c 0<|.c 0<|.jump 1 [0])<|.f<|.c 0<|.jump 1 [0]
def eZ:UP:=.l 2<|.cl 1004228000069 [(true,[5,4,3,2]),(false,[1])] cc<|.sel [0,1,2,3,4,5,6]<|.loop [0,4,3,1,2] eH
theorem l5:d7 Try.prog 56 Try.f56 di l3 mf 66 4=some ([(false,1)],eZ):=by kernel_rfl
def pz:List aY:=[⟨1000016,1,⟨[aa 21 23,aa 18 20,aa 15 16,aa 13 12,aa 10 10,aa 9 1,aa 7 6,aa 4 4,aa 3 3,aa 2 2,bh 1 0 0 0,(0,.p true [.d 0,.d 1])],[(0,.var 0 77 [.d 0,.d 1])],1,1,24,[(20,false),(18,false),(16,false),(14,false),(12,false),(10,false),(8,false),(6,false)]⟩,[]⟩]
def qK:List (Nat×Nat×Bool×List Nat):=[]
def gu:UP:=.ite 0 (.i 6<|.i 7<|.i 7<|.c 2<|.c 1<|.c 0<|.ret [(false,[2]),(false,[1]),(false,[0])])<|.s #[43]<|.e 3 0<|.ite 0 (.i 7<|.i 7<|.i 8<|.c 2<|.c 1<|.c 0<|.ret [(false,[2]),(false,[1]),(false,[0])])<|.s #[45]<|.e 5 0<|.ite 0 (.i 7<|.i 7<|.i 8<|.c 2<|.c 1<|.c 0<|.ret [(false,[2]),(false,[1]),(false,[0])])<|.s #[42]<|.e 7 0<|.ite 0 (.i 8<|.i 8<|.i 9<|.c 2<|.c 1<|.c 0<|.ret [(false,[2]),(false,[1]),(false,[0])])<|.s #[47]<|.e 9 0<|.ite 0 (.i 8<|.i 8<|.i 9<|.c 2<|.c 1<|.c 0<|.ret [(false,[2]),(false,[1]),(false,[0])])<|.s #[37,37]<|.e 11 0<|.ite 0 (.i 9<|.i 9<|.i 10<|.c 2<|.c 1<|.c 0<|.ret [(false,[2]),(false,[1]),(false,[0])])<|.s #[37,47,37]<|.e 13 0<|.ite 0 (.i 9<|.i 9<|.i 10<|.c 2<|.c 1<|.c 0<|.ret [(false,[2]),(false,[1]),(false,[0])])<|.s #[58]<|.e 15 0<|.ite 0 (.i 10<|.i 10<|.i 11<|.c 2<|.c 1<|.c 0<|.ret [(false,[2]),(false,[1]),(false,[0])])<|.s #[94]<|.e 17 0<|.ite 0 (.i 12<|.i 13<|.i 11<|.c 2<|.c 1<|.c 0<|.ret [(false,[2]),(false,[1]),(false,[0])])<|.i 0<|.i 0<|.i 0<|.c 2<|.c 1<|.c 0<|.ret [(false,[2]),(false,[1]),(false,[0])]
def iq:UP:=.i 0<|.i 0<|.i 0<|.i 5<|.b .neq 5 0<|.ite 0 (.i 0<|.i 0<|.i 0<|.c 2<|.c 1<|.c 0<|.ret [(false,[2]),(false,[1]),(false,[0])])<|.s #[60,45]<|.e 6 0<|.ite 0 (.i 1<|.i 13<|.i 1<|.c 2<|.c 1<|.c 0<|.ret [(false,[2]),(false,[1]),(false,[0])])<|.s #[60,60,45]<|.e 8 0<|.ite 0 (.i 1<|.i 13<|.i 1<|.c 2<|.c 1<|.c 0<|.ret [(false,[2]),(false,[1]),(false,[0])])<|.s #[126]<|.e 10 0<|.ite 0 (.i 2<|.i 2<|.i 3<|.c 2<|.c 1<|.c 0<|.ret [(false,[2]),(false,[1]),(false,[0])])<|.s #[124]<|.e 12 0<|.ite 0 (.i 3<|.i 3<|.i 4<|.c 2<|.c 1<|.c 0<|.ret [(false,[2]),(false,[1]),(false,[0])])<|.s #[124,124]<|.e 14 0<|.ite 0 (.i 3<|.i 3<|.i 4<|.c 2<|.c 1<|.c 0<|.ret [(false,[2]),(false,[1]),(false,[0])])<|.s #[38]<|.e 16 0<|.ite 0 (.i 4<|.i 4<|.i 5<|.c 2<|.c 1<|.c 0<|.ret [(false,[2]),(false,[1]),(false,[0])])<|.s #[38,38]<|.e 18 0<|.ite 0 (.i 4<|.i 4<|.i 5<|.c 2<|.c 1<|.c 0<|.ret [(false,[2]),(false,[1]),(false,[0])])<|.s #[61,61]<|.e 20 0<|.sel [0,21]<|.join 1 gu<|.ite 0 (.jump 0 [0])<|.s #[33,61]<|.e 2 0<|.ite 0 (.jump 0 [0])<|.s #[60]<|.e 4 0<|.ite 0 (.jump 0 [0])<|.s #[60,61]<|.e 6 0<|.ite 0 (.jump 0 [0])<|.s #[62]<|.e 8 0<|.ite 0 (.jump 0 [0])<|.s #[62,61]<|.e 10 0<|.jump 0 [0]
theorem pw:bk Try.prog 70 Try.f70 di pz qK=some ([(true,2)],iq):=by kernel_rfl
def qz:List aY:=[⟨19,1,⟨[aa 123 49,aa 86 48,co 13 4 4,aa 12 41,aa 76 36,aa 33 25,bh 10 3 3 0,aa 9 12,(8,.p false [.sub 0 0 5 11 12]),aa 7 10,bh 6 2 2 0,bh 0 1 1 0,aa 1 4,aa 2 5],[(1,.pvr 1 66 [.d 0,.d 1,.own 0 0,.d 3]),(0,.shr 0 37 5 2),(2,.var 2 37 [.d 6,.d 7,.d 8,.nil,.d 9]),(3,.var 3 37 [.d 16,.d 17,.d 18,.d 19,.d 20]),(4,.row 4 3 1 47)],5,5,50,[(48,false),(36,false),(27,false),(25,false),(10,false)]⟩,[]⟩,⟨16,1,⟨[aa 86 48,co 13 4 4,aa 12 41,aa 76 36,aa 33 25,bh 10 3 3 0,aa 9 12,(8,.p false [.sub 0 0 5 11 12]),aa 7 10,bh 6 2 2 0,bh 0 1 1 0,aa 1 4,aa 2 5],[(1,.pvr 1 66 [.d 0,.d 1,.own 0 0,.d 3]),(0,.shr 0 37 5 2),(2,.var 2 37 [.d 6,.d 7,.d 8,.nil,.d 9]),(3,.var 3 37 [.d 16,.d 17,.d 18,.d 19,.d 20]),(4,.row 4 3 1 47)],5,5,49,[(36,false),(27,false),(25,false),(10,false)]⟩,[]⟩,⟨1000010,1,⟨[aa 50 36,aa 11 34,aa 47 33,aa 33 25,bh 10 3 2 0,aa 9 12,aa 7 10,bh 6 2 1 0,bh 0 1 0 0,aa 1 4,aa 2 5],[(1,.pvr 0 66 [.d 0,.d 1,.own 0 3,.d 3]),(0,.shr 3 37 5 37),(2,.var 1 37 [.d 6,.d 7,.d 8,.nil,.d 9]),(3,.var 2 37 [.d 16,.d 17,.d 18,.d 19,.d 20])],4,4,38,[(25,true),(10,false)]⟩,[⟨false,1,2,0,0⟩]⟩,⟨1000008,1,⟨[aa 11 34,aa 47 33,aa 33 25,bh 10 3 3 0,aa 9 12,(8,.p false [.sub 0 0 5 11 12]),aa 7 10,bh 6 2 2 0,bh 0 1 1 0,aa 1 4,aa 2 5],[(1,.pvr 1 66 [.d 0,.d 1,.sub 0 0 5 29 30,.d 3]),(0,.shr 0 37 5 2),(2,.var 2 37 [.d 6,.d 7,.d 8,.nil,.d 9]),(3,.var 3 37 [.d 16,.d 17,.d 18,.d 19,.d 20])],4,4,35,[(25,true),(10,false)]⟩,[]⟩,⟨4,1,⟨[aa 33 25,bh 10 3 3 0,aa 9 12,(8,.p false [.sub 0 0 5 11 12]),aa 7 10,bh 6 2 2 0,bh 0 1 1 0,aa 1 4,aa 2 5],[(1,.pvr 1 66 [.d 0,.d 1,.own 0 0,.d 3]),(0,.shr 0 37 5 2),(2,.var 2 37 [.d 6,.d 7,.d 8,.nil,.d 9]),(3,.var 3 37 [.d 16,.d 17,.d 18,.d 19,.d 20])],4,4,26,[(10,false)]⟩,[]⟩]
def ph:List (Nat×Nat×Bool×List Nat):=[(17,12,false,[1000000,0,1,2,3,4,5,6,7,9,10,11,12,8,13,14,15,16,1000000,0,8,9,10,11]),(11,7,false,[4,5,6]),(10,7,false,[0])]
def dY:UP:=.i 0<|.i 0<|.s #[]<|.i 0<|.i 1<|.i 7<|.e 18 0<|.c 19<|.po (.e 9 1)<|.ret [(true,[24,23,8,21]),(true,[11,6,18,0,3]),(false,[1])]
def gC:UP:=.i 7<|.b .neq 10 0<|.join 1 dY<|.ite 0 (.po (.mk 37 5 [[11,10,9,8,7]])<|.po (.cutP 14 7 6)<|.po (.mk 37 5 [[13,12,11,10,9]])<|.po (.app 37 5 64 1 0)<|.jump 0 [0])<|.po (.cutP 13 6 5)<|.jump 0 [0]
def gl:UP:=.ite 0 (.po (.cutI 11 none (some 9))<|.c 6<|.po (.mk 9 1 [[6]])<|.i 0<|.i 0<|.s #[]<|.i 0<|.i 26<|.i 1<|.t<|.po (.cutP 21 9 8)<|.ret [(true,[24,23,0,21]),(true,[3,6,12,8,2]),(false,[1])])<|.i 9<|.e 7 0<|.ite 0 (.i 3<|.e 10 0<|.ite 0 (.i 1<|.z 0<|.po (.atJ 13 12 0)<|.x 5 17 0<|.i 7<|.e 5 0<|.ite 0 (.i 0<|.z 0<|.x 1 17 0<|.s #[]<|.e 1 0<|.ite 0 (.s #[60,45]<|.a 19 0<|.sel [0,20,21,22,23,24,25,26,27,28,29,30,31,32]<|.cl 48 [(false,[0])] aP<|.ite 0 (.po (.cutI 12 none (some 10))<|.i 1<|.z 0<|.po (.atJ 12 11 0)<|.x 5 16 0<|.c 11<|.po (.mk 9 1 [[11]])<|.i 0<|.i 0<|.s #[]<|.i 0<|.i 27<|.i 1<|.t<|.po (.cutP 29 16 15)<|.ret [(true,[32,31,0,29]),(true,[3,6,11,8,2]),(false,[1])])<|.f<|.ret [(true,[15,14,13,12]),(true,[8,7,6,5,4]),(false,[0])])<|.f<|.f<|.ret [(true,[32,31,30,29]),(true,[25,24,23,22,21]),(false,[0])])<|.f<|.f<|.f<|.ret [(true,[29,28,27,26]),(true,[22,21,20,19,18]),(false,[0])])<|.f<|.f<|.f<|.f<|.ret [(true,[21,20,19,18]),(true,[14,13,12,11,10]),(false,[0])])<|.f<|.f<|.f<|.f<|.f<|.ret [(true,[20,19,18,17]),(true,[13,12,11,10,9]),(false,[0])]
def gM:UP:=.ite 0 (.po (.cutI 14 none (some 12))<|.i 1<|.b .sub 13 0<|.c 0<|.i 1<|.po (.cutJ 16 15 (some 0) (some 1))<|.po (.mk 37 5 [])<|.po (.viewD 22 7 6)<|.po (.app 37 5 64 1 0)<|.po (.viewD 24 4 3)<|.po (.app 37 5 64 1 0)<|.i 24<|.a 0 22<|.i 12<|.b .sub 1 0<|.i 0<|.i 0<|.s #[]<|.i 0<|.i 2<|.t<|.po (.e 9 1)<|.ret [(true,[39,38,11,36]),(true,[7,5,27,0,2]),(false,[1])])<|.sel [4,5,6,7,8,9,10,11,12,13,14,15,16]<|.join 1 gl<|.i 14<|.e 6 0<|.ite 0 (.i 2<|.e 9 0<|.jump 0 [0])<|.f<|.jump 0 [0]
def gD:UP:=.ite 0 (.a 9 6<|.i 1<|.b .sub 1 0<|.po (.cutI 14 none (some 0))<|.i 22<|.s #[60,60,45]<|.e 15 0<|.sel [0,2,3,4,9,10,11,12,13,18,19,20,21]<|.join 1 gC<|.ite 0 (.i 23<|.jump 0 [0])<|.jump 0 [1])<|.i 2<|.b .lss 7 0<|.ite 0 (.t<|.f<|.ret [(true,[17,16,15,14]),(true,[9,8,7,6,5]),(false,[0])])<|.i 0<|.z 0<|.po (.atJ 10 9 0)<|.x 5 15 0<|.i 7<|.b .neq 5 0<|.ite 0 (.f<|.ret [(true,[25,24,23,22]),(true,[17,16,15,14,13]),(false,[0])])<|.i 0<|.z 0<|.po (.atJ 19 18 0)<|.x 5 24 0<|.i 1<|.b .sub 25 0<|.po (.viewD 31 27 26)<|.sel [0,1,5,22,23,24,25,26,27,28,30,31,32,33,34]<|.cl 80 [(false,[0]),(false,[1])] [(false,[some (3,1)],true)]<|.join 1 gM<|.i 12<|.e 9 0<|.ite 0 (.t<|.i 0<|.z 0<|.po (.chk 1 4 0)<|.x 1 4 0<|.i 0<|.e 1 0<|.jump 0 [0])<|.i 13<|.e 11 0<|.ite 0 (.i 0<|.z 0<|.po (.chk 1 5 0)<|.x 1 5 0<|.i 0<|.e 1 0<|.jump 0 [0])<|.f<|.jump 0 [0]
def iW:UP:=.i 0<|.i 0<|.s #[]<|.i 0<|.f<|.po (.cutI 8 (some 6) none)<|.i 1<|.b .sub 1 0<|.z 0<|.po (.atJ 3 2 0)<|.x 5 13 0<|.i 0<|.i 0<|.s #[]<|.i 0<|.sel [4,5,6,7,8,12,13,19,20,21,22,23,24]<|.join 1 gD<|.s #[60,60,45]<|.e 8 0<|.ite 0 (.t<|.jump 0 [0])<|.i 7<|.e 7 0<|.jump 0 [0]
theorem qw:d7 Try.prog 71 Try.f71 di qz ph 66 4=some ([(false,1),(false,1)],iW):=by kernel_rfl
def qo:List aY:=[⟨37,1,⟨[aa 175 56,aa 7 55,aa 135 54,aa 119 48,aa 114 42,aa 112 36,aa 5 31,aa 65 21,aa 46 16,aa 27 11,aa 8 6,aa 4 5,bh 0 0 0 0,aa 1 4],[(0,.pvr 0 66 [.d 50,.d 51,.own 1 1,.d 53]),(1,.shr 1 37 5 52)],2,2,57,[(54,true),(48,false),(42,false),(36,true),(21,false),(16,false),(11,false),(6,false)]⟩,[]⟩,⟨1000029,1,⟨[aa 6 56,aa 123 55,aa 119 48,aa 114 42,aa 112 36,aa 5 31,aa 65 21,aa 46 16,aa 27 11,aa 8 6,aa 4 5,bh 0 0 0 0,aa 1 4],[(0,.pvr 0 66 [.d 51,.d 52,.own 1 1,.d 54]),(1,.shr 1 37 5 53)],2,2,57,[(48,true),(42,false),(36,true),(21,false),(16,false),(11,false),(6,false)]⟩,[]⟩,⟨2000002,6,⟨[aa 5 37,aa 114 38,aa 112 36,aa 65 21,aa 46 16,aa 27 11,aa 8 6,aa 4 5,bh 0 0 0 0,aa 1 4],[(0,.pvr 0 66 [.d 39,.d 40,.own 1 1,.d 41]),(1,.shr 1 37 5 42)],2,2,43,[(36,true),(21,false),(16,false),(11,false),(6,false)]⟩,[]⟩,⟨3000022,5,⟨[aa 5 31,aa 65 21,aa 46 16,aa 27 11,aa 8 6,aa 4 5,bh 0 0 0 0,aa 1 4],[(0,.pvr 0 66 [.d 32,.d 33,.own 1 1,.d 34]),(1,.shr 1 37 5 35)],2,2,36,[(21,false),(16,false),(11,false),(6,false)]⟩,[]⟩,⟨16,5,⟨[aa 65 21,aa 46 16,aa 27 11,aa 8 6,aa 4 5,bh 0 0 0 0,aa 1 4],[(0,.pvr 0 66 [.d 22,.d 23,.own 1 1,.d 24]),(1,.shr 1 37 5 25)],2,2,26,[(16,false),(11,false),(6,false)]⟩,[]⟩,⟨11,5,⟨[aa 46 16,aa 27 11,aa 8 6,aa 4 5,bh 0 0 0 0,aa 1 4],[(0,.pvr 0 66 [.d 17,.d 18,.own 1 1,.d 19]),(1,.shr 1 37 5 20)],2,2,21,[(11,false),(6,false)]⟩,[]⟩,⟨6,5,⟨[aa 27 11,aa 8 6,aa 4 5,bh 0 0 0 0,aa 1 4],[(0,.pvr 0 66 [.d 12,.d 13,.own 1 1,.d 14]),(1,.shr 1 37 5 15)],2,2,16,[(6,false)]⟩,[]⟩,⟨1,5,⟨[aa 8 6,aa 4 5,bh 0 0 0 0,aa 1 4],[(0,.pvr 0 66 [.d 7,.d 8,.own 1 1,.d 9]),(1,.shr 1 37 5 10)],2,2,11,[]⟩,[]⟩]
def py:List (Nat×Nat×Bool×List Nat):=[(37,38,false,[]),(18,13,false,[])]
def gv:UP:=.i 1<|.cl 1004228000056 [(true,[6,5,4,3]),(false,[0])] aZ<|.s #[93]<|.sel [0,1,2,3,4,6,13]<|.cl 1004228000078 [(true,[4,3,2,1]),(false,[0])] aZ<|.i 13<|.e 10 0<|.ite 0 (.s #[93]<|.sel [0,3,4,5,6,12,13]<|.cl 1004228000078 [(true,[4,3,2,1]),(false,[0])] aZ<|.s #[]<|.i 2<|.sel [0,1,2,3,4,5,11,12]<|.cl 1004228000040 [(true,[5,4,3,2]),(false,[6]),(false,[1]),(false,[0])] aZ<|.i 13<|.jump 1 [0,12,4,3,1,2])<|.s #[]<|.i 2<|.sel [0,1,4,5,6,7,13,14]<|.cl 1004228000040 [(true,[5,4,3,2]),(false,[6]),(false,[1]),(false,[0])] aZ<|.i 13<|.jump 1 [0,12,4,3,1,2]
def gq:UP:=.ite 0 (.i 2<|.f<|.cl 1004228000079 [(true,[7,6,5,4]),(false,[1]),(false,[0])] cc<|.i 14<|.i 1<|.sel [0,1,2,3,4,5,6,15]<|.cl 1004228000040 [(true,[6,5,4,3]),(false,[1]),(false,[2]),(false,[0])] aZ<|.i 13<|.jump 1 [0,12,4,3,1,2])<|.f<|.cl 1004228000079 [(true,[6,5,4,3]),(false,[2]),(false,[0])] cc<|.i 14<|.i 1<|.sel [0,1,2,3,4,5,6,14]<|.cl 1004228000040 [(true,[6,5,4,3]),(false,[1]),(false,[2]),(false,[0])] aZ<|.i 13<|.jump 1 [0,12,4,3,1,2]
def bQ:UP:=.jump 0 [5,3,2,1,0]
def gN:UP:=.n 1<|.ite 0 (.sel [1,2,3,4,5]<|.join 6 bQ<|.s #[40]<|.cl 1004228000055 [(true,[4,3,1,2]),(false,[0])] cc<|.ite 0 (.sel [0,1,2,3,4]<|.cl 1004228000077 [(true,[4,3,2,1])] aZ<|.i 13<|.jump 1 [0,5,4,3,1,2])<|.s #[91]<|.sel [0,1,2,3,4,5,11]<|.cl 1004228000055 [(true,[5,4,3,2]),(false,[0])] cc<|.ite 0 (.i 12<|.s #[91]<|.sel [0,1,3,4,5,6,8]<|.cl 1004228000055 [(true,[5,4,3,2]),(false,[0])] cc<|.sel [0,1,2,3,4,6,11]<|.join 1 gv<|.ite 0 (.i 13<|.jump 2 [0])<|.jump 2 [5])<|.s #[36]<|.sel [0,2,3,4,5,7,12]<|.cl 1004228000055 [(true,[4,3,2,1]),(false,[0])] cc<|.ite 0 (.i 3<|.sel [0,2,3,4,5,11]<|.join 1 gq<|.c 3<|.l 4<|.c 0<|.b .lss 4 0<|.c 0<|.ite 0 (.c 5<|.z 5<|.x 2 6 5<|.c 1<|.i 2<|.e 2 0<|.c 0<|.c 0<|.ite 0 (.c 9<|.z 9<|.x 2 10 9<|.c 0<|.s #[]<|.b .neq 1 0<|.c 0<|.c 0<|.jump 2 [0])<|.f<|.c 0<|.jump 2 [0])<|.f<|.c 0<|.f<|.c 0<|.jump 2 [0])<|.ret [(true,[4,3,2,1]),(false,[11])])<|.ret [(true,[4,3,1,2]),(false,[5])]
def gn:UP:=.ite 4 (.i 1<|.a 3 0<|.c 0<|.i 1<|.b .sub 1 0<|.c 0<|.z 0<|.x 2 7 0<|.c 0<|.sel [0,4,6,7,9]<|.cl 1004228000075 [(true,[4,1,2,3]),(false,[0])] aZ<|.i 1<|.ret [(true,[4,3,2,1]),(false,[0])])<|.sel [0,1,2,3]<|.cl 1004228000076 [(true,[3,2,0,1])] aZ<|.i 14<|.sel [0,1,2,3,4]<|.loop [0,4,3,1,2] gN
def gE:UP:=.ite 4 (.i 1<|.a 3 0<|.i 3<|.sel [0,1,3,4,6]<|.cl 1004228000056 [(true,[4,1,2,3]),(false,[0])] aZ<|.i 10<|.s #[126]<|.i 1<|.sel [0,1,2,3,4,5,6]<|.cl 1004228000040 [(true,[6,5,4,3]),(false,[2]),(false,[1]),(false,[0])] aZ<|.i 2<|.ret [(true,[4,3,2,1]),(false,[0])])<|.sel [0,1,2,3,9]<|.join 5 gn<|.i 1<|.b .leq 5 0<|.ite 0 (.s #[102,117,110,99,116,105,111,110]<|.cl 1004228000057 [(true,[6,5,3,4]),(false,[0])] cc<|.ite 0 (.t<|.t<|.t<|.jump 0 [0,7,6,4,5])<|.s #[105,102]<|.sel [0,2,3,4,5]<|.cl 1004228000057 [(true,[4,3,2,1]),(false,[0])] cc<|.ite 0 (.t<|.t<|.jump 0 [0,6,5,3,4])<|.s #[119,104,105,108,101]<|.sel [0,2,3,4,5]<|.cl 1004228000057 [(true,[4,3,2,1]),(false,[0])] cc<|.ite 0 (.t<|.jump 0 [0,5,4,2,3])<|.s #[102,111,114]<|.sel [0,2,3,4,5]<|.cl 1004228000057 [(true,[4,3,2,1]),(false,[0])] cc<|.jump 0 [0,4,3,1,2])<|.f<|.jump 0 [0,6,5,4,3]
def gz:UP:=.ite 4 (.i 1<|.a 3 0<|.i 5<|.sel [0,1,3,4,6]<|.cl 1004228000056 [(true,[4,1,2,3]),(false,[0])] aZ<|.i 10<|.s #[33]<|.i 1<|.sel [0,1,2,3,4,5,6]<|.cl 1004228000040 [(true,[6,5,4,3]),(false,[2]),(false,[1]),(false,[0])] aZ<|.i 5<|.ret [(true,[4,3,2,1]),(false,[0])])<|.sel [0,1,2,3,9]<|.join 5 gE<|.s #[126]<|.cl 1004228000057 [(true,[4,3,1,2]),(false,[0])] cc<|.ite 0 (.i 2<|.b .leq 11 0<|.jump 0 [0,6,5,3,4])<|.f<|.jump 0 [0,5,4,2,3]
def gK:UP:=.ite 4 (.i 1<|.a 3 0<|.i 11<|.sel [0,1,3,4,6]<|.cl 1004228000056 [(true,[4,1,2,3]),(false,[0])] aZ<|.i 10<|.s #[45]<|.i 1<|.sel [0,1,2,3,4,5,6]<|.cl 1004228000040 [(true,[6,5,4,3]),(false,[2]),(false,[1]),(false,[0])] aZ<|.i 11<|.ret [(true,[4,3,2,1]),(false,[0])])<|.sel [0,1,2,3,6]<|.join 5 gz<|.s #[33]<|.cl 1004228000057 [(true,[4,3,1,2]),(false,[0])] cc<|.ite 0 (.i 5<|.b .leq 11 0<|.jump 0 [0,6,5,3,4])<|.f<|.jump 0 [0,5,4,2,3]
def iQ:UP:=.i 0<|.join 5 gK<|.s #[45]<|.cl 1004228000057 [(true,[6,5,4,3]),(false,[0])] cc<|.ite 0 (.i 11<|.b .leq 8 0<|.jump 0 [0,6,5,3,4])<|.f<|.jump 0 [0,5,4,2,3]
theorem pN:d7 Try.prog 69 Try.f69 di qo py 66 4=some ([(false,1)],iQ):=by kernel_rfl
def oE:List aY:=[⟨16,1,⟨[aa 104 18,aa 91 17,aa 83 16,aa 75 14,aa 54 12,bh 2 2 2 0,aa 21 4,bh 0 1 1 0],[(1,.pvr 1 66 [.d 0,.d 10,.own 0 0,.d 3]),(0,.shr 0 37 5 2),(2,.var 2 77 [.d 5,.d 6])],3,3,19,[(17,false),(16,false),(14,false),(12,false),(4,false)]⟩,[]⟩,⟨13,1,⟨[aa 91 17,aa 83 16,aa 75 14,aa 54 12,bh 2 2 2 0,aa 21 4,bh 0 1 1 0],[(1,.pvr 1 66 [.d 0,.d 10,.own 0 0,.d 3]),(0,.shr 0 37 5 2),(2,.var 2 77 [.d 5,.d 6])],3,3,18,[(16,false),(14,false),(12,false),(4,false)]⟩,[]⟩,⟨0,1,⟨[aa 21 4,bh 0 1 1 0],[(1,.pvr 1 66 [.d 0,.d 1,.own 0 0,.d 3]),(0,.shr 0 37 5 2)],2,2,5,[]⟩,[]⟩]
def oG:List (Nat×Nat×Bool×List Nat):=[(2,11,false,[]),(0,16,false,[])]
def fT:UP:=.ite 0 (.t<|.sel [0,3,6,7,8]<|.cl 1004228000039 [(true,[4,1,3,2]),(false,[0])] cc<|.i 15<|.s #[]<|.sel [0,1,2,3,4,5,6]<|.cl 1004228000040 [(true,[6,5,4,3]),(false,[1]),(false,[0]),(false,[2])] aZ<|.ret [(true,[3,2,1,0])])<|.i 4<|.e 5 0<|.ite 0 (.sel [4,5,7,8,9]<|.cl 1004228000082 [(true,[4,0,3,2]),(false,[1])] aZ<|.ret [(true,[3,2,1,0])])<|.i 1<|.b .sub 5 0<|.t<|.ret [(true,[12,1,11,0])]
def fV:UP:=.ite 0 (.i 1<|.cl 1004228000056 [(true,[7,2,6,5]),(false,[0])] aZ<|.s #[41]<|.sel [0,1,2,3,4]<|.cl 1004228000078 [(true,[4,3,2,1]),(false,[0])] aZ<|.ret [(true,[3,2,1,0])])<|.join 1 fT<|.i 5<|.e 4 0<|.ite 0 (.s #[123]<|.e 5 0<|.jump 0 [0])<|.f<|.jump 0 [0]
def cP:UP:=.ite 0 (.t<|.ret [(true,[5,4,3,0])])<|.c 3<|.z 3<|.x 2 4 3<|.c 1<|.c 0<|.i 0<|.s #[]<|.i 1<|.a 8 0<|.i 1<|.e 6 0<|.ite 0 (.sel [2,6,9,10,12]<|.cl 63 [(false,[1])] [(false,[none],true),(false,[none],true)]<|.i 0<|.i 0<|.s #[]<|.i 0<|.i 2<|.c 0<|.c 6<|.c 2<|.po (.e 9 1)<|.c 2<|.po (.mk 37 5 [[1,7,3,0,2]])<|.po (.app 37 5 64 12 0)<|.ret [(true,[14,10,0,12])])<|.i 2<|.e 8 0<|.ite 0 (.i 3<|.i 0<|.sel [0,1,6,10,13,14,16]<|.cl 1004228000040 [(true,[6,2,5,4]),(false,[1]),(false,[3]),(false,[0])] aZ<|.ret [(true,[3,2,1,0])])<|.i 3<|.e 10 0<|.ite 0 (.i 7<|.i 0<|.sel [0,1,8,12,15,16,18]<|.cl 1004228000040 [(true,[6,2,5,4]),(false,[1]),(false,[3]),(false,[0])] aZ<|.ret [(true,[3,2,1,0])])<|.sel [6,10,11,13,14,16]<|.join 1 fV<|.i 5<|.e 3 0<|.ite 0 (.s #[40]<|.e 4 0<|.jump 0 [0])<|.f<|.jump 0 [0]
def gF:UP:=.join 1 cP<|.c 0<|.ite 0 (.t<|.c 0<|.jump 0 [0])<|.c 2<|.l 3<|.c 0<|.b .geq 3 0<|.c 0<|.c 0<|.jump 0 [0]
theorem oI:d7 Try.prog 76 Try.f76 di oE oG 66 4=some ([],gF):=by kernel_rfl
def tw:List aY:=[⟨2000000,5,⟨[aa 60 28,aa 44 22,aa 5 21,aa 14 16,co 4 1 1,bh 0 0 0 0,aa 1 4],[(0,.pvr 0 66 [.d 29,.d 30,.own 2 2,.d 31]),(2,.shr 2 37 5 32),(1,.row 1 9 1 13)],3,3,33,[(22,false),(16,false)]⟩,[]⟩,⟨18,5,⟨[aa 78 30,aa 60 29,aa 44 22,aa 5 21,aa 14 16,co 4 1 1,bh 0 0 0 0,aa 1 4],[(0,.pvr 0 66 [.d 31,.d 32,.own 2 2,.d 33]),(2,.shr 2 37 5 34),(1,.row 1 9 1 13)],3,3,35,[(29,false),(22,false),(16,false)]⟩,[]⟩,⟨6,1,⟨[aa 44 22,aa 5 21,aa 14 16,co 4 2 2,bh 0 1 1 0,aa 1 4],[(1,.pvr 1 66 [.d 0,.d 1,.own 0 0,.d 3]),(0,.shr 0 37 5 2),(2,.row 2 9 1 13)],3,3,23,[(16,false)]⟩,[]⟩]
def tg:List (Nat×Nat×Bool×List Nat):=[(4,15,false,[0])]
def ju:UP:=.ite 4 (.i 6<|.s #[]<|.i 0<|.sel [0,1,2,3,4,5,6,8]<|.cl 1004228000040 [(true,[6,5,3,4]),(false,[2]),(false,[1]),(false,[0])] aZ<|.i 21<|.s #[]<|.i 1<|.sel [0,1,2,3,4,5,6,14]<|.cl 1004228000040 [(true,[6,5,4,3]),(false,[2]),(false,[1]),(false,[0])] aZ<|.jump 0 [11,3,2,0,1])<|.s #[114,101,116,117,114,110]<|.e 13 0<|.ite 0 (.i 1<|.sel [0,3,4,5,6,8]<|.cl 1004228000056 [(true,[4,3,1,2]),(false,[0])] aZ<|.i 21<|.s #[]<|.i 1<|.sel [0,1,2,3,4,5,6,12]<|.cl 1004228000040 [(true,[6,5,4,3]),(false,[2]),(false,[1]),(false,[0])] aZ<|.jump 0 [11,3,2,0,1])<|.s #[111,110,46,101,120,105,116]<|.e 15 0<|.ite 0 (.i 1<|.sel [0,5,6,7,8,10]<|.cl 1004228000056 [(true,[4,3,1,2]),(false,[0])] aZ<|.i 33<|.s #[]<|.i 1<|.sel [0,1,2,3,4,5,6,12]<|.cl 1004228000040 [(true,[6,5,4,3]),(false,[2]),(false,[1]),(false,[0])] aZ<|.jump 0 [11,3,2,0,1])<|.s #[105,110,118,111,107,101,82,101,115,116,97,114,116]<|.e 17 0<|.ite 0 (.i 2<|.t<|.sel [0,1,8,9,10,11,13]<|.cl 1004228000079 [(true,[5,4,2,3]),(false,[1]),(false,[0])] cc<|.s #[44]<|.sel [0,1,2,3,4,5,12]<|.cl 1004228000078 [(true,[5,4,3,2]),(false,[0])] aZ<|.i 1<|.sel [0,1,2,3,4,6,11]<|.cl 1004228000056 [(true,[4,3,2,1]),(false,[0])] aZ<|.i 31<|.i 1<|.sel [0,1,2,3,4,5,11,12]<|.cl 1004228000040 [(true,[5,4,3,2]),(false,[1]),(false,[6]),(false,[0])] aZ<|.jump 0 [11,3,2,0,1])<|.s #[109,105,115,115,105,110,103]<|.e 19 0<|.ite 0 (.i 3<|.t<|.sel [0,1,10,11,12,13,15]<|.cl 1004228000079 [(true,[5,4,2,3]),(false,[1]),(false,[0])] cc<|.i 32<|.i 0<|.sel [0,1,2,3,4,5,6,13]<|.cl 1004228000040 [(true,[6,5,4,3]),(false,[1]),(false,[2]),(false,[0])] aZ<|.jump 0 [11,3,2,0,1])<|.s #[85,115,101,77,101,116,104,111,100]<|.e 21 0<|.ite 0 (.i 2<|.t<|.sel [0,1,12,13,14,15,17]<|.cl 1004228000079 [(true,[5,4,2,3]),(false,[1]),(false,[0])] cc<|.i 34<|.i 0<|.sel [0,1,2,3,4,5,6,13]<|.cl 1004228000040 [(true,[6,5,4,3]),(false,[1]),(false,[2]),(false,[0])] aZ<|.jump 0 [11,3,2,0,1])<|.i 35<|.s #[]<|.i 0<|.sel [0,1,2,13,14,15,16,18]<|.cl 1004228000040 [(true,[6,5,3,4]),(false,[2]),(false,[1]),(false,[0])] aZ<|.jump 0 [11,3,2,0,1]
def jJ:UP:=.s #[41]<|.sel [0,1,2,3,4]<|.cl 1004228000078 [(true,[4,3,1,2]),(false,[0])] aZ<|.ret [(true,[3,2,1,0])]
def jy:UP:=.ite 0 (.i 1<|.b .sub 7 0<|.t<|.ret [(true,[10,1,8,0])])<|.s #[40]<|.cl 1004228000078 [(true,[8,7,6,5]),(false,[0])] aZ<|.sel [0,1,2,3,6,8]<|.join 5 jJ<|.i 0<|.b .geq 5 0<|.ite 0 (.i 1<|.cl 1004228000056 [(true,[6,5,4,3]),(false,[0])] aZ<|.s #[44]<|.sel [0,1,2,3,4,6,12]<|.cl 1004228000078 [(true,[4,3,2,1]),(false,[0])] aZ<|.i 3<|.t<|.sel [0,1,2,3,4,5,11,12]<|.cl 1004228000079 [(true,[5,4,3,2]),(false,[1]),(false,[0])] cc<|.s #[61]<|.sel [0,1,2,3,4,5,12,13]<|.cl 1004228000078 [(true,[5,4,3,2]),(false,[0])] aZ<|.i 1<|.sel [0,1,2,3,4,6,11,12]<|.cl 1004228000056 [(true,[4,3,2,1]),(false,[0])] aZ<|.i 28<|.a 0 12<|.i 2<|.sel [0,1,3,4,5,6,12,13]<|.cl 1004228000040 [(true,[5,4,3,2]),(false,[1]),(false,[6]),(false,[0])] aZ<|.jump 0 [11,3,2,0,1])<|.join 5 ju<|.s #[114,101,116,117,114,110]<|.e 8 0<|.ite 0 (.s #[41]<|.sel [0,5,6,7,8]<|.cl 1004228000057 [(true,[4,3,2,1]),(false,[0])] cc<|.jump 1 [0,4,3,1,2])<|.f<|.jump 1 [0,8,7,5,6]
def kA:UP:=.s #[70,65,76,83,69]<|.s #[84,82,85,69]<|.s #[78,65]<|.s #[78,65,95,110,117,109,98,101,114,95]<|.s #[78,65,95,99,104,97,114,97,99,116,101,114,95]<|.s #[78,85,76,76]<|.s #[98,114,101,97,107]<|.s #[110,101,120,116]<|.c 7<|.c 6<|.c 5<|.c 4<|.c 3<|.c 2<|.c 1<|.c 0<|.po (.mk 9 1 [[7],[6],[5],[4],[3],[2],[1],[0]])<|.sel [0,9,10,11,12,13]<|.cl 49 [(false,[0]),(false,[1])] aP<|.i 0<|.b .geq 1 0<|.ite 0 (.i 4<|.i 4<|.i 4<|.i 5<|.i 5<|.i 6<|.i 19<|.i 20<|.c 7<|.c 6<|.c 5<|.c 4<|.c 3<|.c 2<|.c 1<|.c 0<|.po (.mk 3 1 [[7],[6],[5],[4],[3],[2],[1],[0]])<|.z 11<|.po (.chk 1 0 11)<|.x 1 0 11<|.c 0<|.i 0<|.i 1<|.i 2<|.i 0<|.i 1<|.i 0<|.i 0<|.i 0<|.i 0<|.i 1<|.i 2<|.i 0<|.i 1<|.i 0<|.i 0<|.i 0<|.po (.mk 3 1 [[15],[14],[13],[12],[11],[10],[9],[8]])<|.z 29<|.x 1 0 29<|.c 0<|.i 0<|.i 0<|.s #[]<|.i 0<|.i 0<|.i 0<|.s #[]<|.i 0<|.c 17<|.c 16<|.c 15<|.c 14<|.c 13<|.c 12<|.c 11<|.c 10<|.po (.mk 3 1 [[17],[16],[15],[14],[13],[12],[11],[10]])<|.c 27<|.c 9<|.c 2<|.po (.e 9 1)<|.c 2<|.po (.mk 37 5 [[28,10,3,0,2]])<|.po (.app 37 5 64 45 0)<|.ret [(true,[48,47,0,45])])<|.s #[116,114,121,67,97,116,99,104]<|.s #[119,105,116,104,67,97,108,108,105,110,103,72,97,110,100,108,101,114,115]<|.s #[119,105,116,104,82,101,115,116,97,114,116]<|.c 2<|.c 1<|.c 0<|.po (.mk 9 1 [[2],[1],[0]])<|.sel [0,8,9,10,11,12]<|.cl 49 [(false,[0]),(false,[1])] aP<|.join 1 jy<|.i 0<|.b .lss 1 0<|.ite 0 (.s #[114,101,116,117,114,110]<|.s #[105,110,118,111,107,101,82,101,115,116,97,114,116]<|.s #[109,105,115,115,105,110,103]<|.s #[111,110,46,101,120,105,116]<|.s #[85,115,101,77,101,116,104,111,100]<|.s #[78,101,120,116,77,101,116,104,111,100]<|.c 5<|.c 4<|.c 3<|.c 2<|.c 1<|.c 0<|.po (.mk 9 1 [[5],[4],[3],[2],[1],[0]])<|.sel [0,11]<|.cl 54 [(false,[0]),(false,[1])] aP<|.n 0<|.jump 0 [0])<|.f<|.jump 0 [0]
theorem tM:d7 Try.prog 82 Try.f82 di tw tg 66 4=some ([(false,1)],kA):=by kernel_rfl
def mQ:List aY:=[⟨2000000,6,⟨[aa 14 5,co 2 1 1,bh 0 0 0 0],[(0,.pvr 0 66 [.d 6,.d 7,.own 2 2,.d 8]),(2,.shr 2 37 5 9),(1,.row 1 9 1 10)],3,3,11,[]⟩,[]⟩,⟨2000001,8,⟨[co 2 1 1,aa 3 18,aa 80 19,aa 17 20,aa 14 17,bh 0 0 0 0],[(0,.pvr 0 66 [.d 21,.d 22,.own 2 2,.d 23]),(2,.shr 2 37 5 24),(1,.row 1 9 1 25)],3,3,26,[(17,true),(10,true)]⟩,[]⟩,⟨5,1,⟨[aa 80 26,aa 3 25,aa 17 20,aa 14 17,co 2 1 1,bh 0 0 0 0],[(0,.pvr 0 66 [.d 21,.d 22,.own 2 2,.d 23]),(2,.shr 2 37 5 24),(1,.row 1 9 1 9)],3,3,27,[(17,true),(10,true)]⟩,[]⟩,⟨1000003,4,⟨[aa 17 20,aa 14 17,co 2 1 1,bh 0 0 0 0],[(0,.pvr 0 66 [.d 21,.d 22,.own 2 2,.d 23]),(2,.shr 2 37 5 24),(1,.row 1 9 1 9)],3,3,25,[(17,true),(10,true)]⟩,[]⟩,⟨3000001,5,⟨[co 2 2 2,bh 0 1 1 0],[(1,.pvr 1 66 [.d 5,.d 6,.own 0 0,.d 7]),(0,.shr 0 37 5 8),(2,.row 2 9 1 9)],3,3,10,[]⟩,[]⟩]
def mN:List (Nat×Nat×Bool×List Nat):=[(6,12,false,[]),(5,61,false,[])]
def eW:UP:=.ite 0 (.c 4<|.z 4<|.x 2 5 4<|.c 0<|.c 0<|.s #[]<|.b .neq 1 0<|.ite 0 (.i 2<|.a 9 0<|.c 4<|.po (.mk 9 1 [[4]])<|.po (.flat 0)<|.po (.app 9 1 16 14 0)<|.i 1<|.sel [0,1,3,7,9,11,12,14,15]<|.cl 1004228000056 [(true,[7,2,5,6]),(false,[0])] aZ<|.jump 2 [7,8,12,3,2,0,1,5])<|.c 2<|.po (.mk 9 1 [[2]])<|.po (.flat 0)<|.po (.app 9 1 16 12 0)<|.i 1<|.sel [0,1,5,7,9,10,11,12,13]<|.cl 1004228000056 [(true,[7,6,4,5]),(false,[0])] aZ<|.jump 2 [6,7,12,3,2,0,1,5])<|.c 1<|.po (.mk 9 1 [[1]])<|.po (.flat 0)<|.po (.app 9 1 16 8 0)<|.i 1<|.cl 1004228000056 [(true,[8,7,5,6]),(false,[0])] aZ<|.jump 2 [8,7,13,3,2,0,1,5]
def eM:UP:=.s #[]<|.sel [0,1,2,3,4,5,12]<|.join 1 eW<|.c 3<|.i 1<|.a 4 0<|.c 0<|.l 6<|.c 0<|.b .lss 1 0<|.c 0<|.ite 0 (.c 7<|.z 7<|.x 2 8 7<|.c 1<|.i 3<|.e 2 0<|.c 0<|.ite 0 (.t<|.c 0<|.c 0<|.c 12<|.i 1<|.a 13 0<|.c 0<|.z 0<|.x 2 15 0<|.c 1<|.c 0<|.i 0<|.s #[]<|.i 5<|.s #[61]<|.i 0<|.s #[]<|.i 5<|.s #[61]<|.po (.eqS false [.i,.s] [9,8] [5,4])<|.c 0<|.c 0<|.ite 0 (.c 24<|.n 24<|.c 0<|.c 0<|.jump 3 [0])<|.f<|.c 0<|.jump 3 [0])<|.c 11<|.z 11<|.x 2 12 11<|.c 1<|.i 2<|.e 2 0<|.c 0<|.c 0<|.c 0<|.ite 0 (.c 15<|.i 1<|.a 16 0<|.c 0<|.z 0<|.x 2 18 0<|.c 1<|.c 0<|.i 0<|.s #[]<|.i 5<|.s #[61]<|.i 0<|.s #[]<|.i 5<|.s #[61]<|.po (.eqS false [.i,.s] [9,8] [5,4])<|.c 0<|.c 0<|.ite 0 (.c 27<|.n 27<|.c 0<|.c 0<|.jump 3 [0])<|.f<|.c 0<|.jump 3 [0])<|.f<|.c 0<|.f<|.c 0<|.jump 3 [0])<|.f<|.c 0<|.f<|.c 0<|.f<|.c 0<|.jump 3 [0]
def cz:UP:=.jump 1 [4,3,2,1,0]
def eV:UP:=.n 2<|.ite 0 (.s #[41]<|.sel [0,2,3,4,5,6]<|.cl 1004228000055 [(true,[5,4,2,3]),(false,[0])] cc<|.n 0<|.ite 0 (.sel [2,3,4,5,7]<|.join 8 cz<|.l 4<|.i 0<|.b .gtr 1 0<|.join 4 eM<|.ite 0 (.s #[44]<|.sel [0,4,5,6,7]<|.cl 1004228000078 [(true,[4,3,2,1]),(false,[0])] aZ<|.jump 3 [3,2,0,1])<|.jump 3 [6,5,3,4])<|.jump 0 [0,5,4,2,3,7])<|.f<|.jump 0 [0,6,5,4,3,2]
def df:UP:=.l 0<|.i 1<|.a 1 0<|.i 0<|.i 0<|.s #[]<|.i 0<|.i 9<|.c 0<|.c 3<|.c 2<|.c 5<|.po (.mk 37 5 [[0,3,2,8,5]])<|.po (.app 37 5 64 10 0)<|.ret [(true,[14,13,0,12])]
def fu:UP:=.po (.mk 9 1 [])<|.join 6 df<|.loop [4,3,1,2,0] eV
theorem mP:d7 Try.prog 77 Try.f77 di mQ mN 66 4=some ([],fu):=by kernel_rfl
def sU:List aY:=[⟨2000001,8,⟨[aa 68 13,aa 5 14,aa 33 15,aa 12 16,aa 10 12,aa 4 5,bh 0 0 0 0,aa 1 4],[(0,.pvr 0 66 [.d 17,.d 18,.own 1 1,.d 19]),(1,.shr 1 37 5 20)],2,2,21,[(12,true)]⟩,[]⟩,⟨4,5,⟨[aa 33 23,aa 12 22,aa 10 12,aa 5 7,aa 4 5,bh 0 0 0 0,aa 1 4],[(0,.pvr 0 66 [.d 24,.d 25,.own 1 1,.d 26]),(1,.shr 1 37 5 27)],2,2,28,[(22,false),(12,true)]⟩,[]⟩,⟨3000003,4,⟨[aa 10 12,aa 5 7,aa 4 5,bh 0 1 1 0,aa 1 4],[(1,.pvr 1 66 [.d 13,.d 14,.own 0 0,.d 15]),(0,.shr 0 37 5 16)],2,2,17,[(12,true)]⟩,[]⟩,⟨3000002,5,⟨[aa 5 7,aa 4 5,bh 0 1 1 0,aa 1 4],[(1,.pvr 1 66 [.d 8,.d 9,.own 0 0,.d 10]),(0,.shr 0 37 5 11)],2,2,12,[]⟩,[]⟩]
def tu:List (Nat×Nat×Bool×List Nat):=[(8,18,false,[]),(4,21,false,[3000000,8,1])]
def jH:UP:=.ite 4 (.ret [(true,[3,2,0,1]),(false,[10])])<|.i 1<|.sel [0,1,2,3,4,5,6,11,12]<|.cl 1004228000056 [(true,[4,3,1,2]),(false,[0])] aZ<|.i 1<|.a 12 0<|.c 2<|.n 2<|.c 0<|.ite 0 (.c 5<|.l 6<|.c 0<|.b .lss 6 0<|.c 0<|.c 0<|.ite 0 (.s #[59]<|.sel [0,4,6,7,8,9,15,16,18]<|.cl 1004228000057 [(true,[5,4,3,2]),(false,[0])] cc<|.n 0<|.ite 0 (.ite 14 (.s #[125]<|.sel [0,3,4,5,6,8,13,14]<|.cl 1004228000057 [(true,[4,3,2,1]),(false,[0])] cc<|.n 0<|.ite 0 (.t<|.jump 1 [1,12,13,14,6,5,0,4])<|.jump 1 [0,11,12,13,5,4,2,3])<|.f<|.n 0<|.ite 0 (.t<|.jump 1 [1,10,15,16,8,7,0,6])<|.jump 1 [0,9,14,15,7,6,4,5])<|.f<|.jump 1 [0,8,13,14,6,5,3,4])<|.f<|.f<|.jump 1 [0,5,16,17,10,9,7,8])<|.f<|.c 0<|.ite 0 (.s #[59]<|.sel [0,3,5,6,7,8,14,15,17]<|.cl 1004228000057 [(true,[5,4,3,2]),(false,[0])] cc<|.n 0<|.ite 0 (.ite 14 (.s #[125]<|.sel [0,3,4,5,6,8,13,14]<|.cl 1004228000057 [(true,[4,3,2,1]),(false,[0])] cc<|.n 0<|.ite 0 (.t<|.jump 1 [1,12,13,14,6,5,0,4])<|.jump 1 [0,11,12,13,5,4,2,3])<|.f<|.n 0<|.ite 0 (.t<|.jump 1 [1,10,15,16,8,7,0,6])<|.jump 1 [0,9,14,15,7,6,4,5])<|.f<|.jump 1 [0,8,13,14,6,5,3,4])<|.f<|.f<|.jump 1 [0,4,15,16,9,8,6,7]
def j6:UP:=.s #[59]<|.sel [0,1,2,3,4,9,10]<|.cl 1004228000055 [(true,[4,3,1,2]),(false,[0])] cc<|.ite 0 (.jump 2 [4,3,1,2])<|.sel [0,1,2,3,4,10,11]<|.join 5 jH<|.ite 6 (.s #[125]<|.cl 1004228000055 [(true,[5,4,3,2]),(false,[0])] cc<|.ite 0 (.t<|.t<|.t<|.t<|.t<|.t<|.t<|.t<|.t<|.t<|.t<|.c 0<|.jump 3 [0,15,14,12,13])<|.n 12<|.ite 0 (.t<|.t<|.t<|.t<|.f<|.f<|.f<|.f<|.f<|.f<|.t<|.t<|.t<|.t<|.c 18<|.l 19<|.c 0<|.e 19 0<|.c 0<|.c 0<|.c 0<|.jump 3 [0,21,20,18,19])<|.t<|.t<|.t<|.t<|.f<|.f<|.f<|.f<|.f<|.f<|.t<|.t<|.f<|.f<|.f<|.c 0<|.c 0<|.jump 3 [0,20,19,17,18])<|.f<|.n 7<|.ite 0 (.f<|.f<|.f<|.f<|.f<|.f<|.f<|.f<|.f<|.f<|.t<|.t<|.c 17<|.l 18<|.c 0<|.e 18 0<|.c 0<|.c 0<|.c 0<|.jump 3 [0,20,19,17,18])<|.f<|.f<|.f<|.f<|.f<|.f<|.f<|.f<|.f<|.f<|.f<|.f<|.f<|.c 0<|.c 0<|.jump 3 [0,19,18,16,17]
def bG:UP:=.jump 0 [6,3,2,1,0]
def jT:UP:=.n 1<|.ite 0 (.sel [1,2,3,4,5,8]<|.join 8 bG<|.loop [3,2,1,0] j6)<|.ret [(true,[4,3,1,2]),(false,[5])]
def lu:UP:=.i 0<|.i 0<|.loop [0,6,5,3,4] jT
theorem tz:d7 Try.prog 39 Try.f39 di sU tu 66 4=some ([(false,1)],lu):=by kernel_rfl
def vj:List aY:=[⟨2000001,6,⟨[aa 35 13,co 4 1 1,aa 23 11,aa 8 4,bh 0 0 0 0,aa 1 4],[(0,.pvr 0 66 [.d 14,.d 15,.own 2 2,.d 16]),(2,.shr 2 37 5 17),(1,.row 1 9 1 18)],3,3,19,[(11,true)]⟩,[]⟩,⟨2000002,8,⟨[aa 89 26,co 4 1 1,aa 79 27,aa 38 28,aa 35 25,aa 23 11,aa 8 4,bh 0 0 0 0,aa 1 4],[(0,.pvr 0 66 [.d 29,.d 30,.own 2 2,.d 31]),(2,.shr 2 37 5 32),(1,.row 1 9 1 33)],3,3,34,[(25,true),(18,true),(11,true)]⟩,[]⟩,⟨1000015,1,⟨[aa 79 33,aa 38 28,aa 35 25,co 4 1 1,aa 23 11,aa 8 4,bh 0 0 0 0,aa 1 4],[(0,.pvr 0 66 [.d 29,.d 30,.own 2 2,.d 34]),(2,.shr 2 37 5 32),(1,.row 1 9 1 17)],3,3,35,[(25,true),(18,true),(11,true)]⟩,[]⟩,⟨14,1,⟨[aa 79 33,aa 38 28,aa 35 25,co 4 1 1,aa 23 11,aa 8 4,bh 0 0 0 0,aa 1 4],[(0,.pvr 0 66 [.d 29,.d 30,.own 2 2,.d 31]),(2,.shr 2 37 5 32),(1,.row 1 9 1 17)],3,3,34,[(25,true),(18,true),(11,true)]⟩,[]⟩,⟨1000013,4,⟨[aa 38 28,aa 35 25,co 4 1 1,aa 23 11,aa 8 4,bh 0 0 0 0,aa 1 4],[(0,.pvr 0 66 [.d 29,.d 30,.own 2 2,.d 31]),(2,.shr 2 37 5 32),(1,.row 1 9 1 17)],3,3,33,[(25,true),(18,true),(11,true)]⟩,[]⟩,⟨3000011,5,⟨[co 4 2 2,aa 23 11,aa 8 4,bh 0 0 0 0,aa 1 4],[(0,.pvr 0 66 [.d 13,.d 14,.own 1 1,.d 15]),(1,.shr 1 37 5 16),(2,.row 2 9 1 17)],3,3,18,[(11,true)]⟩,[]⟩]
def vp:List (Nat×Nat×Bool×List Nat):=[(14,39,false,[])]
def kU:UP:=.i 3<|.t<|.cl 1004228000079 [(true,[7,6,4,2]),(false,[1]),(false,[0])] cc<|.c 0<|.po (.mk 9 1 [[0]])<|.po (.flat 0)<|.po (.app 9 1 16 15 0)<|.s #[61]<|.sel [0,1,4,5,6,7,11,16]<|.cl 1004228000055 [(true,[5,4,3,2]),(false,[0])] cc<|.ite 0 (.i 1<|.sel [0,1,2,3,4,5,7,12,13]<|.cl 1004228000056 [(true,[5,4,3,2]),(false,[0])] aZ<|.jump 2 [5,11,12,3,2,0,1,10])<|.i 1<|.s #[]<|.i 0<|.sel [0,1,2,3,4,5,6,7,9,14,15]<|.cl 1004228000040 [(true,[7,6,5,4]),(false,[2]),(false,[1]),(false,[0])] aZ<|.jump 2 [7,13,14,3,2,0,1,12]
def lg:UP:=.join 1 kU<|.ite 0 (.t<|.jump 3 [0])<|.jump 3 [2]
def lb:UP:=.sel [0,1,2,3,4,11]<|.join 1 lg<|.c 2<|.l 3<|.c 0<|.b .lss 3 0<|.c 0<|.ite 0 (.c 4<|.z 4<|.x 2 5 4<|.c 1<|.i 3<|.e 2 0<|.c 0<|.c 0<|.ite 0 (.c 8<|.z 8<|.x 2 9 8<|.c 0<|.sel [0,13]<|.cl 54 [(false,[1]),(false,[0])] aP<|.c 0<|.jump 3 [0])<|.f<|.c 0<|.jump 3 [0])<|.f<|.c 0<|.f<|.c 0<|.jump 3 [0]
def fA:UP:=.jump 1 [4,3,2,1,0]
def k8:UP:=.n 2<|.ite 0 (.s #[41]<|.sel [0,2,3,4,5,6]<|.cl 1004228000055 [(true,[5,4,2,3]),(false,[0])] cc<|.n 0<|.ite 0 (.sel [2,3,4,5,7]<|.join 8 fA<|.l 4<|.i 0<|.b .gtr 1 0<|.join 4 lb<|.ite 0 (.s #[44]<|.sel [0,4,5,6,7]<|.cl 1004228000078 [(true,[4,3,2,1]),(false,[0])] aZ<|.jump 3 [3,2,0,1])<|.jump 3 [6,5,3,4])<|.jump 0 [0,5,4,2,3,7])<|.f<|.jump 0 [0,6,5,4,3,2]
def fJ:UP:=.i 1<|.sel [0,1,2,3,4,5]<|.cl 1004228000056 [(true,[5,4,2,3]),(false,[0])] aZ<|.l 5<|.i 1<|.a 1 0<|.i 0<|.i 0<|.s #[]<|.i 0<|.i 8<|.c 0<|.c 3<|.c 2<|.c 5<|.po (.mk 37 5 [[0,3,2,13,5]])<|.po (.app 37 5 64 10 0)<|.ret [(true,[13,12,0,10])]
def mg:UP:=.s #[40]<|.cl 1004228000078 [(true,[5,4,3,2]),(false,[0])] aZ<|.s #[102,117,110,99,116,105,111,110]<|.e 6 0<|.ite 0 (.po (.mk 9 1 [])<|.sel [0,3,4,5,6]<|.join 6 fJ<|.loop [4,3,1,2,0] k8)<|.s #[102,111,114]<|.e 8 0<|.ite 0 (.i 3<|.t<|.sel [0,1,6,7,8,9]<|.cl 1004228000079 [(true,[5,4,3,2]),(false,[1]),(false,[0])] cc<|.s #[105,110]<|.sel [0,1,2,3,4,5]<|.cl 1004228000078 [(true,[5,4,3,2]),(false,[0])] aZ<|.i 1<|.sel [0,1,2,3,4,6]<|.cl 1004228000056 [(true,[4,3,2,1]),(false,[0])] aZ<|.s #[41]<|.sel [0,1,2,3,4,10]<|.cl 1004228000078 [(true,[4,3,2,1]),(false,[0])] aZ<|.i 1<|.sel [0,1,2,3,4,10]<|.cl 1004228000056 [(true,[4,3,2,1]),(false,[0])] aZ<|.i 18<|.i 2<|.sel [0,1,2,3,4,5,11]<|.cl 1004228000040 [(true,[5,4,3,2]),(false,[1]),(false,[6]),(false,[0])] aZ<|.ret [(true,[3,2,1,0])])<|.s #[119,104,105,108,101]<|.e 10 0<|.ite 0 (.i 1<|.sel [0,7,8,9,10]<|.cl 1004228000056 [(true,[4,3,2,1]),(false,[0])] aZ<|.s #[41]<|.sel [0,1,2,3,4]<|.cl 1004228000078 [(true,[4,3,2,1]),(false,[0])] aZ<|.i 1<|.sel [0,1,2,3,4]<|.cl 1004228000056 [(true,[4,3,2,1]),(false,[0])] aZ<|.i 17<|.s #[]<|.i 2<|.sel [0,1,2,3,4,5,6]<|.cl 1004228000040 [(true,[6,5,4,3]),(false,[2]),(false,[1]),(false,[0])] aZ<|.ret [(true,[3,2,1,0])])<|.i 1<|.sel [0,7,8,9,10]<|.cl 1004228000056 [(true,[4,3,2,1]),(false,[0])] aZ<|.s #[41]<|.sel [0,1,2,3,4]<|.cl 1004228000078 [(true,[4,3,2,1]),(false,[0])] aZ<|.i 1<|.sel [0,1,2,3,4]<|.cl 1004228000056 [(true,[4,3,2,1]),(false,[0])] aZ<|.s #[101,108,115,101]<|.sel [0,1,2,3,4]<|.cl 1004228000055 [(true,[4,3,2,1]),(false,[0])] cc<|.ite 0 (.i 1<|.sel [0,2,3,4,5]<|.cl 1004228000056 [(true,[4,3,2,1]),(false,[0])] aZ<|.i 16<|.s #[]<|.i 3<|.sel [0,1,2,3,4,5,6]<|.cl 1004228000040 [(true,[6,5,4,3]),(false,[2]),(false,[1]),(false,[0])] aZ<|.ret [(true,[3,2,1,0])])<|.i 16<|.s #[]<|.i 2<|.sel [0,1,2,4,5,6,7]<|.cl 1004228000040 [(true,[6,5,4,3]),(false,[2]),(false,[1]),(false,[0])] aZ<|.ret [(true,[3,2,1,0])]
theorem vh:d7 Try.prog 75 Try.f75 di vj vp 66 4=some ([(false,1)],mg):=by kernel_rfl
def uR:List aY:=[]
def u6:List (Nat×Nat×Bool×List Nat):=[]
def mn:UP:=.i 0<|.i 0<|.s #[]<|.i 0<|.c 6<|.c 2<|.c 5<|.po (.e 9 1)<|.c 5<|.po (.mk 37 5 [[7,3,6,0,5]])<|.po (.app 37 5 64 10 0)<|.ret [(true,[13,12,0,10])]
theorem ve:d7 Try.prog 40 Try.f40 di uR u6 66 4=some ([(false,1),(false,1),(false,1)],mn):=by kernel_rfl
def xt:List aY:=[⟨1,1,⟨[aa 21 6,aa 4 5,bh 0 1 1 0,aa 1 4],[(1,.pvr 1 66 [.d 0,.d 1,.own 0 0,.d 3]),(0,.shr 0 37 5 2)],2,2,7,[(5,false)]⟩,[]⟩]
def wS:List (Nat×Nat×Bool×List Nat):=[(3,11,false,[]),(1,16,false,[])]
def ep:UP:=.ite 0 (.f<|.ret [(true,[7,6,5,4]),(false,[0])])<|.c 5<|.z 5<|.x 2 6 5<|.c 1<|.c 0<|.i 0<|.s #[]<|.i 4<|.b .geq 4 0<|.ite 0 (.e 4 8<|.ret [(true,[13,12,11,10]),(false,[0])])<|.f<|.ret [(true,[13,12,11,10]),(false,[0])]
def nn:UP:=.f<|.join 1 ep<|.c 2<|.ite 2 (.t<|.c 0<|.jump 0 [0])<|.c 4<|.l 5<|.c 0<|.b .geq 5 0<|.c 0<|.c 0<|.jump 0 [0]
theorem wv:d7 Try.prog 57 Try.f57 di xt wS 66 4=some ([(false,1)],nn):=by kernel_rfl
def tl:List aY:=[]
def sS:List (Nat×Nat×Bool×List Nat):=[]
def ly:UP:=.cl 1004228000055 [(true,[4,3,2,1]),(false,[0])] cc<|.n 0<|.ite 0 (.t<|.ret [(true,[6,5,4,0])])<|.ret [(true,[5,4,3,2])]
theorem sD:d7 Try.prog 78 Try.f78 di tl sS 66 4=some ([(false,1)],ly):=by kernel_rfl
def tO:List aY:=[⟨1,1,⟨[aa 55 7,aa 6 6,bh 0 1 1 0,aa 1 4,aa 2 5],[(1,.pvr 1 66 [.d 0,.d 1,.own 0 0,.d 3]),(0,.shr 0 37 5 2)],2,2,8,[]⟩,[]⟩]
def sB:List (Nat×Nat×Bool×List Nat):=[(5,13,false,[]),(1,49,false,[])]
def cQ:UP:=.ite 0 (.t<|.s #[]<|.ret [(true,[9,8,7,1]),(false,[0])])<|.i 1<|.a 7 0<|.c 0<|.i 1<|.b .sub 1 0<|.c 0<|.z 0<|.x 2 11 0<|.c 0<|.c 0<|.ret [(true,[13,4,11,10]),(false,[0])]
def kB:UP:=.s #[]<|.join 1 cQ<|.c 3<|.ite 3 (.t<|.c 0<|.t<|.c 0<|.t<|.c 0<|.jump 0 [0])<|.c 5<|.l 6<|.c 0<|.b .geq 6 0<|.c 0<|.c 0<|.ite 0 (.t<|.c 0<|.t<|.c 0<|.jump 0 [0])<|.c 7<|.z 7<|.x 2 8 7<|.c 1<|.b .neq 1 6<|.c 0<|.c 0<|.ite 0 (.t<|.c 0<|.jump 0 [0])<|.ite 6 (.c 10<|.z 10<|.x 2 11 10<|.c 0<|.sel [0]<|.cl 48 [(false,[0])] aP<|.n 0<|.c 0<|.c 0<|.c 0<|.jump 0 [0])<|.f<|.c 0<|.c 0<|.jump 0 [0]
theorem sj:d7 Try.prog 79 Try.f79 di tO sB 66 4=some ([(false,1),(false,1)],kB):=by kernel_rfl
def sI:List aY:=[]
def sM:List (Nat×Nat×Bool×List Nat):=[]
def lf:UP:=.f<|.cl 1004228000057 [(true,[5,4,3,2]),(false,[1])] cc<|.n 0<|.ite 0 (.f<|.ret [(true,[6,5,4,3]),(false,[0])])<|.i 1<|.a 5 0<|.t<|.ret [(true,[8,1,6,5]),(false,[0])]
theorem tK:d7 Try.prog 55 Try.f55 di sI sM 66 4=some ([(false,1)],lf):=by kernel_rfl
def sd:List aY:=[⟨1000023,1,⟨[aa 5 41,aa 98 40,aa 7 39,aa 84 38,aa 9 34,bh 8 2 2 0,aa 50 31,aa 33 28,aa 20 25,aa 19 19,bh 6 1 1 0,aa 13 6,co 4 0 0,aa 3 1,(2,.p false [.nil]),aa 0 0],[(0,.row 0 77 2 15),(1,.var 1 77 [.d 16,.d 17]),(2,.var 2 77 [.d 32,.d 33])],3,3,42,[(38,false),(31,false),(28,false),(25,false),(22,false),(19,true),(6,false)]⟩,[]⟩,⟨22,1,⟨[aa 98 40,aa 7 39,aa 84 38,aa 9 34,bh 8 2 2 0,aa 50 31,aa 33 28,aa 20 25,aa 19 19,bh 6 1 1 0,aa 13 6,aa 5 14,co 4 0 0,aa 3 1,(2,.p false [.nil]),aa 0 0],[(0,.row 0 77 2 15),(1,.var 1 77 [.d 16,.d 17]),(2,.var 2 77 [.d 32,.d 33])],3,3,41,[(38,false),(31,false),(28,false),(25,false),(22,false),(19,true),(6,false)]⟩,[]⟩,⟨3000011,1,⟨[aa 33 28,aa 20 25,aa 19 19,aa 7 29,bh 6 1 1 0,aa 13 6,aa 5 14,co 4 0 0,aa 3 1,(2,.p false [.nil]),aa 0 0],[(0,.row 0 77 2 15),(1,.var 1 77 [.d 16,.d 17])],2,2,30,[(28,true),(25,false),(22,false),(19,true),(6,false)]⟩,[]⟩,⟨2000001,6,⟨[aa 7 20,aa 20 21,aa 19 19,bh 6 1 1 0,aa 13 6,aa 5 22,co 4 0 0,aa 3 1,(2,.p false [.nil]),aa 0 0],[(0,.row 0 77 2 23),(1,.var 1 77 [.d 24,.d 25])],2,2,26,[(19,true),(6,false)]⟩,[]⟩,⟨3000007,5,⟨[aa 7 13,bh 6 1 1 0,aa 13 6,aa 5 14,co 4 0 0,aa 3 1,(2,.p false [.nil]),aa 0 0],[(0,.row 0 77 2 15),(1,.var 1 77 [.d 16,.d 17])],2,2,18,[(6,false)]⟩,[]⟩]
def ro:List (Nat×Nat×Bool×List Nat):=[]
def iZ:UP:=.m 7<|.b .lss 1 0<|.ite 0 (.h 9 2<|.po (.k (.int .u8 10))<|.b .neq 1 0<|.ite 0 (.i 1<|.a 6 0<|.jump 2 [0])<|.jump 1 [5,6,10,9,8,7])<|.f<|.jump 1 [3,4,8,7,6,5]
def bX:UP:=.c 4<|.c 3<|.po (.mk 77 2 [[4,3]])<|.po (.flat 0)<|.po (.app 77 2 24 7 0)<|.jump 1 [4,7,2,0,6,5]
def bZ:UP:=.join 1 bX<|.ite 0 (.a 6 2<|.jump 2 [0])<|.i 5<|.e 4 0<|.ite 0 (.s #[41]<|.s #[93]<|.s #[125]<|.c 2<|.c 1<|.c 0<|.po (.mk 9 1 [[2],[1],[0]])<|.sel [0,8,12]<|.cl 54 [(false,[0]),(false,[1])] aP<|.ite 0 (.s #[]<|.b .neq 4 0<|.ite 0 (.m 5<|.i 1<|.b .sub 1 0<|.po (.cutS 8 none (some 0))<|.jump 2 [0])<|.jump 2 [5])<|.f<|.jump 2 [4])<|.f<|.f<|.jump 2 [10]
def aK:UP:=.jump 0 [5,3,2,1,0]
def iL:UP:=.m 10<|.b .lss 5 0<|.ite 0 (.sel [2,3,4,5,6,12]<|.join 6 aK<|.h 5 4<|.po (.k (.int .u8 32))<|.e 1 0<|.ite 0 (.t<|.i 1<|.a 9 0<|.jump 1 [0,2,9,8,7,6])<|.h 8 7<|.po (.k (.int .u8 9))<|.e 1 0<|.ite 0 (.i 1<|.a 11 0<|.jump 1 [0,2,11,10,9,8])<|.h 11 10<|.po (.k (.int .u8 35))<|.e 1 0<|.ite 0 (.sel [3,9,10,11,12,13,14]<|.loop [5] iZ)<|.h 14 13<|.po (.k (.int .u8 10))<|.e 1 0<|.ite 0 (.i 1<|.a 17 0<|.sel [0,8,14,15,16,17]<|.cl 52 [(true,[3,2])] aP<|.n 0<|.ite 0 (.s #[]<|.e 8 0<|.ite 0 (.t<|.i 0<|.s #[]<|.i 6<|.s #[59]<|.c 1<|.c 0<|.po (.mk 77 2 [[1,0]])<|.po (.flat 0)<|.po (.app 77 2 24 14 0)<|.jump 1 [11,12,16,0,3,2])<|.m 9<|.i 1<|.b .sub 1 0<|.h 12 0<|.po (.k (.int .u8 123))<|.e 1 0<|.ite 0 (.i 0<|.s #[]<|.i 6<|.s #[59]<|.c 1<|.c 0<|.po (.mk 77 2 [[1,0]])<|.po (.flat 0)<|.po (.app 77 2 24 19 0)<|.jump 1 [16,17,21,0,3,2])<|.jump 1 [10,11,15,14,13,12])<|.f<|.jump 1 [3,4,8,7,6,5])<|.sel [6,14,15,16,17]<|.cl 53 [(false,[4]),(false,[3])] [(true,[none,none],true),(false,[none],true)]<|.i 0<|.s #[]<|.i 0<|.e 3 0<|.ite 0 (.po (.mk 77 2 [])<|.c 11<|.ret [(false,[0]),(false,[11])])<|.a 10 4<|.sel [0,6,7,8,9,10]<|.join 1 bZ<|.i 5<|.e 3 0<|.ite 0 (.s #[40]<|.s #[91]<|.s #[123]<|.c 2<|.c 1<|.c 0<|.po (.mk 9 1 [[2],[1],[0]])<|.sel [0,7]<|.cl 54 [(false,[0]),(false,[1])] aP<|.jump 2 [0])<|.f<|.jump 2 [0])<|.i (-1)<|.c 0<|.ret [(false,[5]),(false,[0])]
def eS:UP:=.i 0<|.po (.mk 77 2 [])<|.s #[]<|.m 3<|.i 600<|.b .gtr 1 0<|.ite 0 (.i 600<|.c 0<|.ret [(false,[5]),(false,[0])])<|.i 0<|.s #[]<|.i 6<|.i 0<|.s #[]<|.i 0<|.sel [0,3,4,9,10,12]<|.loop [0,3,4,1,2] iL
theorem jW:bk Try.prog 38 Try.f38 di sd ro=some ([(false,1)],eS):=by kernel_rfl
def sL:List aY:=[⟨38,1,⟨[aa 237 13,aa 208 12,aa 13 10,co 12 1 1,aa 18 6,aa 7 7,aa 6 5,aa 5 4,bh 4 0 0 0,aa 0 0,aa 1 1],[(0,.var 0 77 [.d 2,.d 3]),(1,.row 1 9 1 8)],2,2,14,[(12,true)]⟩,[]⟩,⟨3000036,1,⟨[aa 13 10,co 12 1 1,aa 18 6,aa 7 7,aa 6 5,aa 5 4,bh 4 0 0 0,aa 0 0,aa 1 1],[(0,.var 0 77 [.d 2,.d 3]),(1,.row 1 9 1 8)],2,2,11,[]⟩,[]⟩,⟨2000000,2,⟨[aa 18 6,aa 7 7,aa 6 5,aa 5 4,bh 4 0 0 0,aa 0 0,aa 1 1],[(0,.var 0 77 [.d 2,.d 3])],1,1,8,[]⟩,[]⟩,⟨26,1,⟨[aa 171 13,aa 137 11,aa 98 10,aa 50 8,aa 18 6,aa 7 12,aa 6 5,aa 5 4,bh 4 0 0 0,aa 0 0,aa 1 1],[(0,.var 0 77 [.d 2,.d 3])],1,1,14,[(11,true),(10,false),(8,false),(6,false)]⟩,[]⟩,⟨3000026,1,⟨[aa 137 11,aa 98 10,aa 50 8,aa 18 6,aa 7 12,aa 6 5,aa 5 4,bh 4 0 0 0,aa 0 0,aa 1 1],[(0,.var 0 77 [.d 2,.d 3])],1,1,13,[(11,true),(10,false),(8,false),(6,false)]⟩,[]⟩,⟨25,1,⟨[aa 137 11,aa 98 10,aa 50 8,aa 18 6,aa 7 1,aa 6 5,aa 5 4,bh 4 0 0 0,aa 0 0,aa 1 1],[(0,.var 0 77 [.d 2,.d 3])],1,1,12,[(10,false),(8,false),(6,false)]⟩,[]⟩,⟨2000005,2,⟨[aa 112 13,aa 7 14,aa 98 10,aa 50 8,aa 18 6,aa 6 5,aa 5 4,bh 4 0 0 0,aa 0 0,aa 1 1],[(0,.var 0 77 [.d 2,.d 3])],1,1,15,[(10,true),(8,false),(6,false)]⟩,[]⟩,⟨3000021,1,⟨[aa 7 13,aa 98 10,aa 50 8,aa 18 6,aa 6 5,aa 5 4,bh 4 0 0 0,aa 0 0,aa 1 1],[(0,.var 0 77 [.d 2,.d 3])],1,1,14,[(10,true),(8,false),(6,false)]⟩,[]⟩,⟨2000003,2,⟨[aa 64 11,aa 7 12,aa 50 8,aa 18 6,aa 6 5,aa 5 4,bh 4 0 0 0,aa 0 0,aa 1 1],[(0,.var 0 77 [.d 2,.d 3])],1,1,13,[(8,true),(6,false)]⟩,[]⟩,⟨2000004,2,⟨[aa 7 17,aa 68 18,aa 64 16,aa 50 8,aa 18 6,aa 6 5,aa 5 4,bh 4 0 0 0,aa 0 0,aa 1 1],[(0,.var 0 77 [.d 2,.d 3])],1,1,19,[(16,true),(13,true),(8,true),(6,false)]⟩,[]⟩,⟨3000011,1,⟨[aa 7 11,aa 50 8,aa 18 6,aa 6 5,aa 5 4,bh 4 0 0 0,aa 0 0,aa 1 1],[(0,.var 0 77 [.d 2,.d 3])],1,1,12,[(8,true),(6,false)]⟩,[]⟩,⟨2000001,2,⟨[aa 30 7,aa 18 6,aa 7 8,aa 6 5,aa 5 4,bh 4 0 0 0,aa 0 0,aa 1 1],[(0,.var 0 77 [.d 2,.d 3])],1,1,9,[(6,true)]⟩,[]⟩,⟨3000004,1,⟨[aa 18 6,aa 7 7,aa 6 5,aa 5 4,bh 4 0 0 0,aa 0 0,aa 1 1],[(0,.var 0 77 [.d 2,.d 3])],1,1,8,[(6,true)]⟩,[]⟩]
def tY:List (Nat×Nat×Bool×List Nat):=[(39,10,true,[2000000,5,6,7,8,9]),(38,27,false,[])]
def jI:UP:=.m 3<|.b .lss 1 0<|.ite 0 (.h 5 2<|.sel [0,3]<|.cl 62 [(false,[0])] aP<|.ite 0 (.i 1<|.a 3 0<|.jump 2 [0])<|.jump 1 [0,2])<|.f<|.jump 1 [0,3]
def cm:UP:=.po (.cutS 4 (some 3) (some 0))<|.cl 63 [(false,[0])] [(false,[none],true),(false,[none],true)]<|.ite 0 (.po (.cutS 7 (some 6) (some 3))<|.i 0<|.s #[]<|.i 1<|.b .sub 7 10<|.c 1<|.c 4<|.c 0<|.ret [(true,[1,4]),(false,[0])])<|.jump 0 [5,3]
def fc:UP:=.jump 2 [1]
def j8:UP:=.m 4<|.b .lss 1 0<|.ite 0 (.h 6 2<|.po (.k (.int .u8 34))<|.b .neq 1 0<|.ite 0 (.sel [5,9]<|.join 2 fc<|.h 1 0<|.po (.k (.int .u8 92))<|.e 1 0<|.ite 0 (.i 1<|.a 4 0<|.i 1<|.a 1 0<|.jump 3 [0,4])<|.i 1<|.a 4 0<|.jump 3 [0,2])<|.jump 1 [0,5])<|.f<|.jump 1 [0,3]
def bO:UP:=.m 5<|.b .lss 1 0<|.ite 0 (.i 1<|.a 3 0<|.po (.cutS 9 (some 8) (some 0))<|.sel [0,5,8,9]<|.cl 64 [(false,[0])] [(false,[none],true),(false,[none],true)]<|.ite 0 (.m 1<|.i 60<|.b .leq 1 0<|.ite 0 (.i 0<|.s #[]<|.i 2<|.i 1<|.a 10 0<|.b .sub 0 13<|.c 3<|.c 10<|.c 0<|.ret [(true,[3,10]),(false,[0])])<|.jump 0 [7,6])<|.f<|.jump 0 [5,4])<|.jump 0 [5,2]
def jM:UP:=.m 4<|.b .lss 1 0<|.ite 0 (.h 6 2<|.po (.k (.int .u8 96))<|.b .neq 1 0<|.ite 0 (.i 1<|.a 6 0<|.jump 2 [0])<|.jump 1 [0,5])<|.f<|.jump 1 [0,3]
def cN:UP:=.m 5<|.b .lss 1 0<|.ite 0 (.i 1<|.a 7 0<|.po (.cutS 9 (some 0) (some 4))<|.sel [0,5,8,9,10]<|.cl 48 [(false,[0])] aP<|.ite 0 (.i 1<|.a 5 0<|.po (.cutS 7 (some 0) (some 4))<|.i 0<|.s #[]<|.i 3<|.i 1<|.a 9 0<|.b .sub 0 12<|.c 3<|.c 6<|.c 0<|.ret [(true,[3,6]),(false,[0])])<|.jump 0 [3,2])<|.f<|.jump 0 [6,3]
def bF:UP:=.ite 0 (.i 1<|.a 2 0<|.jump 1 [0])<|.po (.cutS 6 (some 5) (some 1))<|.cl 66 [(false,[0])] aP<|.ite 0 (.po (.cutS 8 (some 7) (some 3))<|.i 0<|.s #[]<|.i 4<|.b .sub 7 11<|.c 1<|.c 4<|.c 0<|.ret [(true,[1,4]),(false,[0])])<|.po (.cutS 8 (some 7) (some 3))<|.sel [0,4,6,8,9]<|.cl 67 [(false,[0])] aP<|.ite 0 (.po (.cutS 5 (some 4) (some 2))<|.i 0<|.s #[]<|.i 3<|.b .sub 6 8<|.c 1<|.c 4<|.c 0<|.ret [(true,[1,4]),(false,[0])])<|.jump 0 [3,2]
def ff:UP:=.join 1 bF<|.m 5<|.b .lss 1 0<|.ite 0 (.h 7 2<|.sel [0,3,8]<|.cl 65 [(false,[0])] aP<|.ite 0 (.t<|.t<|.t<|.jump 2 [0])<|.h 3 2<|.cl 62 [(false,[0])] aP<|.ite 0 (.t<|.t<|.jump 2 [0])<|.h 5 4<|.po (.k (.int .u8 46))<|.e 1 0<|.ite 0 (.t<|.jump 2 [0])<|.h 8 7<|.po (.k (.int .u8 95))<|.e 1 0<|.jump 2 [0])<|.f<|.jump 2 [0]
def dN:UP:=.ite 0 (.loop [3] ff)<|.po (.k (.int .u8 59))<|.e 3 0<|.ite 0 (.i 0<|.s #[]<|.i 6<|.s #[59]<|.i 1<|.c 2<|.c 1<|.c 0<|.ret [(true,[2,1]),(false,[0])])<|.jump 0 [3,5]
def dw:UP:=.ite 0 (.z 3<|.po (.chk 1 5 3)<|.x 1 5 3<|.i 0<|.s #[]<|.i 5<|.z 7<|.po (.chk 1 9 7)<|.x 1 9 7<|.m 0<|.po (.flat 11)<|.c 2<|.c 5<|.c 0<|.ret [(true,[2,5]),(false,[0])])<|.i 1<|.a 4 0<|.jump 0 [0]
def ez:UP:=.l 2<|.b .lss 1 0<|.ite 0 (.join 1 dw<|.z 2<|.po (.chk 1 4 2)<|.x 1 4 2<|.c 0<|.m 0<|.c 0<|.m 8<|.c 0<|.b .sub 0 8<|.c 0<|.b .leq 2 0<|.c 0<|.ite 0 (.z 7<|.po (.chk 1 9 7)<|.x 1 9 7<|.c 0<|.m 0<|.c 0<|.a 12 0<|.c 0<|.po (.cutS 14 (some 13) (some 0))<|.c 0<|.z 11<|.po (.chk 1 13 11)<|.x 1 13 11<|.c 0<|.e 1 0<|.c 0<|.c 0<|.jump 1 [0])<|.f<|.c 0<|.jump 1 [0])<|.i 0<|.s #[]<|.i 0<|.c 2<|.c 1<|.c 0<|.ret [(true,[2,1]),(false,[0])]
def aE:UP:=.sel [6,7]<|.cl 68 [] Fr<|.i 0<|.loop [0] ez
def bV:UP:=.i 0<|.s #[]<|.i 0<|.h 4 3<|.join 2 aE<|.cl 62 [(false,[0])] aP<|.ite 0 (.sel [0,5,6]<|.join 2 cm<|.loop [1] jI)<|.po (.k (.int .u8 34))<|.e 2 0<|.ite 0 (.i 1<|.a 8 0<|.sel [0,4,9,10]<|.join 2 bO<|.loop [0] j8)<|.po (.k (.int .u8 96))<|.e 4 0<|.ite 0 (.i 1<|.a 10 0<|.sel [0,6,11,12]<|.join 2 cN<|.loop [0] jM)<|.sel [4,5,9,10]<|.join 1 dN<|.cl 65 [(false,[1])] aP<|.ite 0 (.t<|.jump 1 [0])<|.po (.k (.int .u8 46))<|.e 3 0<|.jump 1 [0]
theorem cC:bk Try.prog 53 Try.f53 di sL tY=some ([(false,1),(false,1)],bV):=by kernel_rfl
def sE:List aY:=[]
def tX:List (Nat×Nat×Bool×List Nat):=[]
def kL:UP:=.f<|.i 6<|.e 3 0<|.ite 0 (.t<|.t<|.c 0<|.r 0)<|.i 4<|.e 5 0<|.ite 0 (.s #[101,108,115,101]<|.e 6 0<|.ite 0 (.t<|.c 0<|.r 0)<|.i 5<|.e 9 0<|.ite 0 (.s #[41]<|.s #[93]<|.s #[125]<|.c 2<|.c 1<|.c 0<|.po (.mk 9 1 [[2],[1],[0]])<|.sel [0,13]<|.cl 54 [(false,[0]),(false,[1])] aP<|.n 0<|.c 0<|.r 0)<|.f<|.c 0<|.r 0)<|.f<|.i 5<|.e 8 0<|.ite 0 (.s #[41]<|.s #[93]<|.s #[125]<|.c 2<|.c 1<|.c 0<|.po (.mk 9 1 [[2],[1],[0]])<|.sel [0,12]<|.cl 54 [(false,[0]),(false,[1])] aP<|.n 0<|.c 0<|.r 0)<|.f<|.c 0<|.r 0
theorem ud:bk Try.prog 52 Try.f52 di sE tX=some ([(true,2)],kL):=by kernel_rfl
def lV:List aY:=[⟨2000001,4,⟨[aa 4 11,aa 6 12,aa 5 13,aa 28 14,aa 11 10,aa 3 2,aa 2 1,aa 0 0],[],0,0,15,[(10,true),(2,false)]⟩,[]⟩,⟨3000003,2,⟨[aa 5 5,aa 4 6,aa 3 2,aa 2 1,aa 0 0],[],0,0,7,[(2,false)]⟩,[]⟩]
def mb:List (Nat×Nat×Bool×List Nat):=[(12,16,false,[])]
def bC:UP:=.i 1<|.a 2 0<|.jump 0 [0,5]
def da:UP:=.m 6<|.i 1<|.b .sub 1 0<|.b .lss 4 0<|.ite 0 (.sel [4,5,10]<|.join 4 bC<|.i 1<|.a 2 0<|.po (.cutS 4 (some 3) (some 0))<|.s #[92]<|.e 1 0<|.ite 0 (.i 1<|.a 7 0<|.m 9<|.i 1<|.b .sub 1 0<|.b .lss 3 0<|.ite 0 (.i 1<|.a 13 0<|.i 1<|.a 1 0<|.po (.cutS 17 (some 2) (some 0))<|.s #[110]<|.e 1 0<|.ite 0 (.s #[10]<|.a 19 0<|.jump 1 [0,1,7,9])<|.s #[120]<|.e 3 0<|.ite 0 (.i 2<|.a 8 0<|.m 24<|.i 1<|.b .sub 1 0<|.b .lss 3 0<|.ite 0 (.i 1<|.a 14 0<|.c 0<|.h 30 0<|.c 0<|.sel [0,16,18,29,31]<|.cl 73 [(false,[0])] aP<|.i 16<|.b .mul 1 0<|.c 0<|.i 2<|.a 5 0<|.c 0<|.h 9 0<|.c 0<|.sel [0,3,7,8,9]<|.cl 73 [(false,[0])] aP<|.a 2 0<|.c 0<|.po (.cvI .u8 0)<|.c 0<|.po (.mk 5 1 [[0]])<|.po (.cvB 0)<|.c 0<|.c 0<|.c 2<|.po (.mk 5 1 [[2]])<|.i 2<|.a 9 0<|.a 12 3<|.jump 1 [0,4,1,12])<|.a 26 10<|.jump 1 [0,11,14,16])<|.f<|.a 21 5<|.jump 1 [0,6,9,11])<|.a 11 8<|.jump 1 [0,9,13,1])<|.f<|.a 6 3<|.jump 1 [0,4,8,1])<|.sel [4,10]<|.cl 74 [(false,[0])] aP<|.b .neq 0 2<|.ite 0 (.s #[]<|.f<|.c 1<|.c 0<|.ret [(false,[1]),(false,[0])])<|.t<|.c 3<|.c 0<|.ret [(false,[3]),(false,[0])]
def dq:UP:=.s #[]<|.f<|.s #[]<|.i 1<|.loop [0,1] da
theorem eO:bk Try.prog 64 Try.f64 di lV mb=some ([(false,1)],dq):=by kernel_rfl
def rf:List aY:=[⟨3000002,1,⟨[aa 3 3,aa 2 1,aa 0 0],[],0,0,4,[]⟩,[]⟩]
def rM:List (Nat×Nat×Bool×List Nat):=[]
def jb:UP:=.i 16<|.b .lss 1 0<|.ite 0 (.s #[48,49,50,51,52,53,54,55,56,57,97,98,99,100,101,102]<|.h 0 3<|.e 0 7<|.ite 0 (.c 5<|.r 5)<|.i 1<|.a 6 0<|.jump 0 [0])<|.i 0<|.c 0<|.r 0
def jU:UP:=.i 0<|.i 0<|.loop [0] jb
theorem rl:bk Try.prog 73 Try.f73 di rf rM=some ([(false,1)],jU):=by kernel_rfl
def nP:List aY:=[⟨2000001,3,⟨[aa 3 8,aa 23 9,aa 5 10,aa 9 7,aa 4 4,aa 2 1,aa 0 0],[],0,0,11,[(7,true)]⟩,[]⟩,⟨3000003,2,⟨[aa 4 4,aa 3 5,aa 2 1,aa 0 0],[],0,0,6,[]⟩,[]⟩]
def mY:List (Nat×Nat×Bool×List Nat):=[]
def fk:UP:=.i 1<|.a 5 0<|.jump 0 [0,4]
def fy:UP:=.m 5<|.b .lss 2 0<|.ite 0 (.sel [2,3,7]<|.join 3 fk<|.h 2 1<|.po (.cvI .i64 0)<|.i 34<|.e 1 0<|.ite 0 (.t<|.s #[92]<|.a 6 0<|.i 1<|.a 9 0<|.po (.cutS 11 (some 10) (some 0))<|.a 3 0<|.jump 1 [0,6,9])<|.i 92<|.e 3 0<|.ite 0 (.s #[92]<|.a 7 0<|.i 1<|.a 10 0<|.po (.cutS 12 (some 11) (some 0))<|.a 3 0<|.jump 1 [0,6,10])<|.i 10<|.e 5 0<|.ite 0 (.s #[92,110]<|.a 9 0<|.jump 1 [0,4,8])<|.i 32<|.b .lss 7 0<|.ite 0 (.t<|.s #[92,120]<|.a 12 0<|.po (.k (.int .u64 4))<|.b .shr 12 0<|.sel [0,2,9,13]<|.cl 81 [(false,[0])] aP<|.a 2 0<|.i 15<|.b .and 6 0<|.sel [0,2,6,7]<|.cl 81 [(false,[0])] aP<|.a 2 0<|.jump 1 [0,4,5])<|.i 126<|.b .gtr 9 0<|.ite 0 (.s #[92,120]<|.a 13 0<|.po (.k (.int .u64 4))<|.b .shr 13 0<|.sel [0,2,10,14]<|.cl 81 [(false,[0])] aP<|.a 2 0<|.i 15<|.b .and 6 0<|.sel [0,2,6,7]<|.cl 81 [(false,[0])] aP<|.a 2 0<|.jump 1 [0,4,5])<|.i 1<|.a 14 0<|.po (.cutS 16 (some 15) (some 0))<|.a 15 0<|.jump 1 [0,10,14])<|.s #[34]<|.a 3 0<|.c 0<|.r 0
def fY:UP:=.s #[]<|.s #[34]<|.i 0<|.loop [0,1] fy
theorem mZ:bk Try.prog 74 Try.f74 di nP mY=some ([(false,1)],fY):=by kernel_rfl
def xo:List aY:=[]
def wx:List (Nat×Nat×Bool×List Nat):=[]
def ni:UP:=.s #[]<|.i 1<|.a 2 0<|.s #[48,49,50,51,52,53,54,55,56,57,97,98,99,100,101,102]<|.po (.cutS 0 (some 4) (some 1))<|.c 0<|.r 0
theorem wo:bk Try.prog 81 Try.f81 di xo wx=some ([(false,1)],ni):=by kernel_rfl
def gT:ByteArray:=⟨#[48,49,50,51,52,53,54,55,56,57,97,98,99,100,101,102]⟩
def qc(b:Nat):List Nat:=if b=34\/b=92 then[92,b]else if b=10 then[92,110]else if b<32\/126<b then[92,120,ah gT (b / 16),ah gT (b % 16)]else[b]
def qP(s:ByteArray):Nat->List Nat
 |0=>[34]
 |i+1=>qP s i++qc (ah s i)
def ik(s:ByteArray):ByteArray:=cI (qP s s.size++[34])
theorem OP(b:Nat):(qc b).length<=4:=by
 unfold qc;split
 ·simp
 split
 ·simp
 split<;>simp
theorem Dh(s:ByteArray):∀i,(qP s i).length<=1+4*i
 |0=>by simp[qP]
 |i+1=>by have:=Dh s i;have:=OP (ah s i);simp only[qP,List.length_append];omega
theorem EE(k:Nat)(hk:k<16):aW Try.prog 81 [(false,[.sc (.int .i64 k)])] [(false,[.sc (.string (cI [ah gT k]))],true)]:=by
 have hb:=vC (s:=gT) (i:=k) hk
 have dD:lr (some (.sc (.string ⟨#[48,49,50,51,52,53,54,55,56,57,97,98,99,100,101,102]⟩))) (some (some (k:Int))) (some (some ((k+1:Nat):Int)))=some [.sc (.string (cI [ah gT k]))]:=by
  rw[F9 (by omega) (by omega) (by show((k+1:Nat):Int)<=((16:Nat):Int);omega)];exact congrArg (λz=>some [DV.sc (.string z)]) hb
 refine ax Try.func81 wo rfl ?_;simp only[ni]
 repeat' (first|(with_reducible first|refine am ?_|refine aj (by assumption) rfl ?_|refine ap (λhbr=>?_) λhbr=>?_)|simp(disch:=first|omega|(simp only[ak];omega)|simp only[al,Nat.reduceAdd]) only[go_sem,dD])
 rfl
theorem a1(q:List Nat)(b:Nat):cI q++cI [b]=cI (q++[b]):=(jE q [b]).symm
theorem Uu(q:List Nat):cI q++⟨#[92]⟩=cI (q++[92]):=(jE q [92]).symm
theorem Us(q:List Nat):cI q++⟨#[34]⟩=cI (q++[34]):=(jE q [34]).symm
theorem Td(q:List Nat):cI q++⟨#[92,110]⟩=cI (q++[92,110]):=(jE q [92,110]).symm
theorem Tg(q:List Nat):cI q++⟨#[92,120]⟩=cI (q++[92,120]):=(jE q [92,120]).symm
theorem km{c:Bool}{q:List Nat}{t:ByteArray}(h:q.length+t.size<=1000000000000):bE .add c (some (.sc (.string (cI q)))) (some (.sc (.string t)))=some [.sc (.string (cI q++t))]:=bD (by rw[ej];unfold maxLen;omega)
set_option maxHeartbeats 4000000 in
theorem za(s:ByteArray)(hs:s.size<=10000000000):aW Try.prog 74 [(false,[.sc (.string s)])] [(false,[.sc (.string (ik s))],true)]:=by
 refine ax Try.func74 mZ rfl ?_;simp only[fY];simp(disch:=first|omega|(simp only[ak];omega)|simp only[al,Nat.reduceAdd]) only[go_sem,true_and];refine Dx s.size (λi=>[.sc (.int .i64 i),.sc (.string (cI (qP s i)))]) rfl λi hi=>?_
 have hl:=Dh s i;have z92:(⟨#[92]⟩:ByteArray).size=1:=rfl;have z34:(⟨#[34]⟩:ByteArray).size=1:=rfl;have zn:(⟨#[92,110]⟩:ByteArray).size=2:=rfl;have zx:(⟨#[92,120]⟩:ByteArray).size=2:=rfl;have z1:∀b,(cI [b]).size=1:=λb=>ej [b]
 simp only[fy];by_cases hlt:i<s.size
 ·have hbt:=dF s i;have hq:qP s (i+1)=qP s i++qc (ah s i):=rfl;have hx:=vC hlt
  have dD:lr (some (.sc (.string s))) (some (some (i:Int))) (some (some ((i+1:Nat):Int)))=some [.sc (.string (cI [ah s i]))]:=by
   rw[F9 (by omega) (by omega) (by omega)];exact congrArg (λz=>some [DV.sc (.string z)]) hx
  generalize hB:ah s i=b at *;have hw:IntKind.i64.wrap (b:Int)=(b:Int):=dT (by omega) (by omega);have hsh:=@MY false .u64 b 4 (by decide);have han:=@MU false b 15 (by omega);rw[show b &&& 15=b % 16 from Nat.and_two_pow_sub_one_eq_mod b 4]at han;simp only[show((4:Nat):Int)=4 from rfl,show((15:Nat):Int)=15 from rfl,show(2:Nat)^4=16 from rfl]at hsh han;have h1:=EE (b / 16) (by omega);have h2:=EE (b % 16) (by omega);have c1:=@km false (qP s i) ⟨#[92]⟩ (by omega);have c2:=@km false (qP s i++[92]) (cI [b]) (by simp only[List.length_append,List.length_singleton];have:=z1 b;omega);have c3:=@km false (qP s i) ⟨#[92,110]⟩ (by omega);have c4:=@km false (qP s i) ⟨#[92,120]⟩ (by omega);have c5:=@km false (qP s i++[92,120]) (cI [ah gT (b / 16)]) (by simp only[List.length_append,List.length_cons,List.length_nil];have:=z1 (ah gT (b / 16));omega);have c6:=@km false (qP s i++[92,120]++[ah gT (b / 16)]) (cI [ah gT (b % 16)]) (by simp only[List.length_append,List.length_cons,List.length_nil];have:=z1 (ah gT (b % 16));omega);have c7:=@km false (qP s i) (cI [b]) (by have:=z1 b;omega)
  repeat' (first|(with_reducible first|refine am ?_|refine aj (by assumption) rfl ?_|refine ap (λhbr=>?_) λhbr=>?_)|simp(disch:=first|omega|(simp only[ak];omega)|simp only[al,Nat.reduceAdd]) only[go_sem,hB,hw,hsh,han,dD,c1,c2,c3,c4,c5,c6,c7,a1,Uu,Td,Tg,fk])
  all_goals first|omega|skip
  all_goals (refine⟨?_,hlt⟩;rw[hq];unfold qc)
  all_goals first
   |(rw[if_pos (by omega)];simp;done)
   |(rw[if_neg (by omega),if_pos (by omega)];done)
   |(rw[if_neg (by omega),if_neg (by omega),if_pos (by omega)];simp;done)
   |(rw[if_neg (by omega),if_neg (by omega),if_neg (by omega)];done)
   |skip
 ·obtain rfl:i=s.size:=by omega
  have c8:=@km false (qP s s.size) ⟨#[34]⟩ (by omega)
  repeat' (first|(with_reducible first|refine am ?_|refine aj (by assumption) rfl ?_|refine ap (λhbr=>?_) λhbr=>?_)|simp(disch:=first|omega|(simp only[ak];omega)|simp only[al,Nat.reduceAdd]) only[go_sem,c8,Us])
  all_goals first|omega|rfl
theorem l0{L:List Nat}{i:Nat}(h:L.getD i 0<256):ah (cI L) i=L.getD i 0:=by
 unfold ah
 have e:(cI L)[i]? =(L[i]?).map UInt8.ofNat:=by
  have:(cI L)[i]? =(cI L).data.toList[i]?:=by
   by_cases hi:i<(cI L).size
   ·rw[getElem?_pos _ i hi,List.getElem?_eq_getElem (by simpa using hi)];rfl
   ·rw[getElem?_neg _ i hi,List.getElem?_eq_none (by simpa using hi)]
  rw[this,fX,List.getElem?_map]
 rw[e,List.getD_eq_getElem?_getD]at*
 cases hx:L[i]? with
 |none=>rfl
 |some x=>
  rw[hx]at h;simp only[Option.map_some,Option.getD_some,UInt8.toNat_ofNat']at h ⊢;omega
theorem DD(t:ByteArray):∀{n j},j<=n->∃R,qP t n=qP t j++R
 |0,j,h=>⟨[],by obtain rfl:j=0:=by omega
                simp⟩
 |n+1,j,h=>by
  by_cases e:j=n+1
  ·subst e;exact⟨[],by simp⟩
  ·obtain⟨R,hR⟩:=DD t (n:=n) (j:=j) (by omega);exact⟨R++qc (ah t n),by rw[qP,hR,List.append_assoc]⟩
theorem Sn{b:Nat}(h:b<256)(m:Nat):(qc b).getD m 0<256:=by
 have key:∀x∈qc b,x<256:=by
  intro x hx;unfold qc at hx;have h1:=dF gT (b / 16);have h2:=dF gT (b % 16);split at hx
  ·simp at hx;omega
  split at hx
  ·simp at hx;omega
  split at hx
  ·simp at hx;omega
  ·simp at hx;omega
 rw[List.getD_eq_getElem?_getD]
 cases hx:(qc b)[m]? with
 |none=>simp
 |some x=>exact key x (List.mem_of_getElem? hx)
theorem lZ(t:ByteArray):(ik t).size=(qP t t.size).length+1:=by
 unfold ik;rw[ej,List.length_append];rfl
theorem vH(t:ByteArray)(j:Nat):(qP t (j+1)).length=(qP t j).length+(qc (ah t j)).length:=by rw[qP,List.length_append]
theorem Af(t:ByteArray){n j:Nat}(h:j<=n):(qP t j).length<=(qP t n).length:=by
 obtain⟨R,hR⟩:=DD t h;rw[hR,List.length_append];omega
theorem T7{t:ByteArray}{j m:Nat}(hj:j<t.size)(hm:m<(qc (ah t j)).length):ah (ik t) ((qP t j).length+m)=(qc (ah t j)).getD m 0:=by
 obtain⟨R,hR⟩:=DD t (n:=t.size) (j:=j+1) hj
 have e:(qP t t.size++[34]).getD ((qP t j).length+m) 0=(qc (ah t j)).getD m 0:=by
  rw[hR,qP,List.getD_eq_getElem?_getD,List.append_assoc,List.append_assoc,List.getElem?_append_right (by omega),Nat.add_sub_cancel_left,List.getElem?_append_left hm,<-List.getD_eq_getElem?_getD]
 unfold ik;rw[l0 (by rw[e];exact Sn (dF t j) m),e]
def bl(t:ByteArray)(j:Nat):List Nat:=(List.range j).map (ah t)
theorem IV(t:ByteArray)(j:Nat):(bl t j).length=j:=by simp[bl]
theorem Kn(t:ByteArray)(j:Nat):bl t (j+1)=bl t j++[ah t j]:=by simp[bl,List.range_succ]
theorem N1(t:ByteArray):cI (bl t t.size)=t:=by
 apply ByteArray.ext;apply Array.ext';rw[fX];apply List.ext_getElem
 ·rw[List.length_map,IV];rfl
 ·intro i h1 h2;rw[List.getElem_map];simp only[bl,List.getElem_map,List.getElem_range];have hi:i<t.size:=h2;unfold ah;rw[getElem?_pos t i hi];simp only[Option.map_some,Option.getD_some,UInt8.ofNat_toNat];rfl
def JH:List Nat:=[48,49,50,51,52,53,54,55,56,57,97,98,99,100,101,102]
def xT(b:Nat):Nat:=JH.findIdx (· ==b)
theorem Ey(b:Nat):xT b<=16:=List.findIdx_le_length
theorem Fy:∀i,i<16->ah gT i=JH.getD i 0:=by decide
theorem IE{b i:Nat}(h:i<16)(hi:i=xT b):ah gT i=b:=by
 rw[Fy i h,List.getD_eq_getElem?_getD,List.getElem?_eq_getElem (show i<JH.length from h),Option.getD_some];subst hi
 have:=List.findIdx_getElem (xs:=JH) (p:=(· ==b)) (w:=h)
 simp only[beq_iff_eq]at this;exact this
theorem GP{b i:Nat}(h:i<xT b):ah gT i≠b:=by
 have h16:=Ey b;rw[Fy i (by omega),List.getD_eq_getElem?_getD,List.getElem?_eq_getElem (show i<JH.length by show i<16;omega),Option.getD_some];have:=List.not_of_lt_findIdx h;simpa using this
theorem Lw:∀k,k<16->xT (ah gT k)=k:=by decide
theorem Hg(b:Nat):aW Try.prog 73 [(false,[.sc (.int .u8 (b:Int))])] [(false,[.sc (.int .i64 (if xT b<16 then(xT b:Int)else 0))],true)]:=by
 have h16:=Ey b;refine ax Try.func73 rl rfl ?_;simp only[jU];simp(disch:=first|omega|(simp only[ak];omega)|simp only[al,Nat.reduceAdd]) only[go_sem,true_and];refine Dx (xT b) (λi=>[.sc (.int .i64 i)]) rfl λi hi=>?_
 simp only[jb];have hchr:i<16->By (some (.sc (.string ⟨#[48,49,50,51,52,53,54,55,56,57,97,98,99,100,101,102]⟩))) (some (.sc (.int .i64 (i:Int))))=some [.sc (.int .u8 (ah gT i))]:=λhk=>zZ (s:=gT) (by omega) (by have:gT.size=16:=rfl;omega)
 by_cases hlt:i<xT b
 ·have hne:=GP hlt;have hc:=hchr (by omega);have hd:¬(ah gT i:Int)=(b:Int):=λe=>hne (by omega)
  repeat' (first|(with_reducible first|refine am ?_|refine aj (by assumption) rfl ?_|refine ap (λhbr=>?_) λhbr=>?_)|simp(disch:=first|omega|(simp only[ak];omega)|simp only[al,Nat.reduceAdd]) only[go_sem,hc])
  all_goals first|omega|exact⟨rfl,hlt⟩|skip
 ·by_cases h:i<16
  ·have hh:=IE h (b:=b) (by omega);have hc:=hchr h;rw[hh]at hc
   repeat' (first|(with_reducible first|refine am ?_|refine aj (by assumption) rfl ?_|refine ap (λhbr=>?_) λhbr=>?_)|simp(disch:=first|omega|(simp only[ak];omega)|simp only[al,Nat.reduceAdd]) only[go_sem,hc])
   all_goals first|omega|exact yR (by rw[if_pos (by omega)];omega)
  ·repeat' (first|(with_reducible first|refine am ?_|refine aj (by assumption) rfl ?_|refine ap (λhbr=>?_) λhbr=>?_)|simp(disch:=first|omega|(simp only[ak];omega)|simp only[al,Nat.reduceAdd]) only[go_sem,true_and])
   all_goals first|omega|exact yR (by rw[if_neg (by omega)])
theorem zV{x y:Nat}(hx:x<256)(hy:y<256):cI [x]=cI [y]↔x=y:=by
 refine⟨λh=>?_,λh=>by rw[h]⟩;have h2:ah (cI [x]) 0=ah (cI [y]) 0:=by rw[h]
 rw[l0 (by simpa using hx),l0 (by simpa using hy)]at h2;simpa using h2
theorem L4{x:Nat}(hx:x<256):bE .eql false (some (.sc (.string (cI [x])))) (some (.sc (.string ⟨#[92]⟩)))=some [.sc (.bool (decide (x=92)))]:=by
 rw[Fs];exact congrArg (λz=>some [DV.sc (.bool z)]) (decide_eq_decide.2 (zV hx (y:=92) (by decide)))
theorem HO{x:Nat}(hx:x<256):bE .eql false (some (.sc (.string (cI [x])))) (some (.sc (.string ⟨#[110]⟩)))=some [.sc (.bool (decide (x=110)))]:=by
 rw[Fs];exact congrArg (λz=>some [DV.sc (.bool z)]) (decide_eq_decide.2 (zV hx (y:=110) (by decide)))
theorem M1{x:Nat}(hx:x<256):bE .eql false (some (.sc (.string (cI [x])))) (some (.sc (.string ⟨#[120]⟩)))=some [.sc (.bool (decide (x=120)))]:=by
 rw[Fs];exact congrArg (λz=>some [DV.sc (.bool z)]) (decide_eq_decide.2 (zV hx (y:=120) (by decide)))
theorem TB{t s:ByteArray}{j m:Nat}(hs:s=ik t)(hj:j<t.size)(hm:m<(qc (ah t j)).length){a b:Int}(ha:a=((qP t j).length+m:Nat))(hb:b=((qP t j).length+m+1:Nat)):
 lr (some (.sc (.string s))) (some (some a)) (some (some b))=some [.sc (.string (cI [(qc (ah t j)).getD m 0]))]:=by
 subst ha hb;have h1:=vH t j;have h2:=Af t (n:=t.size) (j:=j+1) hj;have h3:=lZ t;rw[F9 (by omega) (by omega) (by rw[hs];omega),<-T7 hj hm,<-hs];exact congrArg (λz=>some [DV.sc (.string z)]) (vC (by rw[hs];omega))
theorem TP{t s:ByteArray}{j m:Nat}(hs:s=ik t)(hj:j<t.size)(hm:m<(qc (ah t j)).length){k:IntKind}{a:Int}(ha:a=((qP t j).length+m:Nat)):
 By (some (.sc (.string s))) (some (.sc (.int k a)))=some [.sc (.int .u8 ((qc (ah t j)).getD m 0:Nat))]:=by
 subst ha;have h1:=vH t j;have h2:=Af t (n:=t.size) (j:=j+1) hj;have h3:=lZ t;rw[zZ (by omega) (by rw[hs];omega),hs,Int.toNat_natCast,T7 hj hm]
theorem Ek(l:List Nat)(x:Nat):cI l++cI [x]=cI (l++[x]):=(jE l [x]).symm
set_option maxHeartbeats 8000000 in
theorem DO(t s:ByteArray)(hs:s=ik t)(ht:t.size<=1000000000):aW Try.prog 64 [(false,[.sc (.string s)])] [(false,[.sc (.string t)],true),(false,[.sc (.bool true)],true)]:=by
 have hq:=za t (by omega);rw[<-hs]at hq;have hsz:=lZ t;rw[<-hs]at hsz;have hQn:=Dh t t.size;refine ax Try.func64 eO rfl ?_;simp only[dq];simp(disch:=first|omega|(simp only[ak];omega)|simp only[al,Nat.reduceAdd]) only[go_sem,true_and];refine Dx t.size (λj=>[.sc (.int .i64 ((qP t j).length:Nat)),.sc (.string (cI (bl t j)))]) rfl λj hj=>?_
 simp only[da];have hbl:=IV t j;by_cases hlt:j<t.size
 ·have hstep:=vH t j;have hmono:=Af t (n:=t.size) (j:=j+1) hlt;have hb:=dF t j;have hbs:=Kn t j;have c0:=λm hm a b ha hb'=>@TB t s j m hs hlt hm a b ha hb'
  have k0:=λm hm k a ha=>@TP t s j m hs hlt hm k a ha
  rw[hstep,hbs];generalize hB:ah t j=b at *;have ecat:=@km false (bl t j) (cI [b]) (by rw[ej,List.length_singleton];omega);rw[Ek]at ecat;by_cases h1:b=34\/b=92
  ·have hqc:qc b=[92,b]:=by unfold qc;rw[if_pos h1]
   rw[hqc]at c0 k0 hstep ⊢;have e0:=c0 0 (by simp) ((qP t j).length:Nat) ((qP t j).length+1:Nat) rfl rfl;have e1:=c0 1 (by simp) ((qP t j).length+1:Nat) ((qP t j).length+1+1:Nat) rfl rfl;have f0:=@L4 92 (by decide);have f1:=@HO b hb;have f2:=@M1 b hb;rw[decide_eq_false (by omega)]at f1 f2;rw[decide_eq_true rfl]at f0;simp only[List.getD_cons_zero,List.getD_cons_succ,List.length_cons,List.length_nil]at e0 e1 hstep ⊢
   repeat' (first|(with_reducible first|refine am ?_|refine aj (by assumption) rfl ?_|refine ap (λhbr=>?_) λhbr=>?_)|simp(disch:=first|omega|(simp only[ak];omega)|simp only[al,Nat.reduceAdd]) only[go_sem,e0,e1,f0,f1,f2,ecat,bC])
   all_goals first|omega|exact⟨rfl,hlt⟩|skip
  by_cases h2:b=10
  ·have hqc:qc b=[92,110]:=by unfold qc;rw[if_neg h1,if_pos h2]
   rw[hqc]at c0 k0 hstep ⊢;have e0:=c0 0 (by simp) ((qP t j).length:Nat) ((qP t j).length+1:Nat) rfl rfl;have e1:=c0 1 (by simp) ((qP t j).length+1:Nat) ((qP t j).length+1+1:Nat) rfl rfl;have f0:=@L4 92 (by decide);have f1:=@HO 110 (by decide);rw[decide_eq_true rfl]at f0 f1;subst h2;have ecat:bE .add false (some (.sc (.string (cI (bl t j))))) (some (.sc (.string ⟨#[10]⟩)))=some [.sc (.string (cI (bl t j++[10])))]:=ecat;simp only[List.getD_cons_zero,List.getD_cons_succ,List.length_cons,List.length_nil]at e0 e1 hstep ⊢
   repeat' (first|(with_reducible first|refine am ?_|refine aj (by assumption) rfl ?_|refine ap (λhbr=>?_) λhbr=>?_)|simp(disch:=first|omega|(simp only[ak];omega)|simp only[al,Nat.reduceAdd]) only[go_sem,e0,e1,f0,f1,ecat,bC])
   all_goals first|omega|exact⟨rfl,hlt⟩|skip
  by_cases h3:b<32\/126<b
  ·have hqc:qc b=[92,120,ah gT (b / 16),ah gT (b % 16)]:=by unfold qc;rw[if_neg h1,if_neg h2,if_pos h3]
   rw[hqc]at c0 k0 hstep ⊢;have e0:=c0 0 (by simp) ((qP t j).length:Nat) ((qP t j).length+1:Nat) rfl rfl;have e1:=c0 1 (by simp) ((qP t j).length+1:Nat) ((qP t j).length+1+1:Nat) rfl rfl;have k2:=k0 2 (by simp) .i64 ((qP t j).length+1+1:Nat) rfl;have k3:=k0 3 (by simp) .i64 ((((qP t j).length+1:Nat):Int)+2) (by omega);have f0:=@L4 92 (by decide);have f1:=@HO 120 (by decide);have f2:=@M1 120 (by decide);rw[decide_eq_true rfl]at f0 f2;rw[decide_eq_false (by decide)]at f1;have n1:=Hg (ah gT (b / 16));have n2:=Hg (ah gT (b % 16));rw[Lw _ (by omega),if_pos (by omega)]at n1 n2;have hw:IntKind.u8.wrap (((b / 16:Nat):Int)*16+((b % 16:Nat):Int))=(b:Int):=by rw[BK (by omega) (by omega)];omega
   have hcv:Dk (some (.sl 5 1 [[.sc (.int .u8 (b:Int))]]))=some [.sc (.string (cI [b]))]:=Sx (l:=[b]);simp only[List.getD_cons_zero,List.getD_cons_succ,List.length_cons,List.length_nil]at e0 e1 k2 k3 hstep ⊢
   repeat' (first|(with_reducible first|refine am ?_|refine aj (by assumption) rfl ?_|refine ap (λhbr=>?_) λhbr=>?_)|simp(disch:=first|omega|(simp only[ak];omega)|simp only[al,Nat.reduceAdd]) only[go_sem,e0,e1,k2,k3,f0,f1,f2,hw,hcv,ecat,bC])
   all_goals first|omega|exact⟨rfl,hlt⟩|skip
  ·have hqc:qc b=[b]:=by unfold qc;rw[if_neg h1,if_neg h2,if_neg h3]
   rw[hqc]at c0 k0 hstep ⊢;have e0:=c0 0 (by simp) ((qP t j).length:Nat) ((qP t j).length+1:Nat) rfl rfl;simp only[List.getD_cons_zero]at e0;have e1:=@L4 b hb;rw[decide_eq_false (by omega)]at e1;simp only[List.length_singleton]at hstep ⊢
   repeat' (first|(with_reducible first|refine am ?_|refine aj (by assumption) rfl ?_|refine ap (λhbr=>?_) λhbr=>?_)|simp(disch:=first|omega|(simp only[ak];omega)|simp only[al,Nat.reduceAdd]) only[go_sem,e0,e1,ecat,bC])
   all_goals first|omega|exact⟨rfl,hlt⟩|skip
 ·obtain rfl:j=t.size:=by omega
  have hall:=N1 t;rw[hall]
  repeat' (first|(with_reducible first|refine am ?_|refine aj (by assumption) rfl ?_|refine ap (λhbr=>?_) λhbr=>?_)|simp(disch:=first|omega|(simp only[ak];omega)|simp only[al,Nat.reduceAdd]) only[go_sem,true_and])
  all_goals first|omega|rfl|skip
def xQ(b:Nat):Int:=if xT b<16 then(xT b:Int)else 0
theorem EG(b:Nat):0<=xQ b/\xQ b<=15:=by unfold xQ;split<;>omega
theorem I3(b:Nat):aW Try.prog 73 [(false,[.sc (.int .u8 (b:Int))])] [(false,[.sc (.int .i64 (xQ b))],true)]:=Hg b
theorem QN(z:Int):∃t:ByteArray,t.size=1/\Dk (some (.sl 5 1 [[.sc (.int .u8 z)]]))=some [.sc (.string t)]:=by
 refine⟨strOfNums [z],?_,MP rfl⟩;have:(strOfNums [z]).data.toList.length=1:=by rw[strOfNums_data];rfl
 simpa using this
set_option maxHeartbeats 8000000 in
theorem C8(s:ByteArray)(hs:∀t,ik t≠s)(hz:s.size<=1000000000):aW Try.prog 64 [(false,[.sc (.string s)])] [(false,[.sc (.string ⟨#[]⟩)],true),(false,[.sc (.bool false)],true)]:=by
 refine ax Try.func64 eO rfl ?_;simp only[dq];simp(disch:=first|omega|(simp only[ak];omega)|simp only[al,Nat.reduceAdd]) only[go_sem,true_and];refine lp (λa:Nat×ByteArray=>[.sc (.int .i64 (a.1:Nat)),.sc (.string a.2)]) (λa=>1<=a.1/\a.2.size<=a.1/\a.1<=s.size+4) (λa=>s.size+5-a.1) (1,⟨#[]⟩) rfl ⟨Nat.le_refl _,Nat.zero_le _,by omega⟩ ?_;rintro⟨i,o⟩ ⟨h1,h2,h3⟩;simp only at h1 h2 h3 ⊢;simp only[da];by_cases hlt:i+1<s.size
 ·have b1:=EG (ah s (i+1+1));have b2:=EG (ah s (i+1+2));have hw:IntKind.u8.wrap (xQ (ah s (i+1+1))*16+xQ (ah s (i+1+2)))=xQ (ah s (i+1+1))*16+xQ (ah s (i+1+2)):=BK (by omega) (by omega);obtain⟨ct,ct1,ct2⟩:=QN (xQ (ah s (i+1+1))*16+xQ (ah s (i+1+2)));have n1:=I3 (ah s (i+1+1));have n2:=I3 (ah s (i+1+2));have x1:(s.extract i (i+1)).size<=1:=by rw[ByteArray.size_extract];omega
  have x2:(s.extract (i+1) (i+1+1)).size<=1:=by rw[ByteArray.size_extract];omega
  have z10:(⟨#[10]⟩:ByteArray).size=1:=rfl;have ti:((((i+1:Nat):Int)+2).toNat)=i+1+2:=by omega
  have m:maxLen=9223372036854775807:=rfl
  repeat' (first|(with_reducible refine am ?_)|(with_reducible refine aj (by assumption) rfl ?_)|(with_reducible refine ap (λhbr=>?_) λhbr=>?_)|simp(disch:=first|omega|(simp only[ByteArray.size_append,jp,List.size_toArray,List.length_cons,List.length_nil,Nat.zero_add,Nat.reduceAdd,aX];omega)|(simp only[List.length_append,List.map_cons,List.map_nil,List.length_map,List.length_cons,List.length_nil];omega)|(simp only[List.length_cons,List.length_nil,Nat.zero_add,Nat.reduceAdd])) only[go_sem,bD,ByteArray.append_assoc,MD,Mz,Dd,BE,BO,OX,Su,MR,MO,Js,MN,hw,ct2,ti,Int.toNat_natCast,bC])
  all_goals first
   |omega
   |exact⟨(i+1,_),rfl,⟨by omega,by simp only[ByteArray.size_append];omega,by omega⟩,by simp only;omega⟩
   |exact⟨(i+1+1,_),rfl,⟨by omega,by simp only[ByteArray.size_append];omega,by omega⟩,by simp only;omega⟩
   |exact⟨(i+1+2+1,_),by congr 3,⟨by omega,by simp only[ByteArray.size_append];omega,by omega⟩,by simp only;omega⟩
   |skip
 ·have hq:=za o (by omega);have hne:=hs o
  repeat' (first|(with_reducible first|refine am ?_|refine aj (by assumption) rfl ?_|refine ap (λhbr=>?_) λhbr=>?_)|simp(disch:=first|omega|(simp only[ak];omega)|simp only[al,Nat.reduceAdd]) only[go_sem,true_and])
  all_goals first|omega|rfl|exact absurd ‹ik o=s› hne|skip
def qZ:List aY:=[⟨1000012,1,⟨[aa 4 11,aa 55 10,aa 14 6,aa 6 7,aa 5 8,aa 3 2,aa 2 1,aa 0 0],[],0,0,12,[(2,false)]⟩,[]⟩,⟨11,1,⟨[aa 55 10,aa 14 6,aa 6 7,aa 5 8,aa 4 9,aa 3 2,aa 2 1,aa 0 0],[],0,0,11,[(2,false)]⟩,[]⟩,⟨2000000,4,⟨[aa 14 6,aa 6 7,aa 5 8,aa 4 9,aa 3 2,aa 2 1,aa 0 0],[],0,0,10,[(2,false)]⟩,[]⟩,⟨2000001,3,⟨[aa 24 13,aa 14 12,aa 6 6,aa 5 14,aa 4 15,aa 3 2,aa 2 1,aa 0 0],[],0,0,16,[(12,true),(10,true),(2,false)]⟩,[]⟩,⟨6,1,⟨[aa 24 13,aa 14 12,aa 6 6,aa 5 7,aa 4 8,aa 3 2,aa 2 1,aa 0 0],[],0,0,14,[(12,true),(10,true),(2,false)]⟩,[]⟩,⟨3000004,3,⟨[aa 6 6,aa 5 7,aa 4 8,aa 3 2,aa 2 1,aa 0 0],[],0,0,9,[(2,false)]⟩,[]⟩]
def qW:List (Nat×Nat×Bool×List Nat):=[]
def bY:UP:=.ite 0 (.jump 2 [0,2,1])<|.h 4 3<|.po (.k (.int .u8 48))<|.b .lss 1 0<|.ite 0 (.t<|.i 0<|.f<|.c 1<|.c 0<|.ret [(false,[1]),(false,[0])])<|.h 7 6<|.po (.k (.int .u8 57))<|.b .gtr 1 0<|.ite 0 (.i 0<|.f<|.c 1<|.c 0<|.ret [(false,[1]),(false,[0])])<|.i 10<|.b .mul 8 0<|.h 12 11<|.po (.k (.int .u8 48))<|.b .sub 1 0<|.po (.cvI .i64 0)<|.a 4 0<|.i 1<|.a 16 0<|.jump 2 [15,0,2]
def bU:UP:=.i 1<|.a 6 0<|.jump 1 [0,3,2]
def iN:UP:=.m 8<|.b .lss 3 0<|.ite 0 (.i 10<|.b .lss 4 0<|.ite 0 (.sel [4,5,6,12]<|.join 3 bU<|.join 1 bY<|.i 0<|.e 3 0<|.ite 0 (.h 5 4<|.po (.k (.int .u8 45))<|.e 1 0<|.jump 3 [0])<|.f<|.jump 3 [0])<|.jump 0 [0,6,5,4])<|.f<|.jump 0 [0,5,4,3]
def dz:UP:=.i 1<|.b .lss 4 0<|.ite 0 (.t<|.t<|.i 0<|.f<|.c 1<|.c 0<|.ret [(false,[1]),(false,[0])])<|.i 9<|.b .gtr 6 0<|.ite 0 (.t<|.i 0<|.f<|.c 1<|.c 0<|.ret [(false,[1]),(false,[0])])<|.sel [4,8]<|.cl 37 [(false,[0])] aP<|.b .neq 0 2<|.ite 0 (.i 0<|.f<|.c 1<|.c 0<|.ret [(false,[1]),(false,[0])])<|.t<|.c 3<|.c 0<|.ret [(false,[3]),(false,[0])]
def dt:UP:=.join 1 dz<|.ite 0 (.po (.un .neg 1)<|.jump 0 [0])<|.jump 0 [1]
def du:UP:=.sel [0,1,9]<|.join 1 dt<|.i 0<|.b .gtr 2 0<|.ite 0 (.i 10<|.b .lss 4 0<|.ite 0 (.i 0<|.h 7 0<|.po (.k (.int .u8 45))<|.e 1 0<|.jump 0 [0])<|.f<|.jump 0 [0])<|.f<|.f<|.jump 0 [0]
def jw:UP:=.i 0<|.f<|.i 0<|.i 0<|.i 0<|.join 4 du<|.loop [0,1,2] iN
theorem rU:bk Try.prog 63 Try.f63 di qZ qW=some ([(false,1)],jw):=by kernel_rfl
def kv:List aY:=[⟨2000001,1,⟨[aa 37 6,aa 7 5,aa 3 3,aa 2 1,aa 0 0],[],0,0,7,[(5,true),(1,false)]⟩,[]⟩,⟨3000002,1,⟨[aa 3 3,aa 2 1,aa 0 0],[],0,0,4,[(1,false)]⟩,[]⟩]
def kg:List (Nat×Nat×Bool×List Nat):=[]
def dX:UP:=.i 1<|.a 2 0<|.jump 0 [0]
def dW:UP:=.m 3<|.b .lss 1 0<|.ite 0 (.sel [2,5]<|.join 1 dX<|.h 1 0<|.cl 65 [(false,[0])] aP<|.n 0<|.ite 0 (.h 4 3<|.po (.k (.int .u8 46))<|.b .neq 1 0<|.ite 0 (.i 0<|.e 7 0<|.ite 0 (.t<|.f<|.c 0<|.r 0)<|.h 9 8<|.sel [0,9,10]<|.cl 62 [(false,[0])] aP<|.n 0<|.ite 0 (.h 4 3<|.po (.k (.int .u8 95))<|.b .neq 1 0<|.ite 0 (.f<|.c 0<|.r 0)<|.jump 1 [0])<|.f<|.jump 1 [0])<|.f<|.jump 1 [0])<|.f<|.f<|.jump 1 [0])<|.sel [5]<|.cl 48 [(false,[0])] aP<|.ite 0 (.cl 66 [(false,[1])] aP<|.n 0<|.ite 0 (.i 0<|.h 4 0<|.po (.k (.int .u8 46))<|.b .neq 1 0<|.ite 0 (.t<|.t<|.c 0<|.r 0)<|.m 7<|.i 1<|.e 1 0<|.ite 0 (.t<|.c 0<|.r 0)<|.i 1<|.h 11 0<|.sel [0]<|.cl 62 [(false,[0])] aP<|.n 0<|.c 0<|.r 0)<|.f<|.c 0<|.r 0)<|.f<|.f<|.c 0<|.r 0
def eg:UP:=.f<|.i 0<|.loop [0] dW
theorem ke:bk Try.prog 67 Try.f67 di kv kg=some ([(false,1)],eg):=by kernel_rfl
def sN:List aY:=[]
def tv:List (Nat×Nat×Bool×List Nat):=[]
def kH:UP:=.f<|.po (.k (.int .u8 48))<|.b .geq 2 0<|.ite 0 (.po (.k (.int .u8 57))<|.b .leq 4 0<|.c 0<|.r 0)<|.f<|.c 0<|.r 0
theorem tD:bk Try.prog 62 Try.f62 di sN tv=some ([(false,1)],kH):=by kernel_rfl
def sf:List aY:=[]
def rP:List (Nat×Nat×Bool×List Nat):=[]
def jL:UP:=.f<|.po (.k (.int .u8 97))<|.b .geq 2 0<|.ite 0 (.po (.k (.int .u8 122))<|.b .leq 4 0<|.ite 0 (.t<|.c 0<|.r 0)<|.po (.k (.int .u8 65))<|.b .geq 6 0<|.ite 0 (.po (.k (.int .u8 90))<|.b .leq 8 0<|.c 0<|.r 0)<|.f<|.c 0<|.r 0)<|.f<|.po (.k (.int .u8 65))<|.b .geq 5 0<|.ite 0 (.po (.k (.int .u8 90))<|.b .leq 7 0<|.c 0<|.r 0)<|.f<|.c 0<|.r 0
theorem rA:bk Try.prog 65 Try.f65 di sf rP=some ([(false,1)],jL):=by kernel_rfl
def oD:List aY:=[]
def oQ:List (Nat×Nat×Bool×List Nat):=[]
def gB:UP:=.f<|.s #[105,102]<|.s #[101,108,115,101]<|.s #[102,111,114]<|.s #[105,110]<|.s #[119,104,105,108,101]<|.s #[98,114,101,97,107]<|.s #[110,101,120,116]<|.s #[102,117,110,99,116,105,111,110]<|.s #[114,101,116,117,114,110]<|.s #[84,82,85,69]<|.s #[70,65,76,83,69]<|.s #[78,85,76,76]<|.s #[78,65]<|.s #[78,65,95,110,117,109,98,101,114,95]<|.s #[78,65,95,99,104,97,114,97,99,116,101,114,95]<|.s #[116,114,121,67,97,116,99,104]<|.s #[119,105,116,104,67,97,108,108,105,110,103,72,97,110,100,108,101,114,115]<|.s #[119,105,116,104,82,101,115,116,97,114,116]<|.s #[105,110,118,111,107,101,82,101,115,116,97,114,116]<|.s #[109,105,115,115,105,110,103]<|.s #[111,110,46,101,120,105,116]<|.s #[85,115,101,77,101,116,104,111,100]<|.s #[78,101,120,116,77,101,116,104,111,100]<|.c 22<|.c 21<|.c 20<|.c 19<|.c 18<|.c 17<|.c 16<|.c 15<|.c 14<|.c 13<|.c 12<|.c 11<|.c 10<|.c 9<|.c 8<|.c 7<|.c 6<|.c 5<|.c 4<|.c 3<|.c 2<|.c 1<|.c 0<|.po (.mk 9 1 [[22],[21],[20],[19],[18],[17],[16],[15],[14],[13],[12],[11],[10],[9],[8],[7],[6],[5],[4],[3],[2],[1],[0]])<|.sel [0,25]<|.cl 54 [(false,[0]),(false,[1])] aP<|.c 0<|.r 0
theorem oK:bk Try.prog 66 Try.f66 di oD oQ=some ([(false,1)],gB):=by kernel_rfl
end Go.Proofs.Ytngaddcgmnonbaa
