/- Proved: for every input the law 'FnGetPut' returns true and its arguments read behind the call as before: part 3 of its proof. No condition. -/
import Derived.WalkKit
import Derived.Lib.Hide
import Derived.WalkSpells
import Derived.Laws.OwnMore
import Derived.Deep.AppendLies
import Derived.Deep.Draws
import Derived.Maps.AppendAt
import Derived.RegionTactic
import Derived.OwnWalk
import Derived.Below
import Derived.Laws.AppendOwnNone
import Derived.Deep.QuietTactic
import Derived.BigQuiet
import Derived.StillTailTactics
import Derived.Laws.Cells
import Derived.Laws.IdiomCopy
import Derived.ChangeKeysEq
import Derived.Laws.BytesArg
import Derived.Laws.StructEq
import Derived.Laws.Tables
import Derived.Great.BuildSlice
import Derived.StillTail
import Derived.OrdersHeld
import Derived.Test.YtgdbmcoamemmaaaProg
import Derived.Test.YtgdbmcoamemmaaaFnGetPutQ2
set_option linter.unusedVariables false
set_option linter.unusedSimpArgs false
namespace Go.Proofs.Ytgdbmcoamemmaaa
open Go.RowKit
inductive Pg where
 |nd (n:Nd) (k:Pg)
 |ite (x:Nat) (a b:Pg)
 |jump (l:Nat) (xs:List Nat)
 |join (n:Nat) (rest k:Pg)
 |loop (xs:List Nat) (body:Pg)
 |ret (xs:List (Bool×List Nat))
abbrev Lbl:=List (List DV->Prop)
def W(P:Program)(R:List (Bool×List DV)->Prop):Pg->Lbl->List DV->Prop
 |.nd (.po o) k,L,ρ=>(match aA ρ o with|some out=>W P R k L (ρ++out)|none=>False)
 |.nd (.mark f b xs j) k,L,ρ=>∃ds ds' n n',gL ρ (xs.map (·.1))=some ds/\ρ[j]? =some (.sc (.int .i64 n))/\FP P f b ds n ds' n'/\yN xs ds ds'/\W P R k L (ρ++(ds'++[.sc (.int .i64 n')]))
 |.nd (.call f a sh) k,L,ρ=>∃ys res,dc ρ a=some ys/\ib P f ys res/\c9 sh res=true/\W P R k L (ρ++ca res)
 |.ite x a b,L,ρ=>(match ρ[x]? with|some (.sc (.bool c))=>(match c with|true=>W P R a L ρ|false=>W P R b L ρ)|_=>False)
 |.jump l xs,L,ρ=>∃J vs,L[l]? =some J/\gL ρ xs=some vs/\J vs
 |.join n rest k,L,ρ=>∃J:List DV->Prop,(∀vs,vs.length=n->J vs->W P R rest L (ρ++vs))/\W P R k (L++[J]) ρ
 |.loop xs body,L,ρ=>∃(I:List DV->Nat->Prop) (m:Nat) (vs:List DV),gL ρ xs=some vs/\I vs m/\∀vs m,vs.length=xs.length->I vs m->W P R body (L++[λvs'=>∃m',m'<m/\I vs' m']) (ρ++vs)
 |.ret xs,L,ρ=>∃vs,dc ρ xs=some vs/\R vs
def dE:List Nd->Pg->Pg
 |[],k=>k
 |n::r,k=>.nd n (dE r k)
theorem gK{P:Program}{R:List (Bool×List DV)->Prop}{k:Pg}{L:Lbl}:∀{l:List Nd} {ρ:List DV},W P R (dE l k) L ρ->WN P l (λρ'=>W P R k L ρ'/\aQ ρ ρ') ρ:=by
 have key:∀{l:List Nd} {ρ ρ0:List DV},aQ ρ0 ρ->W P R (dE l k) L ρ->WN P l (λρ'=>W P R k L ρ'/\aQ ρ0 ρ') ρ:=by
  intro l
  induction l with
  |nil=>intro ρ ρ0 hp h;exact⟨h,hp⟩
  |cons n r ih=>
   intro ρ ρ0 hp h
   cases n with
   |po o=>
    simp[dE,W,WN]at h ⊢;split
    ·rename_i out ho;rw[ho]at h;exact ih (hp.trans (aQ.app _ _)) h
    grind
   |call f a sh=>
    simp[dE,W,WN]at h ⊢;obtain⟨ys,res,h1,h2,h3,h4⟩:=h
    exact⟨ys,res,h1,h2,h3,ih (hp.trans (aQ.app _ _)) h4⟩
   |mark f b xs j=>
    simp[dE,W,WN]at h ⊢;obtain⟨ds,ds',n,n',h1,h2,h3,h4,h5⟩:=h;exact⟨ds,ds',n,n',h1,h2,h3,h4,ih (hp.trans (aQ.app _ _)) h5⟩
 simp_all[aQ.refl]
section
variable (base:Nat)(π ψ φ:List Nat)
def mD(p i:Nat):Bool:=if p<base then decide (p=i)else decide (π[p-base]? =some i)
def Rk:List Nat->List Nat->Bool
 |[],[]=>true
 |p::ps,i::is=>mD base π p i&&Rk ps is
 |_,_=>false
def mC:SC->SC->Bool
 |.d p,.d i=>mD base π p i
 |.nil,.nil=>true
 |.own i st,.own i' st'=>decide (φ[i]? =some i'/\ψ[st]? =some st')
 |.ptr i st off,.ptr i' st' off'=>decide (φ[i]? =some i'/\ψ[st]? =some st'/\off'=off)
 |.elt i st k j off,.elt i' st' k' j' off'=>decide (φ[i]? =some i'/\ψ[st]? =some st'/\k'=k/\off'=off)&&mD base π j j'
 |.sub i st k z m,.sub i' st' k' z' m'=>decide (φ[i]? =some i'/\ψ[st]? =some st'/\k'=k)&&(mD base π z z'&&mD base π m m')
 |.emp,.emp=>true
 |.rd ps,.rd is=>Rk base π ps is
 |_,_=>false
def Mi:List SC->List SC->Bool
 |[],[]=>true
 |x::xs,y::ys=>mC base π ψ φ x y&&Mi xs ys
 |_,_=>false
def mT:List (Bool×List SC)->List (Bool×List SC)->Bool
 |[],[]=>true
 |x::xs,y::ys=>decide (x.1=y.1)&&(Mi base π ψ φ x.2 y.2&&mT xs ys)
 |_,_=>false
def mV:SV->SV->Bool
 |.p b cs,.p b' cs'=>decide (b=b')&&Mi base π ψ φ cs cs'
 |.tup xs,.tup ys=>mT base π ψ φ xs ys
 |_,_=>false
def mH:Option (Nat×Nat×Nat×Nat)->Option (Nat×Nat×Nat×Nat)->Bool
 |none,none=>true
 |some (j,off,n,sn),some (j',off',n',sn')=>decide (φ[n]? =some n'/\ψ[sn]? =some sn'/\off=off')&&mD base π j j'
 |_,_=>false
def mO:SO->SO->Bool
 |.var st t cs,.var st' t' cs'=>decide (ψ[st]? =some st'/\t=t')&&Mi base π ψ φ cs cs'
 |.row st t k x,.row st' t' k' x'=>decide (ψ[st]? =some st'/\t=t'/\k=k')&&mD base π x x'
 |.frz st x,.frz st' x'=>decide (ψ[st]? =some st')&&mD base π x x'
 |.dx st x,.dx st' x'=>decide (ψ[st]? =some st')&&mD base π x x'
 |.cur st id t z,.cur st' id' t' z'=>decide (ψ[st]? =some st'/\id=id'/\t=t')&&mD base π z z'
 |.pvr st t cs,.pvr st' t' cs'=>decide (ψ[st]? =some st'/\t=t')&&Mi base π ψ φ cs cs'
 |.shr st t k x,.shr st' t' k' x'=>decide (ψ[st]? =some st'/\t=t'/\k=k')&&mD base π x x'
 |.opn st k x q,.opn st' k' x' q'=>decide (ψ[st]? =some st'/\k=k')&&(mD base π x x'&&mH base π ψ φ q q')
 |_,_=>false
def QM(H S:Sy):Bool:=
 (H.sl.all λp=>match aK S.sl p.1 with|some v=>mV base π ψ φ p.2 v|none=>false)&&
 ((H.ob.all λp=>decide (p.1<H.n)&&(match p.2 with|.dead=>true|o=>match φ[p.1]? with|some i=>(match aK S.ob i with|some o'=>mO base π ψ φ o o'|none=>false)|none=>false))&&
 ((H.kn.all λp=>decide (p.1<base/\aK S.kn p.1=some p.2))&&
 (decide (φ.length=H.n/\φ.Nodup/\ψ.length=H.c/\H.m=base+π.length)&&φ.all λi=>decide (i<S.n))))
end
section
variable {base:Nat}{π ψ φ:List Nat}{ρ ρ' vs:List DV}{σ:List Nat}{H S:Sy}{s:AS}
def fφ(φ:List Nat)(i:Nat):Nat:=(φ[i]?).getD 0
def sψ(ψ σ:List Nat):List Nat:=ψ.map λst=>(σ[st]?).getD 0
theorem gh{st st' x:Nat}(h:ψ[st]? =some st')(hx:σ[st']? =some x):(sψ ψ σ)[st]? =some x:=by
 grind[sψ]
theorem oO{i i':Nat}(h:φ[i]? =some i'):fφ φ i=i':=by grind[fφ]
structure Bu(base:Nat)(π:List Nat)(ρ ρ' vs:List DV):Prop where
 len:ρ.length=base
 pre:aQ ρ ρ'
 vs:RD ρ' π vs
theorem RD.at:∀{xs:List Nat} {ds:List DV} {i j:Nat},RD ρ xs ds->xs[i]? =some j->∃x,ds[i]? =some x/\ρ[j]? =some x
 |x::xs,d::ds,0,j,h,hi=>by simp at hi;subst hi;exact⟨d,rfl,h.1⟩
 |x::xs,d::ds,i+1,j,h,hi=>by obtain⟨y,h1,h2⟩:=RD.at (i:=i) h.2 (by simpa using hi);grind
 |[],[],i,j,h,hi=>by grind
 |[],_::_,_,_,h,_=>h.elim
 |_::_,[],_,_,h,_=>h.elim
theorem mY(M:Bu base π ρ ρ' vs){p i:Nat}{x:DV}(h:mD base π p i=true)(hx:ρ'[i]? =some x):(ρ++vs)[p]? =some x:=by
 unfold mD at h;split at h
 ·rename_i hp;obtain rfl:=of_decide_eq_true h;obtain⟨e,rfl⟩:=M.pre;rw[List.getElem?_append_left (by rw[M.len];exact hp)]at hx ⊢;exact hx
 ·rename_i hp;obtain⟨y,y1,y2⟩:=M.vs.at (of_decide_eq_true h);rw[hx]at y2;cases y2;rw[List.getElem?_append_right (by rw[M.len];omega),M.len];exact y1
theorem K3(M:Bu base π ρ ρ' vs):∀{ps is:List Nat} {xs:List DV},Rk base π ps is=true->RD ρ' is xs->RD (ρ++vs) ps xs
 |[],[],[],_,_=>trivial
 |p::ps,i::is,x::xs,h,hx=>by
  simp[Rk,Bool.and_eq_true]at h
  exact⟨mY M h.1 hx.1,K3 M h.2 hx.2⟩
 |[],[],_::_,_,hx=>hx.elim
 |_::_,_::_,[],_,hx=>hx.elim
 |[],_::_,_,h,_=>by grind[Rk]
 |_::_,[],_,h,_=>by grind[Rk]
theorem TP(M:Bu base π ρ ρ' vs){c c':SC}{y:AC}(h:mC base π ψ φ c c'=true)(hy:RC ρ' σ c' y):∃z,RC (ρ++vs) (sψ ψ σ) c z/\qR (fφ φ) z=y:=by
 cases c<;>cases c'<;>first|(simp[mC]at h;done)|skip
 ·obtain⟨x,rfl,hx⟩:=pG hy;exact⟨.d x,mY M h hx,rfl⟩
 ·cases y<;>first|exact hy.elim|exact⟨.nil,trivial,rfl⟩
 ·cases y<;>first|exact hy.elim|skip
  rename_i i st i' st' a b;simp[mC,decide_eq_true_eq]at h;obtain⟨rfl,h1⟩:=hy;exact⟨.own i b,⟨rfl,gh h.2 h1⟩,by grind[qR,oO]⟩
 ·cases y<;>first|exact hy.elim|skip
  rename_i i st off i' st' off' a b d;simp[mC,decide_eq_true_eq]at h;obtain⟨rfl,h1,rfl⟩:=hy;obtain⟨g1,g2,rfl⟩:=h;exact⟨.ptr i b d,⟨rfl,gh g2 h1,rfl⟩,by grind[qR,oO]⟩
 ·cases y<;>first|exact hy.elim|skip
  rename_i i st k j off i' st' k' j' off' a b kk jj d;simp[mC,Bool.and_eq_true,decide_eq_true_eq]at h;obtain⟨rfl,h1,rfl,⟨kd,z,z1,z2,rfl⟩,rfl⟩:=hy;obtain⟨⟨g1,g2,rfl,rfl⟩,g3⟩:=h;exact⟨.elt i b kk z.toNat d,⟨rfl,gh g2 h1,rfl,⟨kd,z,mY M g3 z1,z2,rfl⟩,rfl⟩,by grind[qR,oO]⟩
 ·cases y<;>first|exact hy.elim|skip
  exact⟨.rd _,K3 M h hy,rfl⟩
 ·cases y<;>first|exact hy.elim|skip
  rename_i i st k z m i' st' k' z' m' a b kk lo n;simp[mC,Bool.and_eq_true,decide_eq_true_eq]at h;obtain⟨rfl,h1,rfl,⟨u,u1,u2,rfl⟩,⟨v,v1,v2,rfl⟩⟩:=hy;obtain⟨⟨g1,g2,rfl⟩,g3,g4⟩:=h;exact⟨.sub i b kk u.toNat v.toNat,⟨rfl,gh g2 h1,rfl,⟨u,mY M g3 u1,u2,rfl⟩,⟨v,mY M g4 v1,v2,rfl⟩⟩,by grind[qR,oO]⟩
 ·cases y<;>first|exact hy.elim|exact⟨.emp,trivial,rfl⟩
theorem yQ(M:Bu base π ρ ρ' vs):∀{cs cs':List SC} {ys:List AC},Mi base π ψ φ cs cs'=true->cQ ρ' σ cs' ys->∃zs,cQ (ρ++vs) (sψ ψ σ) cs zs/\zs.map (qR (fφ φ))=ys
 |[],[],[],_,_=>⟨[],trivial,rfl⟩
 |c::cs,c'::cs',y::ys,h,hy=>by
  simp[Mi,Bool.and_eq_true]at h;obtain⟨z,z1,z2⟩:=TP M h.1 hy.1;obtain⟨zs,w1,w2⟩:=yQ M h.2 hy.2
  exact⟨z::zs,⟨z1,w1⟩,by grind⟩
 |[],[],_::_,_,hy=>hy.elim
 |_::_,_::_,[],_,hy=>hy.elim
 |[],_::_,_,h,_=>by grind[Mi]
 |_::_,[],_,h,_=>by grind[Mi]
theorem Om(M:Bu base π ρ ρ' vs):∀{xs xs':List (Bool×List SC)} {ys:List (Bool×List AC)},mT base π ψ φ xs xs'=true->RT ρ' σ xs' ys->∃zs,RT (ρ++vs) (sψ ψ σ) xs zs/\(zs.map λx=>(x.1,x.2.map (qR (fφ φ))))=ys
 |[],[],[],_,_=>⟨[],trivial,rfl⟩
 |x::xs,x'::xs',y::ys,h,hy=>by
  simp[mT,Bool.and_eq_true,decide_eq_true_eq]at h;obtain⟨z,z1,z2⟩:=yQ M h.2.1 hy.1.2;obtain⟨zs,w1,w2⟩:=Om M h.2.2 hy.2;refine⟨(x.1,z)::zs,⟨⟨rfl,z1⟩,w1⟩,?_⟩
  simp[List.map_cons,z2,w2,h.1,<-hy.1.1]
 |[],[],_::_,_,hy=>hy.elim
 |_::_,_::_,[],_,hy=>hy.elim
 |[],_::_,_,h,_=>by grind[mT]
 |_::_,[],_,h,_=>by grind[mT]
theorem Ts(M:Bu base π ρ ρ' vs){v v':SV}{y:AV}(h:mV base π ψ φ v v'=true)(hy:RV ρ' σ v' y):∃z,RV (ρ++vs) (sψ ψ σ) v z/\Hs (fφ φ) z=y:=by
 cases v<;>cases v'<;>first|(simp[mV]at h;done)|skip
 ·cases y<;>first|exact hy.elim|skip
  simp[mV,Bool.and_eq_true,decide_eq_true_eq]at h;obtain⟨rfl,h1⟩:=hy;obtain⟨zs,z1,z2⟩:=yQ M h.2 h1;obtain⟨rfl,-⟩:=h;exact⟨.p _ zs,⟨rfl,z1⟩,by grind[Hs]⟩
 ·cases y<;>first|exact hy.elim|skip
  obtain⟨zs,z1,z2⟩:=Om M h hy;exact⟨.tup zs,z1,by grind[Hs]⟩
theorem Tt(M:Bu base π ρ ρ' vs){q q' y:Option (Nat×Nat×Nat×Nat)}(h:mH base π ψ φ q q'=true)(hy:RH ρ' σ q' y):∃z,RH (ρ++vs) (sψ ψ σ) q z/\(z.map λq=>(q.1,q.2.1,fφ φ q.2.2.1,q.2.2.2))=y:=by
 cases q<;>cases q'<;>first|(simp[mH]at h;done)|skip
 ·cases y<;>first|exact hy.elim|exact⟨none,trivial,rfl⟩
 ·cases y<;>first|exact hy.elim|skip
  rename_i q q' y;obtain⟨j,off,n,sn⟩:=q;obtain⟨j',off',n',sn'⟩:=q';obtain⟨a,b,c,d⟩:=y;simp[mH,Bool.and_eq_true,decide_eq_true_eq]at h;obtain⟨⟨kd,z,z1,z2,rfl⟩,rfl,rfl,h3⟩:=hy;obtain⟨⟨g1,g2,rfl⟩,g3⟩:=h;exact⟨some (z.toNat,_,n,d),⟨⟨kd,z,mY M g3 z1,z2,rfl⟩,rfl,rfl,gh g2 h3⟩,by grind[oO]⟩
theorem Sg(M:Bu base π ρ ρ' vs){o o':SO}{y:Ob}(h:mO base π ψ φ o o'=true)(hy:RO ρ' σ o' y):∃z,RO (ρ++vs) (sψ ψ σ) o z/\Dc (fφ φ) z=y:=by
 cases o<;>cases o'<;>first|(simp[mO]at h;done)|skip
 ·cases y<;>first|exact hy.elim|skip
  simp[mO,Bool.and_eq_true,decide_eq_true_eq]at h;obtain⟨h1,rfl,h2⟩:=hy;obtain⟨⟨g1,rfl⟩,g2⟩:=h;obtain⟨zs,z1,z2⟩:=yQ M g2 h2;exact⟨.var _ _ zs,⟨gh g1 h1,rfl,z1⟩,by grind[Dc]⟩
 ·cases y<;>first|exact hy.elim|skip
  simp[mO,Bool.and_eq_true,decide_eq_true_eq]at h;obtain⟨h1,rfl,rfl,rfl,h2⟩:=hy;obtain⟨⟨g1,rfl,rfl⟩,g2⟩:=h;exact⟨.row _ _ _ _ true,⟨gh g1 h1,rfl,rfl,rfl,mY M g2 h2⟩,rfl⟩
 ·cases y<;>first|exact hy.elim|skip
  simp[mO,Bool.and_eq_true,decide_eq_true_eq]at h;obtain⟨h1,h2⟩:=hy;exact⟨.frz _ _,⟨gh h.1 h1,mY M h.2 h2⟩,rfl⟩
 ·cases y<;>first|exact hy.elim|skip
  simp[mO,Bool.and_eq_true,decide_eq_true_eq]at h;obtain⟨h1,h2⟩:=hy;exact⟨.dx _ _,⟨gh h.1 h1,mY M h.2 h2⟩,rfl⟩
 ·cases y<;>first|exact hy.elim|skip
  simp[mO,Bool.and_eq_true,decide_eq_true_eq]at h;obtain⟨h1,rfl,rfl,h2⟩:=hy;obtain⟨⟨g1,rfl,rfl⟩,g2⟩:=h;exact⟨.cur _ _ _ _ _,⟨gh g1 h1,rfl,rfl,mY M g2 h2⟩,rfl⟩
 ·cases y<;>first|exact hy.elim|skip
  simp[mO,Bool.and_eq_true,decide_eq_true_eq]at h;obtain⟨h1,rfl,h2,h3⟩:=hy;obtain⟨⟨g1,rfl⟩,g2,g3⟩:=h;obtain⟨z,z1,z2⟩:=Tt M g3 h3;exact⟨.opn _ _ _ _ z,⟨gh g1 h1,rfl,mY M g2 h2,z1⟩,by grind[Dc]⟩
 ·cases y<;>first|exact hy.elim|skip
  simp[mO,Bool.and_eq_true,decide_eq_true_eq]at h;obtain⟨h1,rfl,h2⟩:=hy;obtain⟨⟨g1,rfl⟩,g2⟩:=h;obtain⟨zs,z1,z2⟩:=yQ M g2 h2;exact⟨.pvr _ _ zs,⟨gh g1 h1,rfl,z1⟩,by grind[Dc]⟩
 ·cases y<;>first|exact hy.elim|skip
  simp[mO,Bool.and_eq_true,decide_eq_true_eq]at h;obtain⟨h1,rfl,rfl,rfl,h2⟩:=hy;obtain⟨⟨g1,rfl,rfl⟩,g2⟩:=h;exact⟨.row _ _ _ _ false,⟨gh g1 h1,rfl,rfl,rfl,mY M g2 h2⟩,rfl⟩
theorem ph{α:Type}:∀{l:List (Nat×α)} {i:Nat} {x:α},aK l i=some x->(i,x)∈l
 |(j,y)::r,i,x,h=>by
  simp[aK]at h;split at h
  ·grind
  ·exact List.mem_cons_of_mem _ (ph h)
 |[],i,x,h=>by grind[aK]
theorem MY(h:QM base π ψ φ H S=true)(hr:aN S ρ' σ s)(M:Bu base π ρ ρ' vs):∃s',Re s s'/\aN H (ρ++vs) (sψ ψ σ) s':=by
 simp only[QM,Bool.and_eq_true,decide_eq_true_eq]at h;obtain⟨h1,h2,h3,⟨h4,h5,h6,h7⟩,h8⟩:=h
 have hsl:∀t,∃y:AV,(∀v,aK H.sl t=some v->RV (ρ++vs) (sψ ψ σ) v y/\Hs (fφ φ) y=s.sl t)/\(aK H.sl t=none->y=.und):=by
  intro t
  cases ht:aK H.sl t with
  |none=>grind
  |some v=>
   have:=List.all_eq_true.1 h1 _ (ph ht);simp only at this;split at this
   ·rename_i v' hv';obtain⟨z,z1,z2⟩:=Ts M this (hr.sl t v' hv');exact⟨z,λw hw=>by grind,by simp⟩
   grind
 have hob:∀i,∃y:Ob,(∀o,aK H.ob i=some o->i<H.n/\RO (ρ++vs) (sψ ψ σ) o y)/\(y=.dead\/Dc (fφ φ) y=s.ob (fφ φ i)):=by
  intro i
  cases hi:aK H.ob i with
  |none=>grind
  |some o=>
   have:=List.all_eq_true.1 h2 _ (ph hi);simp[Bool.and_eq_true,decide_eq_true_eq]at this;obtain⟨hlt,this⟩:=this;split at this
   ·exact⟨.dead,λw hw=>by grind[RO],.inl rfl⟩
   ·split at this
    ·rename_i i' hi';split at this
     ·rename_i o' ho';obtain⟨z,z1,z2⟩:=Sg M this (hr.ob i' o' ho').2
      grind[oO]
     grind
    grind
 obtain⟨f,hf⟩:=Classical.axiomOfChoice hsl;obtain⟨g,hg⟩:=Classical.axiomOfChoice hob;have hφ:∀i,i<H.n->∃i',φ[i]? =some i':=λi hi=>⟨_,List.getElem?_eq_getElem (by omega)⟩
 refine⟨⟨f,g,H.n,s.c⟩,Re.reindex (φ:=fφ φ) ?_ ?_ (Nat.le_refl _) (λi hi=>(hg i).2) (λt=>?_),rfl,?_,?_,λt v hv=>((hf t).1 v hv).1,λi o ho=>(hg i).1 o ho,λi b hb=>?_⟩
 ·intro i hi;obtain⟨i',hi'⟩:=hφ i hi;rw[oO hi',hr.n];exact of_decide_eq_true (List.all_eq_true.1 h8 i' (List.mem_of_getElem? hi'))
 ·grind[oO,List.getElem?_inj]
 ·cases ht:aK H.sl t with
  |none=>grind
  |some v=>grind
 ·grind[sψ]
 ·rw[h7,List.length_append,M.len,<-M.vs.len]
 ·have:=List.all_eq_true.1 h3 _ (ph hb);simp[decide_eq_true_eq]at this;have hk:=hr.kn i b this.2;obtain⟨e,rfl⟩:=M.pre;rw[List.getElem?_append_left (by rw[M.len];exact this.1)]at hk ⊢;exact hk
end
end Go.Proofs.Ytgdbmcoamemmaaa
namespace Go.Proofs.Ytgdbmcoamemmaaa
open Go.RowKit
section
variable {P:Program}{N:Nat}{o:Oper}{ρ ρ':List DV}{σ σ':List Nat}{S S':Sy}{s s':AS}{ps:List PO}{K:List DV->Prop}
def Uw(P:Program)(S:Sy)(o:Oper):Option (List PO×Sy):=
 none
def OD(P:Program)(S:Sy)(o:Oper):Option (List PO×Sy):=none
theorem Mq{S1:Sy}{ρ1:List DV}(h:OD P S o=some (ps,S1))(he:ax ps ρ=some ρ1)(hr:aN S ρ σ s):∃s1,Fz s s1/\aN S1 ρ1 σ s1:=by
 unfold OD at h;cases h
def PR(P:Program)(ow:fM)(S:Sy)(o:Oper):Option (List Nd×Sy):=
 match Uw P S o with
 |some (ps,S')=>some (ps.map .po,S')
 |none=>(match OD P S o with
  |some (ps,S1)=>(match T3 P ow S1 o with|some (dE,S')=>some (ps.map .po++dE,S')|none=>none)
  |none=>T3 P ow S o)
theorem My{ow:fM}{dE:List Nd}(h:PR P ow S o=some (dE,S'))(hd:dB N o.dst=true)(hr:aN S ρ σ s)(hw:WN P dE K ρ):iS P N o s S' K:=by
 unfold PR at h;split at h
 ·cases (show(none:Option (List PO×Sy))=some _ from‹_›)
 ·split at h
  ·rename_i ps S1 hx;split at h
   ·rename_i nds2 S2 h2;cases h;obtain⟨ρ1,he,hw2⟩:=bN (kU hw)
    grind[Mq,FX,IC]
   grind
  grind[IC]
end
end Go.Proofs.Ytgdbmcoamemmaaa
namespace Go.Proofs.Ytgdbmcoamemmaaa
open Go.RowKit
theorem Ho{s:AS}{el k t:Nat}(hk:0<k)(ht:s.sl t=.p false [.nil]):Re s {s.push (.row s.c el k [] true)with sl:=upd s.sl t (.p false [.own s.n s.c])}:=by
 intro w0 N a w E hr;have h1:=xU (el:=el) hr hk;refine⟨_,⟨h1.size,h1.defers,h1.bel,h1.obj,λq=>?_,h1.A_lt,h1.A_m,h1.A_o,h1.mm,h1.oo,h1.m_lt,h1.anc,h1.mF,h1.oF⟩⟩;by_cases e:q=t
 ·subst e;simp only[ae];refine aJ ⟨by simp[AS.push],λ_=>?_⟩;have:=hr.slot q;rw[ht]at this;obtain h2:a.tmps.getD q undef=.slice none 0 0:=aC this
  grind[ae]
 ·simp only[aE _ _ e];exact h1.slot q
theorem E9{s:AS}{el k i j st t:Nat}{cs:List AC}(hk:0<k)(hi:s.own? i st=some (.var st t cs))(hj:cs[j]? =some .nil):
 Re s {s.push (.row s.c el k [] true)with ob:=upd (upd s.ob s.n (.row s.c el k [] true)) i (.var st t (cs.set j (.own s.n s.c)))}:=by
 intro w0 N a w E hr;have h1:=xU (el:=el) hr hk;obtain⟨hin,hob,hlv⟩:=am hi;have hne:i≠s.n:=by omega
 have hlt:i<(s.push (.row s.c el k [] true)).n:=by grind[AS.push]
 have hO:=h1.obj i hlt;have hob':(s.push (.row s.c el k [] true)).ob i=.var st t cs:=by simp_all[AS.push,aE]
 rw[hob']at hO;obtain⟨g,vals,q0,q1,q2,q3,q4,q5,q6⟩:=hO
 have hlvs:AS.lv {s.push (.row s.c el k [] true)with ob:=upd (upd s.ob s.n (.row s.c el k [] true)) i (.var st t (cs.set j (.own s.n s.c)))}=(s.push (.row s.c el k [] true)).lv:=by
  funext q;unfold AS.lv;by_cases e:q=i
  ·grind[AS.push,ae,aE,Ob.st]
  ·simp[AS.push,aE _ _ e];rfl
 refine⟨_,⟨h1.size,h1.defers,h1.bel,λq hq=>?_,λq=>?_,h1.A_lt,h1.A_m,h1.A_o,h1.mm,h1.oo,h1.m_lt,h1.anc,h1.mF,h1.oF⟩⟩
 ·rw[hlvs];by_cases e:q=i
  ·subst e;simp only[ae];refine⟨g,vals,q0,q1,q2,q3,q4,q5,by rw[List.length_set];exact q6.1,λm x u hx hu=>?_⟩;rw[List.getElem?_set]at hx;split at hx
   ·rename_i hjm;subst hjm;split at hx
    ·cases hx;refine⟨by simp[AS.push],λ_=>?_⟩;obtain h2:u=.slice none 0 0:=q6.2 j _ u hj hu
     grind[ae]
    grind
   ·exact q6.2 m x u hx hu
  ·simp only[aE _ _ e];exact h1.obj q hq
 ·rw[hlvs];exact h1.slot q
section
variable {P:Program}{N:Nat}{ρ ρ':List DV}{σ σ':List Nat}{S S':Sy}{s s':AS}
structure Nl where
 slot:Bool
 i:Nat
 j:Nat
 el:Nat
 k:Nat
def Do:List (List SC)->Option (List (List Nat))
 |[]=>some []
 |e::r=>match D2 e,Do r with|some x,some xs=>some (x::xs)|_,_=>none
def Nb(S:Sy)(x:Nl):List PO×Sy:=
 match aK S.sl x.i with
 |some (.p false [.own i st])=>(match S.own i st with
  |some (.arr a t k es)=>(match Do es with
   |some rows=>(rows.flatten.map .sc++[.mk t k rows],{ (S.bind 1)with ob:=(i,.row a t k S.m)::S.ob})
   |none=>([],S))
  |_=>([],S))
 |some (.p false [.sub i st k z m])=>(match S.own i st with
  |some (.row a t k' y)=>if k'=k then([.cutP y z m],{ (S.bind 1)with ob:=(i,.row S.c t k S.m)::S.ob,c:=S.c+1}.put (some x.i) (.p false [.own i S.c]))else([],S)
  |_=>([],S))
 |_=>([],S)
theorem Qo{s:AS}{i st t k n q:Nat}{es:List (List DV)}(hi:s.own? i st=some (.row st t k es true))(hs:s.sl q=.p false [.sub i st k 0 n])(hn:n<=es.length):
 Re s { (s.cut i t k n es)with sl:=upd s.sl q (.p false [.own i s.c])}:=by
 intro w0 N a w E hr;obtain⟨hin,hob,hlv⟩:=am hi;have h0:=hr.slot q;rw[hs]at h0;obtain⟨A,M,cp,B,e2,e3,e4,e5,e6⟩:=(aC h0).2 hlv;obtain rfl:=e5 rfl;obtain⟨o',hp⟩:=Jr hr hi e2 hn;refine⟨_,⟨hp.size,hp.defers,hp.bel,hp.obj,λp=>?_,hp.A_lt,hp.A_m,hp.A_o,hp.mm,hp.oo,hp.m_lt,hp.anc,hp.mF,hp.oF⟩⟩;by_cases e:p=q
 ·subst e;simp only[ae];exact aJ ⟨by simp[AS.cut],λ_=>by grind[ae]⟩
 ·simp only[aE _ _ e];exact hp.slot p
theorem Gl:∀{ds:List Nat} {ρ ρ':List DV},ax (ds.map .sc) ρ=some ρ'->ρ'=ρ/\∀i∈ds,∃v,ρ[i]? =some (.sc v)
 |[],ρ,ρ',h=>by grind[ax]
 |i::ds,ρ,ρ',h=>by
  simp[List.map_cons,ax]at h;split at h
  ·rename_i out ho;simp[aA]at ho;split at ho
   ·rename_i d hd;split at ho
    ·rename_i hs;cases ho;rw[List.append_nil]at h;obtain⟨e,ih⟩:=Gl h;refine⟨e,λj hj=>?_⟩;rcases List.mem_cons.1 hj with rfl|hj
     ·cases d with
      |sc v=>grind
      |sl=>cases hs
     grind
    grind
   grind
  grind
theorem Kb:∀{is:List Nat} {xs:List DV},gL ρ is=some xs->∀d∈xs,∃i∈is,ρ[i]? =some d
 |[],xs,h,d,hd=>by grind[gL]
 |i::is,xs,h,d,hd=>by
  simp[gL]at h;split at h
  ·rename_i x xs' h1 h2;cases h;rcases List.mem_cons.1 hd with rfl|hd
   ·grind
   ·obtain⟨j,k1,k2⟩:=Kb h2 d hd;grind
  grind
theorem F6:∀{is:List (List Nat)} {xs:List (List DV)},CZ ρ is=some xs->∀d∈xs.flatten,∃i∈is.flatten,ρ[i]? =some d
 |[],xs,h,d,hd=>by grind[CZ]
 |i::is,xs,h,d,hd=>by
  simp[CZ]at h;split at h
  ·rename_i x xs' h1 h2;cases h;rw[List.flatten_cons,List.mem_append]at hd;rw[List.flatten_cons];rcases hd with hd|hd
   ·grind[Kb,List.mem_append_left]
   ·obtain⟨j,k1,k2⟩:=F6 h2 d hd;grind
  grind
theorem Co:∀{es:List (List SC)} {rows:List (List Nat)} {ys:List (List AC)},Do es=some rows->BM ρ σ es ys->∃ds,ys=ds.map (λe=>e.map .d)/\CZ ρ rows=some ds
 |[],rows,ys,h,hl=>by
  simp[Do]at h;cases h
  cases ys with
  |nil=>exact⟨[],rfl,rfl⟩
  |cons=>exact hl.elim
 |e::r,rows,[],h,hl=>hl.elim
 |e::r,rows,y::ys,h,hl=>by
  simp[Do]at h;split at h
  ·rename_i x xs h1 h2;cases h;obtain⟨d,rfl,k1⟩:=Bc h1 hl.1;obtain⟨ds,rfl,k2⟩:=Co h2 hl.2;exact⟨d::ds,rfl,by simp[CZ,vl k1,k2]⟩
  grind
theorem NH{x:Nl}(he:ax (Nb S x).1 ρ=some ρ')(hr:aN S ρ σ s):∃σ' s',Re s s'/\aN (Nb S x).2 ρ' σ' s':=by
 have triv:ax [] ρ=some ρ'->∃σ' s',Re s s'/\aN S ρ' σ' s':=λh=>by
  grind[ax,Re.refl]
 unfold Nb at he ⊢;split
 ·rename_i i st hsl;simp only[hsl]at he;split
  ·rename_i a t k es ho;simp only[ho]at he;split
   ·rename_i rows hrw;simp only[hrw]at he;obtain⟨ρ1,a1,a2⟩:=ak he;obtain⟨rfl,hsc⟩:=Gl a1;obtain⟨out,o1,rfl⟩:=az a2;obtain⟨y,y1,y2⟩:=bD (c:=.own i st) rfl (hr.sl _ _ hsl);cases y<;>first|exact y2.elim|skip
    obtain⟨rfl,hst⟩:=y2;obtain⟨o',k1,k2,k3,k4⟩:=hr.own ho hst;cases o'<;>first|exact k2.elim|skip
    rename_i b ty kk ys;obtain⟨k5,rfl,rfl,k6⟩:=k2;obtain rfl:=bh k1 rfl;obtain⟨ds,rfl,hds⟩:=Co hrw k6;simp only[aA,hds]at o1;split at o1
    ·cases o1
     have hfl:uN ds.flatten:=λd hd=>by
      grind[F6]
     refine⟨σ,{s with ob:=upd s.ob _ (.row b ty kk ds true)},λw0 N a w E h=>⟨_,Nx h k1 hfl⟩,?_⟩;have hb:=hr.bind (out:=[DV.sl ty kk ds]) (k:=1) rfl
     exact hb.upd (s':={s with ob:=upd s.ob _ (.row b ty kk ds true)}) (n':=S.n) (c':=S.c) (so:=.row a ty kk S.m) (aQ.refl _) hb.c hb.n (Nat.le_refl _) k4 rfl (λj hj=>aE _ _ hj)
      (by simp[ae];exact⟨k5,rfl,rfl,rfl,by rw[<-hr.m];simp⟩)
    grind
   grind
  grind
 ·rename_i i st k z m hsl;simp[hsl]at he;split
  ·rename_i a t k' y ho;simp[ho]at he;split
   ·rename_i hk;rw[if_pos hk]at he;subst hk;obtain⟨out,o1,rfl⟩:=az he;obtain⟨c,c1,c2⟩:=bD (c:=.sub i st _ z m) rfl (hr.sl _ _ hsl);cases c<;>first|exact c2.elim|skip
    obtain⟨rfl,hst,rfl,⟨u',e1,e2,rfl⟩,⟨v',e3,e4,rfl⟩⟩:=c2;obtain⟨o',k1,k2,k3,k4⟩:=hr.own ho hst;cases o'<;>first|exact k2.elim|skip
    rename_i b ty kk es dp;obtain⟨k5,rfl,rfl,rfl,k6⟩:=k2;obtain rfl:=bh k1 rfl;simp only[aA,k6,e1,e3]at o1;split at o1
    ·rename_i hc;obtain⟨hu0,hle⟩:=hc;subst hu0;cases o1;refine⟨σ++[s.c],_,Qo k1 c1 hle,?_⟩;have hb:=hr.bind (out:=[DV.sl ty kk (es.take v'.toNat)]) (k:=1) rfl
     have h2:=hb.upd (s':=s.cut _ ty kk v'.toNat es) (n':=S.n) (c':=S.c+1) (so:=.row S.c ty kk S.m) (aQ.app _ [s.c]) (by have:=hr.c;grind) hb.n (Nat.le_refl _) k4 rfl (λj hj=>aE _ _ hj)
      (by simp[AS.cut,ae];exact⟨hr.last _,rfl,rfl,rfl,by rw[<-hr.m];simp⟩)
     exact h2.put (d:=some x.i) (v:=.p false [.own _ S.c]) (x:=.p false [.own _ s.c]) ⟨rfl,⟨rfl,hr.last _⟩,trivial⟩
    grind
   grind
  grind
 grind
def OP(S:Sy)(t:Nat):List PO×Sy:=
 ([],S)
theorem LE{t:Nat}(he:ax (OP S t).1 ρ=some ρ')(hr:aN S ρ σ s):∃σ' s',Re s s'/\aN (OP S t).2 ρ' σ' s':=by
 have he:ax [] ρ=some ρ':=he;show∃σ' s',Re s s'/\aN S ρ' σ' s'
 grind[ax,Re.refl]
def Kk(S:Sy)(x:Nl)(st:Nat):Sy:=match sV S x.i st with
 |some (_,_,cs)=>(match cs[x.j-500]? with
  |some (.own i2 st2)=>(match sV (Mb S (.own i2 st2)) x.i st,(Mb S (.own i2 st2)).own i2 st2 with
   |some (pv,T,cs'),some (.frz _ y)=>if cs'[x.j-500]? =some (.own i2 st2)then{Mb S (.own i2 st2)with ob:=(x.i,OQ pv st T (cs'.set (x.j-500) (.d y)))::(Mb S (.own i2 st2)).ob}else S
   |_,_=>S)
  |_=>S)
 |none=>S
theorem KU{x:Nl}{st st':Nat}(hr:aN S ρ σ s)(hst:σ[st]? =some st'):∃s',Re s s'/\aN (Kk S x st) ρ σ s':=by
 unfold Kk;split
 ·rename_i pv0 T0 cs hV;split
  ·rename_i i2 st2 hc;obtain⟨acs,k1,k2,k3⟩:=Gi hV hr hst;obtain⟨y0,hy0,hc0⟩:=k2.get hc;obtain⟨s1,f1,hr1⟩:=IX hr hc0;generalize hS1:Mb S (.own i2 st2)=S1 at *;split
   ·rename_i pv T cs' a y hV1 ho;split
    ·rename_i hc';obtain⟨acs1,p1,p2,p3⟩:=Gi hV1 hr1 hst;obtain⟨y1,hy1,hc1⟩:=p2.get hc';cases y1<;>first|exact hc1.elim|skip
     obtain⟨rfl,hst2⟩:=hc1;obtain⟨o',n1,n2,n3,n4⟩:=hr1.own ho hst2;cases o'<;>first|exact n2.elim|skip
     obtain⟨n5,n6⟩:=n2;obtain rfl:=bh n1 rfl;refine⟨_,λw0 N a w E h=>by obtain⟨E1,h1⟩:=f1 w0 N a w E h;exact NC h1 p1 hy1 n1,?_⟩;exact hr1.upd (i:=x.i) (n':=S1.n) (c':=S1.c) (so:=OQ pv st T (cs'.set (x.j-500) (.d y))) (aQ.refl _) hr1.c hr1.n (Nat.le_refl _) p3 rfl (λq hq=>by simp[AS.datD,aE _ _ hq]) (by simp only[AS.datD,ae];exact Eo hst (cQ.setV (x:=.d y) (y:=.d _) n6 p2))
    ·exact⟨s,λ_ _ _ _ E h=>⟨E,h⟩,hr⟩
   ·exact⟨s,λ_ _ _ _ E h=>⟨E,h⟩,hr⟩
  ·exact⟨s,λ_ _ _ _ E h=>⟨E,h⟩,hr⟩
 ·exact⟨s,λ_ _ _ _ E h=>⟨E,h⟩,hr⟩
def FD(S:Sy)(x:Nl):List PO×Sy:=if 500<=x.j/\x.j<1000 then(match aK S.ob x.i with
 |some o=>if o.st.getD 0<S.c then([],Kk S x (o.st.getD 0))else([],S)
 |none=>([],S))else match aK S.ob x.i with
 |some o=>(match sV S x.i (o.st.getD 0)with
  |some (pv,T,cs)=>if o.st.getD 0<S.c then(if 1000<=x.j then(if cs[x.j % 1000]? =some .nil then([.e x.el (x.j / 1000)],{ (S.bind 1)with ob:=(x.i,OQ pv (o.st.getD 0) T (cs.set (x.j % 1000) (.d S.m)))::S.ob})else([],S))
   else match Gu x.i (o.st.getD 0) pv T cs x.j S with|some (p,_,S')=>(p,S')|none=>([],S))else([],S)
  |none=>([],S))
 |none=>([],S)
theorem IV{x:Nl}(he:ax (FD S x).1 ρ=some ρ')(hr:aN S ρ σ s):∃σ' s',Re s s'/\aN (FD S x).2 ρ' σ' s':=by
 have triv:ax [] ρ=some ρ'->∃σ' s',Re s s'/\aN S ρ' σ' s':=λh=>by
  grind[ax,Re.refl]
 unfold FD at he ⊢;by_cases hfz:500<=x.j/\x.j<1000
 ·rw[if_pos hfz]at he ⊢;split at he
  ·split at he
   ·rename_i o ho hlt;obtain⟨s',h1,h2⟩:=KU (x:=x) hr (List.getElem?_eq_getElem (by rw[hr.c];exact hlt):σ[o.st.getD 0]? =some _);simp only[ax]at he;cases he;rw[if_pos hlt];exact⟨σ,s',h1,h2⟩
   ·rename_i hlt;rw[if_neg hlt];exact triv he
  ·exact triv he
 rw[if_neg hfz]at he ⊢;generalize aK S.ob x.i=o at he ⊢
 cases o with
 |none=>grind
 |some o=>
  simp only at he ⊢;generalize hV:sV S x.i (o.st.getD 0)=v at he ⊢
  cases v with
  |none=>grind
  |some v=>
   obtain⟨pv,T,cs⟩:=v;simp only at he ⊢;by_cases hlt:o.st.getD 0<S.c
   ·rw[if_pos hlt]at he ⊢;have hst:∃st',σ[o.st.getD 0]? =some st':=⟨_,List.getElem?_eq_getElem (by rw[hr.c];omega)⟩;obtain⟨st',hst⟩:=hst;by_cases hj:1000<=x.j
    ·rw[if_pos hj]at he ⊢;by_cases hn:cs[x.j % 1000]? =some .nil
     ·rw[if_pos hn]at he ⊢;obtain⟨out,o1,rfl⟩:=az he;simp[aA]at o1;cases o1;obtain⟨acs,k1,k2,k3⟩:=Gi hV hr hst;obtain⟨y,hy,hyc⟩:=k2.get hn;cases y<;>first|exact hyc.elim|skip
      have hb:=hr.bind (out:=[DV.sl x.el (x.j / 1000) []]) (k:=1) rfl;have hcs:cQ (ρ++[DV.sl x.el (x.j / 1000) []]) σ (cs.set (x.j % 1000) (.d S.m)) (acs.set (x.j % 1000) (.d (.sl x.el (x.j / 1000) []))):=cQ.setV (x:=.d S.m) (y:=.d (.sl x.el (x.j / 1000) [])) (by show(ρ++[_])[S.m]? =_;rw[<-hr.m];simp) (k2.mono (aQ.app _ _) (aQ.refl _));have hu:=hb.upd (s':=s.nilD x.i st' x.el (x.j / 1000) (x.j % 1000) pv T acs) (i:=x.i) (n':=S.n) (c':=S.c) (so:=OQ pv (o.st.getD 0) T (cs.set (x.j % 1000) (.d S.m))) (aQ.refl _) hr.c hb.n (Nat.le_refl _) k3 rfl (λq hq=>by simp_all[AS.nilD,AS.datD,aE]) (by simp_all[AS.nilD,AS.datD,ae,Eo]);exact⟨σ,_,λw0 N a w E h=>Mh h (by omega) k1 hy,hu⟩
     grind
    rw[if_neg hj]at he ⊢;generalize hc:Gu x.i (o.st.getD 0) pv T cs x.j S=q at he ⊢
    cases q with
    |none=>grind
    |some q=>
     obtain⟨p,cs',S'⟩:=q;obtain⟨acs,k1,k2,-⟩:=Gi hV hr hst;obtain⟨s',σ',acs',f1,f2,f3,-⟩:=JX hc he hr hst k1 k2;exact⟨σ',s',f1,f3⟩
   grind
def Ap(S:Sy)(x:Nl):List PO×Sy:=
 if x.k=0/\x.j=7 then OP S x.i else if 0<x.k then(if x.slot then(match aK S.sl x.i with
  |some (.p false [.nil])=>([.e x.el x.k],((S.bind 1).push (.row S.c x.el x.k S.m)).put (some x.i) (.p false [.own S.n S.c]))
  |_=>([],S))
 else(match aK S.ob x.i with
  |some (.var st t cs)=>(match cs[x.j]? with
   |some .nil=>([.e x.el x.k],{ ((S.bind 1).push (.row S.c x.el x.k S.m))with ob:=(x.i,.var st t (cs.set x.j (.own S.n S.c)))::((S.bind 1).push (.row S.c x.el x.k S.m)).ob})
   |_=>([],S))
  |_=>([],S)))else if x.slot then Nb S x else FD S x
theorem cQ.set{cs:List SC}{ys:List AC}{c:SC}{y:AC}(h:cQ ρ σ cs ys)(hc:RC ρ σ c y):∀j,cQ ρ σ (cs.set j c) (ys.set j y):=by
 intro j
 induction j generalizing cs ys with
 |zero=>match cs,ys,h with
  |[],[],_=>exact trivial
  |x::xs,y'::ys,h=>exact⟨hc,h.2⟩
 |succ j ih=>match cs,ys,h with
  |[],[],_=>exact trivial
  |x::xs,y'::ys,h=>exact⟨h.1,ih h.2⟩
theorem Jy{x:Nl}(he:ax (Ap S x).1 ρ=some ρ')(hr:aN S ρ σ s):∃σ' s',Re s s'/\aN (Ap S x).2 ρ' σ' s':=by
 unfold Ap at he ⊢;split
 ·grind[LE]
 rename_i hk7;rw[if_neg hk7]at he;split
 ·rename_i hk;rw[if_pos hk]at he;split
  ·rename_i hs;rw[if_pos hs]at he;split
   ·rename_i hn;rw[hn]at he;simp[ax,aA]at he;cases he;have h1:=hr.sl _ _ hn
    cases hx:s.sl x.i with
    |p b cs=>
     rw[hx]at h1;obtain⟨rfl,h1⟩:=h1
     match cs,h1 with
     |[c],h1=>
      cases c<;>first|exact h1.1.elim|skip
      refine⟨σ++[s.c],_,Ho (el:=x.el) hk hx,?_⟩;have:=((hr.bind (out:=[DV.sl x.el x.k []]) (k:=1) rfl).push (so:=.row S.c x.el x.k S.m) (ob:=.row s.c x.el x.k [] true) ⟨hr.last _,rfl,rfl,rfl,by rw[<-hr.m];simp⟩).put (d:=some x.i) (v:=.p false [.own S.n S.c]) (x:=.p false [.own s.n s.c]) ⟨rfl,⟨hr.n,hr.last _⟩,trivial⟩
      exact this
    |tup=>rw[hx]at h1;exact h1.elim
    |und=>rw[hx]at h1;exact h1.elim
   grind[ax,absurd,id,Re.refl]
  ·rename_i hs;rw[if_neg hs]at he;split
   ·rename_i st t cs ho;rw[ho]at he;simp only at he;split
    ·rename_i hj;rw[hj]at he;simp[ax,aA]at he;cases he;obtain⟨hlt,h1⟩:=hr.ob _ _ ho
     cases hx:s.ob x.i with
     |var st' t' ys=>
      rw[hx]at h1;obtain⟨h2,rfl,h3⟩:=h1;obtain⟨y,y1,y2⟩:=h3.get hj;cases y<;>first|exact y2.elim|skip
      have hown:s.own? x.i st'=some (.var st' t' ys):=by
       unfold AS.own?;rw[hr.n,if_pos hlt,hx];simp[Ob.st]
      refine⟨σ++[s.c],_,E9 (el:=x.el) hk hown y1,?_⟩;have hb:=(hr.bind (out:=[DV.sl x.el x.k []]) (k:=1) rfl).push (so:=.row S.c x.el x.k S.m) (ob:=.row s.c x.el x.k [] true) ⟨hr.last _,rfl,rfl,rfl,by rw[<-hr.m];simp⟩;refine hb.upd (s':={s.push (.row s.c x.el x.k [] true)with ob:=upd (upd s.ob s.n (.row s.c x.el x.k [] true)) x.i (.var st' t' (ys.set x.j (.own s.n s.c)))}) (i:=x.i) (n':=((S.bind 1).push (.row S.c x.el x.k S.m)).n) (c':=((S.bind 1).push (.row S.c x.el x.k S.m)).c) (so:=.var st t' (cs.set x.j (.own S.n S.c))) (aQ.refl _) hb.c hb.n (Nat.le_refl _) (by grind[Sy.push,Sy.bind]) rfl (λj hj=>by simp_all[AS.push,aE]) ?_;simp[ae]
      exact⟨(aQ.app _ _).get h2,rfl,cQ.set (c:=.own S.n S.c) (y:=.own s.n s.c) (cQ.mono (aQ.app _ _) (aQ.app _ _) h3) ⟨hr.n,hr.last _⟩ _⟩
     |arr=>rw[hx]at h1;exact h1.elim
     |row=>rw[hx]at h1;exact h1.elim
     |frz=>rw[hx]at h1;exact h1.elim
     |dx=>rw[hx]at h1;exact h1.elim
     |opn=>rw[hx]at h1;exact h1.elim
     |pvr=>rw[hx]at h1;exact h1.elim
     |cur=>rw[hx]at h1;exact h1.elim
     |dead=>rw[hx]at h1;exact h1.elim
    grind[ax,absurd,id,Re.refl]
   grind[ax,absurd,id,Re.refl]
 ·rename_i hk;rw[if_neg hk]at he;split
  ·grind[NH]
  grind[IV]
def wa:List Nl->Sy->List PO×Sy
 |[],S=>([],S)
 |x::r,S=>((Ap S x).1++(wa r (Ap S x).2).1,(wa r (Ap S x).2).2)
theorem Bv:∀{l:List Nl} {S:Sy} {ρ ρ':List DV} {σ:List Nat} {s:AS},ax (wa l S).1 ρ=some ρ'->aN S ρ σ s->∃σ' s',Re s s'/\aN (wa l S).2 ρ' σ' s'
 |[],S,ρ,ρ',σ,s,he,hr=>by
  grind[wa,ax,Re.refl]
 |x::r,S,ρ,ρ',σ,s,he,hr=>by
  simp[wa]at he ⊢;obtain⟨ρ1,a1,a2⟩:=ak he;obtain⟨σ1,s1,r1,h1⟩:=Jy a1 hr;obtain⟨σ2,s2,r2,h2⟩:=Bv a2 h1;exact⟨σ2,s2,r1.trans r2,h2⟩
end
end Go.Proofs.Ytgdbmcoamemmaaa
namespace Go.Proofs.Ytgdbmcoamemmaaa
open Go.RowKit
structure yz where
 φ:List (Nat×Nat)
 ψ:List (Nat×Nat)
 π:List (Nat×Nat)
def uD(p i:Nat)(a:yz):yz:={a with π:=(p,i)::a.π}
def Vb:List Nat->List Nat->yz->yz
 |p::ps,i::is,a=>Vb ps is (uD p i a)
 |_,_,a=>a
def uI(i i' st st':Nat)(a:yz):yz:={a with φ:=(i,i')::a.φ,ψ:=(st,st')::a.ψ}
def uC:SC->SC->yz->yz
 |.d p,.d i,a=>uD p i a
 |.own i st,.own i' st',a=>uI i i' st st' a
 |.ptr i st _,.ptr i' st' _,a=>uI i i' st st' a
 |.elt i st _ j _,.elt i' st' _ j' _,a=>uD j j' (uI i i' st st' a)
 |.rd ps,.rd is,a=>Vb ps is a
 |.sub i st _ z m,.sub i' st' _ z' m',a=>uD m m' (uD z z' (uI i i' st st' a))
 |_,_,a=>a
def SJ:List SC->List SC->yz->yz
 |x::xs,y::ys,a=>SJ xs ys (uC x y a)
 |_,_,a=>a
def uT:List (Bool×List SC)->List (Bool×List SC)->yz->yz
 |x::xs,y::ys,a=>uT xs ys (SJ x.2 y.2 a)
 |_,_,a=>a
def uV:SV->SV->yz->yz
 |.p _ cs,.p _ cs',a=>SJ cs cs' a
 |.tup xs,.tup ys,a=>uT xs ys a
 |_,_,a=>a
def uH:Option (Nat×Nat×Nat×Nat)->Option (Nat×Nat×Nat×Nat)->yz->yz
 |some (j,_,n,sn),some (j',_,n',sn'),a=>uD j j' (uI n n' sn sn' a)
 |_,_,a=>a
def uO:SO->SO->yz->yz
 |.var st _ cs,.var st' _ cs',a=>SJ cs cs' {a with ψ:=(st,st')::a.ψ}
 |.row st _ _ x,.row st' _ _ x',a=>uD x x' {a with ψ:=(st,st')::a.ψ}
 |.frz st x,.frz st' x',a=>uD x x' {a with ψ:=(st,st')::a.ψ}
 |.dx st x,.dx st' x',a=>uD x x' {a with ψ:=(st,st')::a.ψ}
 |.cur st _ _ x,.cur st' _ _ x',a=>uD x x' {a with ψ:=(st,st')::a.ψ}
 |.pvr st _ cs,.pvr st' _ cs',a=>SJ cs cs' {a with ψ:=(st,st')::a.ψ}
 |.shr st _ _ x,.shr st' _ _ x',a=>uD x x' {a with ψ:=(st,st')::a.ψ}
 |.opn st _ x q,.opn st' _ x' q',a=>uH q q' (uD x x' {a with ψ:=(st,st')::a.ψ})
 |_,_,a=>a
def Va(S:Sy):List (Nat×SV)->yz->yz
 |[],a=>a
 |(t,v)::r,a=>Va S r (match aK S.sl t with|some v'=>uV v v' a|none=>a)
def Ul(S:Sy):List (Nat×SO)->yz->yz
 |[],a=>a
 |(i,o)::r,a=>Ul S r (match aK S.ob ((aK a.φ i).getD i)with|some o'=>uO o o' a|none=>a)
def R4(H S:Sy):yz:=Ul S H.ob (Ul S H.ob (Va S H.sl ⟨[],[],[]⟩))
structure aP where
 key:Nat
 np:Nat
 H:Sy
 nils:List Nl
def J0:List aP->Nat->Option aP
 |[],_=>none
 |h::r,k=>if h.key=k then some h else J0 r k
def Ud(h:aP)(base:Nat)(S:Sy):Option (List PO×List Nat):=
 let r:=wa h.nils S
 let a:=R4 h.H r.2
 let π:=(List.range h.np).map λj=>(aK a.π (base+j)).getD 0
 let ψ:=(List.range h.H.c).map λj=>(aK a.ψ j).getD 0
 let φ:=(List.range h.H.n).map λj=>(aK a.φ j).getD j
 if QM base π ψ φ h.H r.2 then some (r.1,π)else none
section
variable {P:Program}{R:List (Bool×List DV)->Prop}{N:Nat}{ow:fM}{ρ ρ':List DV}{σ σ':List Nat}{S S':Sy}{s s':AS}{L:Lbl}{Q:Exit->AS->Prop}
theorem Ka{h:aP}{base:Nat}{ps:List PO}{π:List Nat}(hf:Ud h base S=some (ps,π))(hl:ρ.length=base)(hp:aQ ρ ρ')(hr:aN S ρ' σ s){ρ2 vs:List DV}(he:ax ps ρ'=some ρ2)(hv:gL ρ2 π=some vs):
 vs.length=h.np/\π.length=h.np/\∃σ' s',Re s s'/\aN h.H (ρ++vs) σ' s':=by
 unfold Ud at hf;simp only at hf;split at hf
 ·rename_i hm;injection hf with hf;injection hf with e1 e2;subst e1;obtain⟨σ1,s1,r1,h1⟩:=Bv he hr;have hlen:π.length=h.np:=by rw[<-e2];simp
  rw[e2]at hm;obtain⟨s2,r2,h2⟩:=MY hm h1 (M:=⟨hl,hp.trans (ao he),Fq hv⟩);exact⟨by rw[<-(Fq hv).len,hlen],hlen,_,s2,r1.trans r2,h2⟩
 grind
abbrev Kt:=Nat->Exit->Sy->Option Pg
def B8(P:Program)(R:List (Bool×List DV)->Prop)(L:Lbl)(ρ:List DV)(Q:Exit->AS->Prop)(K:Kt):Prop:=
 ∀L' ρ',aQ L L'->aQ ρ ρ'->∀e S pg,K L'.length e S=some pg->∀σ s,aN S ρ' σ s->W P R pg L' ρ'->Q e s
theorem B8.mono{K:Kt}{L2:Lbl}{ρ2:List DV}(h:B8 P R L ρ Q K)(hL:aQ L L2)(hp:aQ ρ ρ2):B8 P R L2 ρ2 Q K:=
 λL' ρ' h1 h2=>h L' ρ' (hL.trans h1) (hp.trans h2)
theorem GS{c:Code}{Q':Exit->AS->Prop}(h:sW P N c Q' s)(hq:∀e s,Q' e s->∃s',Re s s'/\Q e s'):sW P N c Q s:=λw0 a w E hr=>by
 refine Code.wp_mono (λe a w he=>?_) (h w0 a w E hr);obtain⟨s1,E1,h1,h2⟩:=he;obtain⟨s2,r2,h3⟩:=hq e s1 h1;obtain⟨E2,h4⟩:=r2 w0 N a w E1 h2;exact⟨s2,E2,h3,h4⟩
def UJ(h:aP)(base l:Nat)(S:Sy):Option Pg:=match Ud h base S with|some (ps,π)=>some (dE (ps.map .po) (.jump l π))|none=>none
theorem I8{h:aP}{base l:Nat}{pg:Pg}(hf:UJ h base l S=some pg)(hl:ρ.length=base)(hp:aQ ρ ρ')(hr:aN S ρ' σ s)(hw:W P R pg L ρ'):
 ∃J vs σ' s',L[l]? =some J/\J vs/\vs.length=h.np/\Re s s'/\aN h.H (ρ++vs) σ' s':=by
 unfold UJ at hf;split at hf
 ·rename_i ps π hfit;cases hf;obtain⟨ρ2,he,hw2,-⟩:=bN (gK hw);simp[W]at hw2;obtain⟨J,vs,j1,j2,j3⟩:=hw2;obtain⟨f1,f2,σ',s',f3,f4⟩:=Ka hfit hl hp hr he j2
  grind
 grind
def jK(h:aP)(base l:Nat)(K:Kt):Kt:=λlv e S'=>match e with|.normal=>UJ h base l S'|e=>K lv e S'
def AA(hs:List aP)(key lv:Nat)(S:Sy)(K:Kt)(body:Nat->Kt->Option Pg):Option Pg:=
 match J0 hs key with
 |none=>body lv K
 |some h=>if h.H.m=S.m+h.np then(match K lv .normal h.H,body (lv+1) (jK h S.m lv K)with|some rest,some k=>some (.join h.np rest k)|_,_=>none)else none
def Ve(Q:Exit->AS->Prop):Exit->AS->Prop
 |.normal,s=>∃s',Re s s'/\Q .normal s'
 |e,s=>Q e s
theorem sS{hs:List aP}{key lv:Nat}{K:Kt}{body:Nat->Kt->Option Pg}{c:Code}{pg:Pg}(h:AA hs key lv S K body=some pg)(hl:lv=L.length)(hr:aN S ρ σ s)(hk:B8 P R L ρ Q K)(hw:W P R pg L ρ)
 (hb:∀lv K' pg L' Q',body lv K'=some pg->lv=L'.length->B8 P R L' ρ Q' K'->W P R pg L' ρ->sW P N c Q' s):sW P N c Q s:=by
 unfold AA at h;split at h
 ·grind
 ·rename_i hh _;split at h
  ·rename_i hm;split at h
   ·rename_i rest k h1 h2;cases h;simp[W]at hw;obtain⟨J,w1,w2⟩:=hw;refine GS (Q':=Ve Q) (hb _ _ _ (L++[J]) (Ve Q) h2 (by grind) ?_ w2) ?_
    ·intro L' ρ' hL hp e S' pg' hpg σ' s' hr' hw';unfold jK at hpg
     cases e with
     |normal=>
      obtain⟨J',vs,σ2,s2,j1,j2,j3,j4,j5⟩:=I8 hpg hr.m hp hr' hw';rw[hL.get (i:=lv) (x:=J) (by grind)]at j1;cases j1
      exact⟨s2,j4,hk L (ρ++vs) (aQ.refl _) (aQ.app _ _) _ _ _ (hl▸h1) _ _ j5 (w1 vs j3 j2)⟩
     |_=>exact hk L' ρ' ((aQ.app _ _).trans hL) hp _ _ _ hpg _ _ hr' hw'
    ·intro e s1 h1
     cases e with
     |normal=>exact h1
     |_=>exact⟨s1,Re.refl _,h1⟩
   grind
  grind
def O8(P:Program)(S:Sy)(o:Oper):Option (List PO×Nat×Sy×Sy):=match o.op with
 |.call ⟨.builtin .append,⟨[X,Y]⟩,⟨[t,t']⟩⟩=>if t'=t then(match fL P t with
  |some (el,k)=>(match aU P el,fT P el with
   |some zs,some b=>if zs.length=k/\0<k then(match ld S Y with
    |some (q,u,S1)=>(match ld S1 X with
     |some (p,v,S2)=>(match one v,one u with
      |some .emp,some cy=>(match KL P (S2.bind 1) el k cy with
       |some (r,y,S3)=>some (q++(p++([PO.e el k]++(r++([PO.app el k b S2.m y]++[PO.emp S3.m])))),S3.m+1,{ (S3.bind 1).bind 1 with kn:=(S3.m+1,true)::S3.kn}.put o.dst (.p false [.emp]),
        (({ (S3.bind 1).bind 1 with kn:=(S3.m+1,false)::S3.kn}:Sy).push (.shr S3.c el k S3.m)).put o.dst (.p false [.own S3.n S3.c]))
       |none=>none)
      |_,_=>none)
     |none=>none)
    |none=>none)else none
   |_,_=>none)
  |none=>none)else none
 |_=>none
theorem Mc{ps:List PO}{i:Nat}{Sa Sb:Sy}{o:Oper}{a b:Pg}(h:O8 P S o=some (ps,i,Sa,Sb))(hd:dB N o.dst=true)(hr:aN S ρ σ s)(hw:W P R (dE (ps.map .po) (.ite i a b)) L ρ):
 ∃ρ' σ' s',fF P N o s s'/\aQ ρ ρ'/\((aN Sa ρ' σ' s'/\W P R a L ρ')\/(aN Sb ρ' σ' s'/\W P R b L ρ')):=by
 unfold O8 at h;split at h
 ·rename_i X Y t t' hop;split at h
  ·rename_i htt;subst htt;split at h
   ·rename_i el k ht;split at h
    ·rename_i zs by_ hz hby
     split at h
     ·rename_i hzk;split at h
      ·rename_i q u S1 hu;split at h
       ·rename_i p v S2 hv;split at h
        ·rename_i cy hone hcy;split at h
         ·rename_i r y S3 hsrc;injection h with h;injection h with e1 h;injection h with e2 h;injection h with e3 e4;subst e1 e2 e3 e4;obtain⟨ρ',he,hw2,hpre⟩:=bN (gK hw);obtain⟨ρ1,c1,c2⟩:=ak he;obtain⟨ρ2,d1,d2⟩:=ak c2;obtain⟨ρ3,f1,f2⟩:=ak (ps:=[PO.e el k]) d2;obtain⟨ρ4,g1,g2⟩:=ak f2;obtain⟨ρ5,i1,i2⟩:=ak (ps:=[PO.app el k by_ S2.m y]) (qs:=[PO.emp S3.m]) g2;obtain⟨out,o1,rfl⟩:=az f1;simp only[aA]at o1;cases o1;obtain⟨es0,fs,t',a1,a2,a3,a4,rfl⟩:=ou i1;obtain⟨out2,o2,rfl⟩:=az i2;obtain⟨k1,k2⟩:=aS hu c1 hr;obtain⟨m1,m2⟩:=aS hv d1 k2;obtain⟨acx,x1,x2⟩:=bD hone m1;obtain⟨acy,y1,y2⟩:=bD hcy k1;cases acx<;>first|exact x2.elim|skip
          have m3:=m2.bind (out:=[DV.sl el k []]) (k:=1) rfl
          have hes0:es0=[]:=by
           have h0:(ρ2++[DV.sl el k []])[S2.m]? =some (.sl el k []):=by rw[<-m2.m];simp
           rw[(ao g1).get h0]at a1
           grind
          subst hes0;simp only[List.nil_append,List.length_nil,Nat.zero_add]at *;obtain⟨b1,b2,-,-,-⟩:=Ku hsrc g1 m3 (y2.mono ((ao d1).trans (aQ.app _ _)) (aQ.refl _)) a2;have b3:=b2.bind (out:=[DV.sl el k fs]) (k:=1) rfl;have hSm:(ρ4++[DV.sl el k fs])[S3.m]? =some (.sl el k fs):=by rw[<-b2.m];simp
          simp only[aA,hSm]at o2;cases o2;have b4:=b3.bind (out:=[DV.sc (.bool fs.isEmpty)]) (k:=1) rfl
          have hi:(ρ4++[DV.sl el k fs]++[DV.sc (.bool fs.isEmpty)])[S3.m+1]? =some (.sc (.bool fs.isEmpty)):=by
           have:=b3.m;rw[List.getElem?_append_right (by rw[this];exact Nat.le_refl _),this];simp[Sy.bind]
          simp only[W,hi]at hw2
          cases fs with
          |nil=>
           refine⟨_,σ,_,MD (by_:=by_) hop (fU hd) ht hz hzk.1 x1 y1 b1,hpre,.inl ⟨?_,hw2⟩⟩
           exact(b4.know hi).put (d:=o.dst) (v:=.p false [.emp]) (x:=.p false [.emp]) ⟨rfl,trivial,trivial⟩
          |cons f0 fs=>
           refine⟨_,σ++[s.c],_,Nm hop (fU hd) ht hz hzk.1 hzk.2 hby x1 y1 b1 (by simp) (by assumption) a4,hpre,.inr ⟨?_,hw2⟩⟩;have hp:=(b4.know hi).push (so:=.shr S3.c el k S3.m) (ob:=.row s.c el k (f0::fs) false) ⟨b4.last _,rfl,rfl,rfl,(aQ.app _ _).get hSm⟩;exact hp.put (d:=o.dst) (v:=.p false [.own S3.n S3.c]) (x:=.p false [.own s.n s.c]) ⟨rfl,⟨b4.n,b4.last _⟩,trivial⟩
         grind
        grind
       grind
      grind
     grind
    grind
   grind
  grind
 grind
def Hj(P:Program)(ow:fM)(o:Oper)(S:Sy)(k:Sy->Option Pg):Option Pg:=match O8 P S o with
 |some (ps,i,Sa,Sb)=>(match k Sa,k Sb with|some a,some b=>some (dE (ps.map .po) (.ite i a b))|_,_=>none)
 |none=>match PR P ow S o with|some (n,S')=>(match k S' with|some g=>some (dE n g)|none=>none)|none=>none
def v8(P:Program)(N:Nat)(ow:fM)(ops:Array Oper):List Oper->Nat->Sy->Kt->Option Pg
 |[],lv,S,K=>K lv .normal S
 |o::r,lv,S,K=>if dB N o.dst then(match o.guard with
  |none=>Hj P ow o S λS'=>v8 P N ow ops r lv S' K
  |some (g,want)=>(match jF ops g with
   |some t=>if t<N then(match aK S.sl t with
    |some (.tup [])=>v8 P N ow ops r lv (S.put o.dst (.tup [])) K
    |some (.p false [.d i])=>(match aK S.kn i with
     |some b=>if b=want then Hj P ow o S λS'=>v8 P N ow ops r lv S' K else v8 P N ow ops r lv (S.put o.dst (.tup [])) K
     |none=>(match(Hj P ow o {S with kn:=(i,want)::S.kn} λS'=>v8 P N ow ops r lv S' K),v8 P N ow ops r lv ({S with kn:=(i,!want)::S.kn}.put o.dst (.tup [])) K with
      |some a,some b=>some (if want then .ite i a b else .ite i b a)
      |_,_=>none))
    |_=>none)else none
   |none=>none))else none
theorem wM{o:Oper}{k:Sy->Option Pg}{pg:Pg}(h:Hj P ow o S k=some pg)(hd:dB N o.dst=true)(hr:aN S ρ σ s)(hw:W P R pg L ρ):
 ∃ρ' σ' s' S' g,fF P N o s s'/\aN S' ρ' σ' s'/\k S'=some g/\W P R g L ρ'/\aQ ρ ρ':=by
 unfold Hj at h;split at h
 ·grind[Mc]
 split at h
 ·rename_i n S' ho;split at h
  ·rename_i g hg;cases h;obtain⟨ρ',σ',s',h1,h2,h3,h4⟩:=My ho hd hr (gK hw)
   grind
  grind
 grind
theorem o6{i t:Nat}{b:Bool}(hr:aN S ρ σ s)(ht:aK S.sl t=some (.p false [.d i]))(hb:ρ[i]? =some (.sc (.bool b))):s.sl t=.p false [.d (.sc (.bool b))]:=by
 obtain⟨y,y1,y2⟩:=dl (v:=.p false [.d i]) rfl (hr.sl t _ ht);rw[hb]at y2;grind
theorem gt{ops:Array Oper}{K:Kt}:∀{l:List Oper} {lv:Nat} {S:Sy} {pg:Pg} {ρ:List DV} {σ:List Nat} {s:AS},v8 P N ow ops l lv S K=some pg->lv=L.length->aN S ρ σ s->B8 P R L ρ Q K->W P R pg L ρ->lk P N ops l Q s
 |[],lv,S,pg,ρ,σ,s,h,hl,hr,hk,hw=>In (hk L ρ (aQ.refl _) (aQ.refl _) _ _ _ (by rw[<-hl];exact h) _ _ hr hw)
 |o::r,lv,S,pg,ρ,σ,s,h,hl,hr,hk,hw=>by
  simp only[v8]at h;split at h
  ·rename_i hd;split at h
   ·rename_i hg;obtain⟨ρ',σ',s',S',g,r1,r2,r3,r4,r5⟩:=wM h hd hr hw;exact GK hg r1 (gt r3 hl r2 (hk.mono (aQ.refl _) r5) r4)
   ·rename_i g want hg;split at h
    ·rename_i t hgs;split at h
     ·rename_i htN;split at h
      ·rename_i ht
       have hs:s.sl t=.tup []:=by
        have:=hr.sl t _ ht
        cases hx:s.sl t with
        |tup ys=>rw[hx]at this;cases ys with
         |nil=>rfl
         |cons=>exact this.elim
        |p=>rw[hx]at this;exact this.elim
        |und=>rw[hx]at this;exact this.elim
       exact ul hg hgs hs htN (fU hd) (gt h hl (hr.put (v:=.tup []) (x:=.tup []) trivial) hk hw)
      ·rename_i i ht;split at h
       ·rename_i b hb;have hs:=o6 hr ht (hr.kn i b hb);split at h
        ·rename_i e;subst e;obtain⟨ρ',σ',s',S',g',r1,r2,r3,r4,r5⟩:=wM h hd hr hw;exact oH hg hgs hs htN r1 (gt r3 hl r2 (hk.mono (aQ.refl _) r5) r4)
        ·rename_i e;exact na hg hgs hs htN e (fU hd) (gt h hl (hr.put (v:=.tup []) (x:=.tup []) trivial) hk hw)
       ·split at h
        ·rename_i ga gb h1 h2;cases h
         have hw':∃b,ρ[i]? =some (.sc (.bool b))/\(if b=want then W P R ga L ρ else W P R gb L ρ):=by
          grind[W]
         obtain⟨b,hb,hw'⟩:=hw';have hs:=o6 hr ht hb;split at hw'
         ·rename_i e;subst e;obtain⟨ρ',σ',s',S',g',r1,r2,r3,r4,r5⟩:=wM h1 hd (hr.know hb) hw';exact oH hg hgs hs htN r1 (gt r3 hl r2 (hk.mono (aQ.refl _) r5) r4)
         ·rename_i e;have hb':ρ[i]? =some (.sc (.bool (!want))):=by rw[hb];cases b<;>cases want<;>simp_all
          exact na hg hgs hs htN e (fU hd) (gt h2 hl ((hr.know hb').put (v:=.tup []) (x:=.tup []) trivial) hk hw')
        grind
      grind
     grind
    grind
  grind
end
end Go.Proofs.Ytgdbmcoamemmaaa
namespace Go.Proofs.Ytgdbmcoamemmaaa
open Go.RowKit
def Lz:Code->Option Nat
 |.region id _ _=>some id
 |.seq a b=>(match Lz a with|some i=>some i|none=>Lz b)
 |.block _ a=>Lz a
 |.loop a=>Lz a
 |.cond _ a b=>(match Lz a with|some i=>some i|none=>Lz b)
 |_=>none
abbrev Dt:=Nat->Array Oper->Nat->Sy->Kt->Option Pg
def Oh(y:Nat->Sy->Option Pg)(K:Kt):Kt:=λlv e S=>match e with|.normal=>y lv S|e=>K lv e S
def NU(id:Nat)(K:Kt):Kt:=λlv e S=>match e with|.exit id'=>if id'=id then K lv .normal S else K lv (.exit id') S|e=>K lv e S
def On(S:Sy)(c:Operand)(gx gy:Sy->Option Pg):Option Pg:=
 match ld S c with
 |some (p,.p false [.d i],S1)=>(match aK S1.kn i with
  |some b=>(match(if b then gx S1 else gy S1)with|some g=>some (dE (p.map .po) g)|none=>none)
  |none=>(match gx {S1 with kn:=(i,true)::S1.kn},gy {S1 with kn:=(i,false)::S1.kn}with|some a,some b=>some (dE (p.map .po) (.ite i a b))|_,_=>none))
 |_=>none
def Cc(P:Program)(N:Nat)(ow:fM)(hs:List aP)(D:Dt):Code->Nat->Sy->Kt->Option Pg
 |.skip,lv,S,K=>K lv .normal S
 |.exit id,lv,S,K=>K lv (.exit id) S
 |.ret,lv,S,K=>K lv .ret S
 |.seq x y,lv,S,K=>Cc P N ow hs D x lv S (Oh (λlv S'=>Cc P N ow hs D y lv S' K) K)
 |.block id x,lv,S,K=>AA hs (2000000+id) lv S K λlv K=>Cc P N ow hs D x lv S (NU id K)
 |.cond c x y,lv,S,K=>AA hs (1000000+(match Lz x with|some i=>i|none=>(Lz y).getD 0)) lv S K λlv K=>On S c (λS=>Cc P N ow hs D x lv S K) (λS=>Cc P N ow hs D y lv S K)
 |.region id ops false,lv,S,K=>AA hs id lv S K λlv K=>v8 P N ow ops ops.toList lv S K
 |.region id ops true,lv,S,K=>AA hs id lv S K λlv K=>D id ops lv S K
 |.loop c,lv,S,K=>(match J0 hs (3000000+(Lz c).getD 0)with
  |some h=>if h.H.m=(wa h.nils S).2.m+h.np then(match Ud h (wa h.nils S).2.m (wa h.nils S).2,Cc P N ow hs D c (lv+1) h.H (jK h (wa h.nils S).2.m lv K)with
   |some ([],π),some body=>some (dE ((wa h.nils S).1.map .po) (.loop π body))
   |_,_=>none)else none
  |none=>none)
 |_,_,_,_=>none
section
variable {P:Program}{R:List (Bool×List DV)->Prop}{N:Nat}{ow:fM}{hs:List aP}{D:Dt}
def TX(P:Program)(R:List (Bool×List DV)->Prop)(N:Nat)(D:Dt):Prop:=
 ∀id ops lv S K pg,D id ops lv S K=some pg->∀(L:Lbl) ρ σ s Q,lv=L.length->aN S ρ σ s->B8 P R L ρ Q K->W P R pg L ρ->sW P N (.region id ops true) Q s
theorem BO(hD:TX P R N D):∀(c:Code) {lv:Nat} {S:Sy} {K:Kt} {pg:Pg} {L:Lbl} {ρ:List DV} {σ:List Nat} {s:AS} {Q:Exit->AS->Prop},Cc P N ow hs D c lv S K=some pg->lv=L.length->aN S ρ σ s->B8 P R L ρ Q K->W P R pg L ρ->sW P N c Q s:=by
 intro c
 induction c with
 |skip=>intro lv S K pg L ρ σ s Q h hl hr hk hw;exact Li (hk L ρ (aQ.refl _) (aQ.refl _) _ _ _ (by rw[<-hl];exact h) _ _ hr hw)
 |exit id=>intro lv S K pg L ρ σ s Q h hl hr hk hw;exact Kx (hk L ρ (aQ.refl _) (aQ.refl _) _ _ _ (by rw[<-hl];exact h) _ _ hr hw)
 |ret=>intro lv S K pg L ρ σ s Q h hl hr hk hw;exact Mj (hk L ρ (aQ.refl _) (aQ.refl _) _ _ _ (by rw[<-hl];exact h) _ _ hr hw)
 |seq x y ihx ihy=>
  intro lv S K pg L ρ σ s Q h hl hr hk hw;simp[Cc]at h;refine LF (ihx h hl hr ?_ hw);intro L' ρ' hL hp e S' pg' hpg σ' s' hr' hw';unfold Oh at hpg
  cases e with
  |normal=>exact ihy hpg rfl hr' (hk.mono hL hp) hw'
  |_=>exact hk L' ρ' hL hp _ _ _ hpg _ _ hr' hw'
 |block id x ih=>
  intro lv S K pg L ρ σ s Q h hl hr hk hw;simp[Cc]at h;refine sS h hl hr hk hw λlv K' pg L' Q' hb hl' hk' hw'=>?_
  refine GZ (ih hb hl' hr ?_ hw');intro L2 ρ2 hL hp e S2 pg2 hpg σ2 s2 hr2 hw2;unfold NU at hpg
  cases e with
  |exit id'=>
   simp only at hpg;simp[Hw];split at hpg
   ·rename_i e;rw[if_pos e];exact hk' L2 ρ2 hL hp _ _ _ hpg _ _ hr2 hw2
   ·rename_i e;rw[if_neg e];exact hk' L2 ρ2 hL hp _ _ _ hpg _ _ hr2 hw2
  |_=>exact hk' L2 ρ2 hL hp _ _ _ hpg _ _ hr2 hw2
 |cond c x y ihx ihy=>
  intro lv S K pg L ρ σ s Q h hl hr hk hw;simp[Cc]at h;refine sS h hl hr hk hw λlv K' pg L' Q' hb hl' hk' hw'=>?_
  unfold On at hb;split at hb
  ·rename_i p i S1 hv;split at hb
   ·rename_i b hkn;split at hb
    ·rename_i g hg;cases hb;obtain⟨ρ1,he,hw1,hp1⟩:=bN (gK hw');obtain⟨k1,k2⟩:=aS hv he hr;obtain⟨z,z1,z2⟩:=dl (i:=i) rfl k1;rw[k2.kn i b hkn]at z2;cases z2;refine Di z1 ?_
     cases b with
     |true=>exact ihx hg hl' k2 (hk'.mono (aQ.refl _) hp1) hw1
     |false=>exact ihy hg hl' k2 (hk'.mono (aQ.refl _) hp1) hw1
    grind
   ·split at hb
    ·rename_i ga gb h1 h2;cases hb;obtain⟨ρ1,he,hw1,hp1⟩:=bN (gK hw');obtain⟨k1,k2⟩:=aS hv he hr;obtain⟨z,z1,z2⟩:=dl (i:=i) rfl k1;simp[W]at hw1;split at hw1
     ·rename_i b hb;rw[hb]at z2;cases z2;refine Di z1 ?_
      cases b with
      |true=>exact ihx h1 hl' (k2.know hb) (hk'.mono (aQ.refl _) hp1) hw1
      |false=>exact ihy h2 hl' (k2.know hb) (hk'.mono (aQ.refl _) hp1) hw1
     grind
    grind
  grind
 |region id ops dr=>
  intro lv S K pg L ρ σ s Q h hl hr hk hw
  cases dr with
  |false=>
   simp[Cc]at h
   grind[sS,D7,gt]
  |true=>
   simp[Cc]at h;refine sS h hl hr hk hw λlv K' pg L' Q' hb hl' hk' hw'=>?_
   exact hD _ _ _ _ _ _ hb _ _ _ _ _ hl' hr hk' hw'
 |loop c ih=>
  intro lv S K pg L ρ σ s Q h hl hr hk hw;simp[Cc]at h;split at h
  ·rename_i hh _;split at h
   ·rename_i hm;split at h
    ·rename_i π body hf hb;cases h;obtain⟨ρ1,he,hw1,hp1⟩:=bN (gK hw);obtain⟨σ1,s1,re1,hr1⟩:=Bv he hr;simp[W]at hw1;obtain⟨I,m,vs,v1,v2,v3⟩:=hw1;obtain⟨f1,f2,σ2,s2,f3,f4⟩:=Ka hf hr1.m (aQ.refl _) hr1 rfl v1;refine O1 (re1.trans f3) (Fk (λs m=>∃vs σ,vs.length=hh.np/\I vs m/\aN hh.H (ρ1++vs) σ s) m ⟨vs,σ2,f1,v2,f4⟩ ?_);rintro s3 m3 ⟨vs3,σ3,g1,g2,g3⟩;refine ih hb (L:=L++[λvs'=>∃m',m'<m3/\I vs' m']) (by grind) g3 ?_ (v3 vs3 m3 (by rw[g1,f2]) g2);intro L' ρ' hL hp e S' pg' hpg σ' s' hr' hw';unfold jK at hpg
     cases e with
     |normal=>
      obtain⟨J',vs',σ4,s4,j1,j2,j3,j4,j5⟩:=I8 hpg hr1.m ((aQ.app _ _).trans hp) hr' hw';rw[hL.get (i:=lv) (x:=λvs'=>∃m',m'<m3/\I vs' m') (by grind)]at j1
      grind
     |_=>exact hk L' ρ' ((aQ.app _ _).trans hL) (hp1.trans ((aQ.app _ _).trans hp)) _ _ _ hpg _ _ hr' hw'
    grind
   grind
  grind
 |_=>intro lv S K pg L ρ σ s Q h;simp[Cc]at h
end
section
variable {P:Program}{ρ ρ':List DV}{σ:List Nat}{S S':Sy}{s s0:AS}{ps:List PO}
def TB(P:Program)(S:Sy):ResultVar->Option (List PO×Bool×List SC×Sy)
 |.tmp t=>(match aK S.sl t with|some (.p b cs)=>some ([],b,cs,S)|_=>none)
 |.cell t ty=>(match aK S.sl t with
  |some v=>(match one v with|some c=>(match FI P S ty c with|some (p,.p b cs,S1)=>some (p,b,cs,S1)|_=>none)|none=>none)
  |none=>none)
def Cr(P:Program):List ResultVar->Sy->Option (List PO×List (Bool×List SC)×Sy)
 |[],S=>some ([],[],S)
 |rv::r,S=>(match TB P S rv with
  |some (p,b,cs,S1)=>(match Cr P r S1 with|some (q,xs,S2)=>some (p++q,(b,cs)::xs,S2)|none=>none)
  |none=>none)
def T6(P:Program)(s0:AS):List ResultVar->List (Bool×List AC)->Prop
 |[],[]=>True
 |rv::rvs,y::ys=>E6 P s0 rv=some (.p y.1 y.2)/\T6 P s0 rvs ys
 |_,_=>False
theorem Iz{rv:ResultVar}{b:Bool}{cs:List SC}(h:TB P S rv=some (ps,b,cs,S'))(he:ax ps ρ=some ρ')(hr:aN S ρ σ s0):∃ys,E6 P s0 rv=some (.p b ys)/\cQ ρ' σ cs ys/\aN S' ρ' σ s0:=by
 unfold TB at h;split at h
 ·split at h
  ·rename_i ht;injection h with h;injection h with e1 h;injection h with e2 h;injection h with e3 e4;subst e1 e2 e3 e4;simp only[ax]at he;cases he;have:=hr.sl _ _ ht;rename_i t b cs _
   cases hx:s0.sl t with
   |p b' ys=>rw[hx]at this;obtain⟨rfl,h2⟩:=this;grind[E6]
   |tup=>rw[hx]at this;exact this.elim
   |und=>rw[hx]at this;exact this.elim
  grind
 ·split at h
  ·rename_i t ty v ht;split at h
   ·rename_i c hc;split at h
    ·rename_i p b' cs' S1 hl;cases h;obtain⟨y,y1,y2⟩:=bD hc (hr.sl _ _ ht);obtain⟨x,x1,x2,x3⟩:=DS hl he hr y2
     cases x with
     |p b2 ys=>obtain⟨rfl,h2⟩:=x2;grind[E6]
     |tup=>exact x2.elim
     |und=>exact x2.elim
    grind
   grind
  grind
theorem BS:∀{rvs:List ResultVar} {xs:List (Bool×List SC)} {S S':Sy} {ps:List PO} {ρ ρ':List DV},Cr P rvs S=some (ps,xs,S')->ax ps ρ=some ρ'->aN S ρ σ s0->∃ys,T6 P s0 rvs ys/\RT ρ' σ xs ys/\aN S' ρ' σ s0
 |[],xs,S,S',ps,ρ,ρ',h,he,hr=>by
  simp only[Cr]at h;cases h;simp only[ax]at he;cases he
  exact⟨[],trivial,trivial,hr⟩
 |rv::r,xs,S,S',ps,ρ,ρ',h,he,hr=>by
  simp[Cr]at h;split at h
  ·rename_i p b cs S1 h1;split at h
   ·rename_i q xs' S2 h2;cases h;obtain⟨ρ1,a1,a2⟩:=ak he;obtain⟨ys,y1,y2,y3⟩:=Iz h1 a1 hr;obtain⟨zs,z1,z2,z3⟩:=BS h2 a2 y3;exact⟨(b,ys)::zs,⟨y1,z1⟩,⟨⟨rfl,cQ.mono (ao a2) (aQ.refl _) y2⟩,z2⟩,z3⟩
   grind
  grind
def G0:List (Bool×List SC)->List (List (Option (Nat×Nat)))->Sy->Option (List PO×List (Bool×List Nat))
 |[],_,S=>some ([],[])
 |(b,cs)::r,ty,S=>(match cW cs (ty.headD []) S with
  |some (p,xs,S1)=>(match G0 r ty.tail S1 with|some (q,l)=>some (p++q,(b,xs)::l)|none=>none)
  |none=>none)
theorem Fv:∀{xs:List (Bool×List SC)} {ty:List (List (Option (Nat×Nat)))} {l:List (Bool×List Nat)} {S:Sy} {ps:List PO} {ρ ρ':List DV} {s:AS} {rvs:List ResultVar} {ys:List (Bool×List AC)},
 G0 xs ty S=some (ps,l)->ax ps ρ=some ρ'->aN S ρ σ s->T6 P s0 rvs ys->RT ρ σ xs ys->∃ds,dc ρ' l=some ds/\dy P s0 rvs (ds.map λd=>(d.1,d.2,true)) s
 |[],ty,l,S,ps,ρ,ρ',s,rvs,ys,h,he,hr,hv,ht=>by
  simp only[G0]at h;cases h
  match ys,ht with
  |[],_=>
   cases rvs with
   |nil=>exact⟨[],rfl,trivial⟩
   |cons=>exact hv.elim
 |(b,cs)::r,ty,l,S,ps,ρ,ρ',s,rvs,ys,h,he,hr,hv,ht=>by
  simp[G0]at h;split at h
  ·rename_i p xs S1 h1;split at h
   ·rename_i q l' h2;cases h
    match ys,rvs,ht,hv with
    |y::ys,rv::rvs,ht,hv=>
     obtain⟨ρ1,a1,a2⟩:=ak he;obtain⟨s1,ds,g1,g2,g3,-⟩:=eK h1 a1 hr ht.1.2;obtain⟨dss,d1,d2⟩:=Fv h2 a2 g3 hv.2 (RT.mono (ao a1) (aQ.refl _) ht.2);refine⟨(b,ds)::dss,by simp[dc,g2.app_pre (ao a2),d1],?_⟩;simp only[List.map_cons,dy];refine⟨trivial,?_⟩;rw[hv.1];exact⟨ht.1.1,s1,g1,d2⟩
   grind
  grind
def DE(P:Program)(rvs:List ResultVar)(ty:List (List (Option (Nat×Nat)))):Kt:=λ_ e S=>
 match e with
 |.normal|.ret=>(match Cr P rvs S with
  |some (p,xs,S1)=>(match G0 xs ty S1 with|some (q,l)=>some (dE ((p++q).map .po) (.ret l))|none=>none)
  |none=>none)
 |_=>none
def mW(res:List Rs)(vs:List (Bool×List DV)):Prop:=(vs.map λd=>(d.1,d.2,true))=res
theorem DI{rvs:List ResultVar}{ty:List (List (Option (Nat×Nat)))}{res:List Rs}{L:Lbl}:B8 P (mW res) L ρ (GB P rvs res) (DE P rvs ty):=by
 intro L' ρ1 hL hp e S pg hpg σ s hr hw
 have key:∀p xs S1 q l,Cr P rvs S=some (p,xs,S1)->G0 xs ty S1=some (q,l)->pg=dE ((p++q).map .po) (.ret l)->dy P s rvs res s:=by
  intro p xs S1 q l h1 h2 e;subst e;obtain⟨ρ2,he,hw2,-⟩:=bN (gK hw);simp[W]at hw2;obtain⟨vs,w1,w2⟩:=hw2;obtain⟨ρ3,a1,a2⟩:=ak he;obtain⟨ys,y1,y2,y3⟩:=BS h1 a1 hr;obtain⟨ds,d1,d2⟩:=Fv (P:=P) (s0:=s) h2 a2 y3 y1 y2;rw[w1]at d1;cases d1;rw[w2]at d2;exact d2
 unfold DE at hpg;split at hpg
 ·split at hpg
  ·split at hpg
   ·injection hpg with hpg;exact Or.inl (key _ _ _ _ _ (by assumption) (by omega) hpg.symm)
   grind
  grind
 ·split at hpg
  ·split at hpg
   ·injection hpg with hpg;exact Or.inl (key _ _ _ _ _ (by assumption) (by omega) hpg.symm)
   grind
  grind
 grind
def Rz:List (Bool×Nat)->Nat->Nat->List (Nat×SV)
 |[],_,_=>[]
 |(b,n)::r,t,m=>(t,.p b ((dW m n).map .d))::Rz r (t+1) (m+n)
def d5:List (Bool×List DV)->List DV
 |[]=>[]
 |(_,ds)::r=>ds++d5 r
def Bp(args:List (Bool×List DV)):List (Bool×Nat):=args.map λa=>(a.1,a.2.length)
theorem EK:∀{args:List (Bool×List DV)} {t0 t:Nat} {pre:List DV} {x:SV},aK (Rz (Bp args) t0 pre.length) t=some x->∃b ds m,t0<=t/\args[t-t0]? =some (b,ds)/\x=.p b ((dW m ds.length).map .d)/\RD (pre++d5 args) (dW m ds.length) ds
 |[],t0,t,pre,x,h=>by grind[Bp,Rz,aK]
 |(b,ds)::r,t0,t,pre,x,h=>by
  simp[Bp,List.map_cons,Rz,aK]at h;split at h
  ·rename_i e;subst e;injection h with h;refine⟨b,ds,pre.length,Nat.le_refl _,by simp,h.symm,?_⟩;have:RD (pre++ds) (dW pre.length ds.length) ds:=A4;simp[d5];rw[<-List.append_assoc];exact this.mono (aQ.app _ _)
  ·rename_i e;obtain⟨b',ds',m,h1,h2,h3,h4⟩:=EK (args:=r) (t0:=t0+1) (t:=t) (pre:=pre++ds) (x:=x) (by grind[Bp])
   grind[d5]
def qN(sh:List (Bool×Nat)):Sy:=⟨Rz sh 0 0,[],0,0,(sh.map (·.2)).sum,[]⟩
theorem D0(args:List (Bool×List DV)):aN (qN (Bp args)) (d5 args) [] (iA args):=by
 refine⟨rfl,rfl,?_,λt x hx=>?_,λi x hx=>by grind[qN,aK],λi b hb=>by grind[qN,aK]⟩
 ·simp[qN]
  induction args with
  |nil=>rfl
  |cons a r ih=>grind[d5,Bp,List.length_append]
 ·obtain⟨b,ds,m,h1,h2,h3,h4⟩:=EK (pre:=[]) hx;subst h3;rw[Nat.sub_zero]at h2;simp[iA,h2];exact⟨rfl,RD.toC (by assumption)⟩
theorem IE{ow:fM}{hs:List aP}{D:Dt}{f:FuncId}{fn:Func}{c:Code}{args:List (Bool×List DV)}{res:List Rs}{ty:List (List (Option (Nat×Nat)))}{sh:List (Bool×Nat)}{pg:Pg}(hD:TX P (mW res) fn.ntmps D)
 (hf:P.funcs[f]? =some fn) (hb:fn.body=some c) (hc:a9 P f=true) (hN:args.length<=fn.ntmps) (hsh:Bp args=sh)
 (hg:Cc P fn.ntmps ow hs D c 0 (qN sh) (DE P fn.results.toList ty)=some pg) (hw:W P (mW res) pg [] (d5 args)):aI P f args res:=by
 subst hsh;exact Hq hf hb hc hN (BO hD c hg rfl (D0 args) DI hw)
end
end Go.Proofs.Ytgdbmcoamemmaaa
namespace Go.Proofs.Ytgdbmcoamemmaaa
open Go.RowKit
section
variable {P:Program}{R:List (Bool×List DV)->Prop}{N:Nat}{ow:fM}{ρ ρ':List DV}{σ σ' σh σq:List Nat}{S S' H Q H' Q':Sy}{s s' h q:AS}{ps:List PO}{o:Oper}{K:List DV->Prop}{n:List Nd}{L:Lbl}{pr:Bool}
theorem aN.sync(hr:aN S ρ σ s)(hp:aQ ρ ρ'):aN {S with m:=ρ'.length} ρ' σ s:=hr.more hp rfl
def G2(P:Program)(S:Sy):Op->SR
 |.build t parts=>(match xW P S t parts.toList with|some (ps,cs,S')=>some (ps,.p true cs,S')|none=>none)
 |op=>SA P S op
theorem o8{op:Op}{v:SV}(hh:G2 P S op=some (ps,v,S'))(he:ax ps ρ=some ρ')(hr:aN S ρ σ s):∃x,pK P s op=some x/\RV ρ' σ v x/\aN S' ρ' σ s:=by
 unfold G2 at hh;split at hh
 ·split at hh
  ·rename_i ps' cs S1 hb;cases hh;obtain⟨ht,z,ys,z1,z2,z3,z4⟩:=zQ hb he hr;exact⟨.p true ys,by simp_all[pK,if_true],⟨rfl,z3⟩,z4⟩
  grind
 ·rename_i hnb;obtain⟨x,x1,x2,x3⟩:=JD hh he hr
  grind[pK]
def rE:List SC->List (Option (Nat×Nat))->Option (List PO)
 |[],_=>some []
 |.d i::r,ty=>(match ty.headD (some (0,0))with|none=>(match rE r ty.tail with|some p=>some (.sc i::p)|none=>none)|some _=>none)
 |.rd _::_,_=>none
 |_::r,ty=>rE r ty.tail
theorem kH:∀{cs:List SC} {ty:List (Option (Nat×Nat))} {ps:List PO} {ρ ρ':List DV} {ys:List AC},rE cs ty=some ps->ax ps ρ=some ρ'->cQ ρ σ cs ys->ρ'=ρ/\ys.all db=true
 |[],ty,ps,ρ,ρ',ys,hh,he,hc=>by
  simp[rE]at hh;cases hh;simp[ax]at he;cases he
  cases ys with
  |nil=>grind
  |cons=>exact hc.elim
 |c::r,ty,ps,ρ,ρ',[],hh,he,hc=>hc.elim
 |.d i::r,ty,ps,ρ,ρ',y::ys,hh,he,hc=>by
  simp[rE]at hh;split at hh
  ·split at hh
   ·rename_i p hp;cases hh;obtain⟨x,rfl,hx⟩:=pG hc.1;simp[ax,aA,hx]at he;split at he
    ·rename_i out ho;split at ho
     ·rename_i hsc;cases ho;rw[List.append_nil]at he;obtain⟨u,rfl⟩:=td hsc;obtain⟨h1,h2⟩:=kH hp he hc.2
      grind[db]
     grind
    grind
   grind
  grind
 |.nil::r,ty,ps,ρ,ρ',y::ys,hh,he,hc=>by
  simp[rE]at hh;cases y<;>first|exact hc.1.elim|skip
  obtain⟨h1,h2⟩:=kH hh he hc.2
  grind[db]
 |.own _ _::r,ty,ps,ρ,ρ',y::ys,hh,he,hc=>by
  simp[rE]at hh;cases y<;>first|exact hc.1.elim|skip
  obtain⟨h1,h2⟩:=kH hh he hc.2
  grind[db]
 |.ptr _ _ _::r,ty,ps,ρ,ρ',y::ys,hh,he,hc=>by
  simp[rE]at hh;cases y<;>first|exact hc.1.elim|skip
  obtain⟨h1,h2⟩:=kH hh he hc.2
  grind[db]
 |.elt _ _ _ _ _::r,ty,ps,ρ,ρ',y::ys,hh,he,hc=>by
  simp[rE]at hh;cases y<;>first|exact hc.1.elim|skip
  obtain⟨h1,h2⟩:=kH hh he hc.2
  grind[db]
 |.sub _ _ _ _ _::r,ty,ps,ρ,ρ',y::ys,hh,he,hc=>by
  simp[rE]at hh;cases y<;>first|exact hc.1.elim|skip
  obtain⟨h1,h2⟩:=kH hh he hc.2
  grind[db]
 |.emp::r,ty,ps,ρ,ρ',y::ys,hh,he,hc=>by
  simp[rE]at hh;cases y<;>first|exact hc.1.elim|skip
  obtain⟨h1,h2⟩:=kH hh he hc.2
  grind[db]
 |.rd _::r,ty,ps,ρ,ρ',y::ys,hh,he,hc=>by grind[rE]
abbrev HR:=Option (List Nd×Sy×Sy)
def IY(P:Program)(pr:Bool)(H Q:Sy)(o:Oper):HR:=
 match G2 P H o.op with
 |some (ps,v,H1)=>if pr then some (ps.map .po,H1.put o.dst v,{Q with m:=H1.m}.put o.dst v)else(match v with
  |.p b cs=>(match rE cs (C0 P 9 o.type)with
   |some sp=>some ((ps++sp).map .po,H1.put o.dst v,{Q with m:=H1.m}.put o.dst v)
   |none=>some (ps.map .po,H1.put o.dst v,{Q with m:=H1.m}.del o.dst))
  |.tup _=>some (ps.map .po,H1.put o.dst v,{Q with m:=H1.m}.del o.dst))
 |none=>none
def xe(P:Program)(pr:Bool)(h q:AS)(σh:List Nat)(o:Oper)(H' Q':Sy)(K:List DV->Prop):Prop:=
 ∃ρ' σq' kd x q',uv P pr h q o kd x q'/\aN H' ρ' σh (h.put o.dst x)/\aN Q' ρ' σq' q'/\aQ σh σq'/\K ρ'
theorem BR(hh:IY P pr H Q o=some (n,H',Q'))(hr:aN H ρ σh h)(hq:aN Q ρ σq q)(hp:aQ σh σq)(hw:WN P n K ρ):xe P pr h q σh o H' Q' K:=by
 unfold IY at hh;split at hh
 ·rename_i ps v H1 hv;split at hh
  ·rename_i hpr;cases hh;obtain⟨ρ',he,hk⟩:=bN hw;obtain⟨x,x1,x2,x3⟩:=o8 hv he hr;refine⟨ρ',σq,.v x,x,q.put o.dst (j6 pr x),.inl ⟨x,x1,rfl,rfl,rfl⟩,x3.put x2,?_,hp,hk⟩;rw[<-x3.m];refine(hq.sync (ao he)).put ?_;unfold j6;rw[if_pos hpr];exact x2.mono (aQ.refl _) hp
  ·rename_i hpr;split at hh
   ·rename_i b cs;split at hh
    ·rename_i sp hsp;cases hh;obtain⟨ρ',he,hk⟩:=bN hw;obtain⟨ρ1,a1,a2⟩:=ak he;obtain⟨x,x1,x2,x3⟩:=o8 hv a1 hr
     cases x with
     |p b' ys=>
      have x2':=x2;obtain⟨rfl,hc⟩:=x2;obtain⟨rfl,hs⟩:=kH hsp a2 hc;refine⟨ρ',σq,.v (.p b' ys),.p b' ys,q.put o.dst (j6 pr (.p b' ys)),.inl ⟨_,x1,rfl,rfl,rfl⟩,x3.put x2',?_,hp,hk⟩;rw[<-x3.m];refine(hq.sync (ao a1)).put ?_
      unfold j6;rw[if_neg hpr];simp[hs,if_true];exact⟨rfl,cQ.mono (aQ.refl _) hp hc⟩
     |tup=>exact x2.elim
     |und=>exact x2.elim
    ·cases hh;obtain⟨ρ',he,hk⟩:=bN hw;obtain⟨x,x1,x2,x3⟩:=o8 hv he hr;refine⟨ρ',σq,.v x,x,q.put o.dst (j6 pr x),.inl ⟨x,x1,rfl,rfl,rfl⟩,x3.put x2,?_,hp,hk⟩;rw[<-x3.m];exact(hq.sync (ao he)).del
   ·cases hh;obtain⟨ρ',he,hk⟩:=bN hw;obtain⟨x,x1,x2,x3⟩:=o8 hv he hr;refine⟨ρ',σq,.v x,x,q.put o.dst (j6 pr x),.inl ⟨x,x1,rfl,rfl,rfl⟩,x3.put x2,?_,hp,hk⟩;rw[<-x3.m];exact(hq.sync (ao he)).del
 grind
def UK(P:Program)(H:Sy)(o:Oper):Bool:=match o.op with
 |.assign _|.load _ _=>(match G2 P H o.op with|some (_,.p _ cs,_)=>(rE cs (C0 P 9 o.type)).isSome&&cs.all (λc=>!decide (c=.emp))|_=>false)
 |_=>false
def QO(H:Sy)(o:Oper):Bool:=match o.op with
 |.load _ (.tmp x)=>(match aK H.sl x with|some (.p false [.ptr i st _])=>(match H.own i st with|some (.var _ _ _)=>true|_=>false)|_=>false)
 |.load _ _=>false
 |_=>true
theorem LX(hr:aN H ρ σh h)(hp:E4 o.op=true)(hl:QO H o=true):Ij h o.op:=by
 refine⟨hp,λt x ho=>?_⟩;unfold QO at hl;rw[ho]at hl;split at hl
 ·rename_i t' x' he;injection he with _ he;subst he;split at hl
  ·rename_i i st off hx;split at hl
   ·rename_i st0 ty cs hown;have hv:=hr.sl _ _ hx;show∃i st off ty cs,h.sl x'=_/\_
    cases hs:h.sl x' with
    |tup=>rw[hs]at hv;exact hv.elim
    |und=>rw[hs]at hv;exact hv.elim
    |p b ys=>
     rw[hs]at hv;obtain⟨rfl,hv⟩:=hv
     match ys,hv with
     |[y],hv=>
      cases y<;>first|exact hv.1.elim|skip
      obtain⟨⟨rfl,h2,rfl⟩,-⟩:=hv;obtain⟨o',k1,k2,-,-⟩:=hr.own hown h2;cases o'<;>first|exact k2.elim|skip
      obtain rfl:=bh k1 rfl
      grind
   grind
  grind
 ·cases hl
 grind
def Qx(P:Program)(pr:Bool)(H Q:Sy)(o:Oper):HR:=
 if UK P H o||(pr|| !E4 o.op|| !QO H o)then IY P pr H Q o else(match G2 P H o.op with
  |some (ps,v,H1)=>(match G2 P {Q with m:=H1.m} o.op with
   |some (qs,u,Q1)=>some ((ps++qs).map .po,{H1 with m:=Q1.m}.put o.dst v,Q1.put o.dst u)
   |none=>IY P pr H Q o)
  |none=>IY P pr H Q o)
theorem M0(hh:Qx P pr H Q o=some (n,H',Q'))(hr:aN H ρ σh h)(hq:aN Q ρ σq q)(hp:aQ σh σq)(hw:WN P n K ρ):xe P pr h q σh o H' Q' K:=by
 unfold Qx at hh;split at hh
 ·grind[BR]
 ·rename_i hpr;simp[Bool.or_eq_true,Bool.not_eq_true',not_or,Bool.not_eq_true,Bool.not_eq_false]at hpr
  replace hpr:=hpr.2
  obtain⟨⟨hpr0,hpr1⟩,hpr2⟩:=hpr;split at hh
  ·rename_i ps v H1 h1;split at hh
   ·rename_i qs u Q1 h2;cases hh;obtain⟨ρ',he,hk⟩:=bN hw;obtain⟨ρ1,a1,a2⟩:=ak he;obtain⟨x,x1,x2,x3⟩:=o8 h1 a1 hr;have hq1:aN {Q with m:=H1.m} ρ1 σq q:=by rw[<-x3.m];exact hq.sync (ao a1)
    obtain⟨y,y1,y2,y3⟩:=o8 h2 a2 hq1;have hr2:aN {H1 with m:=Q1.m} ρ' σh h:=by rw[<-y3.m];exact x3.sync (ao a2)
    exact⟨ρ',σq,.p o.op,x,q.put o.dst y,.inr (.inr (.inr (.inr (.inl ⟨x,y,LX hr hpr1 hpr2,hpr0,x1,y1,rfl,rfl,rfl⟩)))),hr2.put (x2.mono (ao a2) (aQ.refl _)),y3.put y2,hp,hk⟩
   grind[BR]
  grind[BR]
def D5(P:Program)(pr:Bool)(H Q:Sy)(d:Option Nat)(t:TypeId):HR:=
 if pr then none else(match aU P t with
  |some vs=>(match sZ vs H.m with|some (p,cs)=>some (p.map .po,(H.bind p.length).del d,({Q with m:=(H.bind p.length).m}.push (.var Q.c t cs)).put d (.p false [.ptr Q.n Q.c 0]))|none=>none)
  |none=>none)
theorem HI{t:TypeId}(ho:o.op=.alloc t)(hh:D5 P pr H Q o.dst t=some (n,H',Q'))(hr:aN H ρ σh h)(hq:aN Q ρ σq q)(hp:aQ σh σq)(hw:WN P n K ρ):xe P pr h q σh o H' Q' K:=by
 unfold D5 at hh;split at hh
 ·cases hh
 ·rename_i hpr;split at hh
  ·rename_i vs hz;split at hh
   ·rename_i p cs hs;cases hh;obtain⟨ρ',he,hk⟩:=bN hw;obtain⟨acs,a1,a2,a3⟩:=C7 (σ:=σq) hs hr.m he;have hr1:aN (H.bind p.length) ρ' σh h:=hr.more (ao he) a3;refine⟨ρ',σq++[q.c],.a t acs,.und,(q.push (.var q.c t acs)).put o.dst (.p false [.ptr q.n q.c 0]),.inr (.inr (.inr (.inl ⟨t,acs,ho,by grind,by grind[aW],rfl,rfl,rfl⟩))),hr1.del,?_,hp.trans (aQ.app _ _),hk⟩;have hq1:aN {Q with m:=(H.bind p.length).m} ρ' σq q:=by rw[<-hr1.m];exact hq.sync (ao he)
    exact(hq1.push (so:=.var Q.c t cs) (ob:=.var q.c t acs) ⟨hq1.last _,rfl,a2.mono (aQ.refl _) (aQ.app _ _)⟩).put ⟨rfl,⟨hq1.n,hq1.last _,rfl⟩,trivial⟩
   grind
  grind
def Ua(sh:Sh)(m:Nat):List (Bool×List SC):=match sh with
 |[]=>[]
 |(b,ss,_)::r=>(b,(dW m ss.length).map .d)::Ua r (m+ss.length)
theorem EJ:∀{rs:List Rs} {sh:Sh} {m:Nat},c9 sh rs=true->RD ρ (dW m (ca rs).length) (ca rs)->RT ρ σ (Ua sh m) (rs.map λr=>(r.1,r.2.1.map AC.d))
 |[],sh,m,hh,hd=>by
  cases sh with
  |nil=>exact trivial
  |cons x r=>grind[c9]
 |(b,ds,ow)::rs,sh,m,hh,hd=>by
  match sh,hh with
  |(b',ss,ow')::r,hh=>
   simp[c9,Bool.and_eq_true,decide_eq_true_eq]at hh;obtain⟨⟨rfl,rfl⟩,h1,h2⟩:=hh;obtain⟨d1,d2⟩:=w9 hd;rw[o7 h1]at d1 d2;exact⟨⟨rfl,RD.toC d1⟩,EJ h2 d2⟩
theorem DR{l:List (Bool×List SC)}{rs:List Rs}(hh:RT ρ σ l (rs.map λr=>(r.1,r.2.1.map AC.d))):RV ρ σ (p8 l) (kt rs):=by
 unfold p8 kt;generalize (rs.map λr=>(r.1,r.2.1.map AC.d))=l' at hh
 match l,l',hh with
 |[],[],hh=>exact hh
 |[(b,cs)],[(b',cs')],hh=>exact hh.1
 |x::y::l,x'::y'::l',hh=>exact hh
 |[x],_::_::_,hh=>exact hh.2.elim
 |_::_::_,[x],hh=>exact hh.2.elim
def QT(sh:Sh):Bool:=sh.all λx=>x.2.1.all (·.isNone)
theorem F3:∀{sh:Sh} {rs:List Rs} {c:Nat},QT sh=true->c9 sh rs=true->cS false rs c=[]
 |[],[],_,_,_=>rfl
 |(b,ss,ow)::sh,(b',ds,ow')::rs,c,h1,h2=>by
  simp[c9,Bool.and_eq_true,decide_eq_true_eq]at h2;simp only[QT,List.all_cons,Bool.and_eq_true]at h1
  have key:∀{ss:List (Option (Nat×Nat))} {ds:List DV} {c:Nat},(ss.all (·.isNone))=true->zN ss ds=true->jQ false ds c=[]:=by
   intro ss
   induction ss with
   |nil=>intro ds c _ h;cases ds with
    |nil=>rfl
    |cons=>grind[zN]
   |cons x ss ih=>
    intro ds c hn h
    cases x with
    |some=>grind
    |none=>
     cases ds with
     |nil=>rfl
     |cons d ds=>cases d with
      |sc u=>grind[zN,jQ]
      |sl=>grind[zN]
  have k1:=key (c:=c) h1.1 h2.2.1;have k2:=F3 (c:=c) h1.2 h2.2.2
  cases ow' with
  |true=>simp_all[cS,List.length_nil,Nat.add_zero,List.append_nil]
  |false=>assumption
 |[],_::_,_,_,h=>by grind[c9]
 |(_,_,_)::_,[],_,_,h=>by rfl
def Kg(P:Program)(ow:fM)(pr:Bool)(H Q:Sy)(d:Option Nat)(f:FuncId)(args:List Operand)(ts:List TypeId):HR:=
 match Js P ow f,rQ false P args ts H with
 |some sh,some (p,as0,H1)=>if sh.all (λx=>x.2.2)&&(!pr||QT sh)&&decide (f<1000000/\ow.pf.contains f=false/\ow.cf.contains f=false/\(aK ow.nf f).isNone=true)then
  some (p.map .po++[.call f as0 sh],(H1.bind (dI sh)).put d (p8 (Ua sh H1.m)),(iG false sh H1.m {Q with m:=(H1.bind (dI sh)).m}).2.put d (p8 (iG false sh H1.m {Q with m:=(H1.bind (dI sh)).m}).1))else none
 |_,_=>none
theorem Kh{f:FuncId}{args:Array Operand}{ts:Array TypeId}(ho:o.op=.call ⟨.value (.func f),args,ts⟩)(hh:Kg P ow pr H Q o.dst f args.toList ts.toList=some (n,H',Q'))(hr:aN H ρ σh h)(hq:aN Q ρ σq q)(hp:aQ σh σq)(hw:WN P n K ρ):xe P pr h q σh o H' Q' K:=by
 unfold Kg at hh;split at hh
 ·rename_i sh p as0 H1 hsh has;split at hh
  ·rename_i hall;rw[Bool.and_eq_true,decide_eq_true_eq]at hall;obtain⟨hall,hf6,-⟩:=hall;simp only[Bool.and_eq_true,Bool.or_eq_true,Bool.not_eq_true']at hall;cases hh;obtain⟨ρ1,he,hw2⟩:=bN (kU hw);simp only[WN]at hw2;obtain⟨ys,res,w1,w2,w3,w4⟩:=hw2;have w2:=w2.plain hf6;obtain⟨ys',y1,y2,y3,y4⟩:=lJ has he hr;rw[w1]at y1;cases y1;have hlen:=eL w3;have hown:∀r∈res,r.2.2=true:=w6 w3 λx hx=>List.all_eq_true.1 hall.1 x hx
   have hb:=y4.bind (out:=ca res) hlen;have hrd:RD (ρ1++ca res) (dW H1.m (ca res).length) (ca res):=eQ y4.m rfl
   have hq1:aN {Q with m:=(H1.bind (dI sh)).m} (ρ1++ca res) σq q:=by
    rw[<-hb.m];exact hq.sync ((ao he).trans (aQ.app _ _))
   obtain⟨σ',p1,p2,p3⟩:=jv (m:=H1.m) w3 hrd hq1;refine⟨_,σ',.c res,kt res,_,.inr (.inl ⟨f,args,ts,ys,res,ho,w2,y2 rfl,List.all_eq_true.2 hown,λhpr=>?_,rfl,rfl,rfl⟩),hb.put (DR (EJ w3 hrd)),p2.put (sj p3),hp.trans p1,w4⟩
   grind[F3]
  grind
 grind
def EP(P:Program)(ow:fM)(pr:Bool)(H Q:Sy)(d:Option Nat)(f:FuncId)(args:List Operand)(ts:List TypeId):HR:=
 if pr then none else match Js P ow f,rQ true P args ts H with
 |some [(b,ss,false)],some (p,as0,H1)=>if f<1000000 then
  some (p.map .po++[.call f as0 [(b,ss,false)]],(H1.bind (dI [(b,ss,false)])).put d (p8 (Ua [(b,ss,false)] H1.m)),Sy.del {Q with m:=(H1.bind (dI [(b,ss,false)])).m} d)else none
 |_,_=>none
theorem Ht{f:FuncId}{args:Array Operand}{ts:Array TypeId}(ho:o.op=.call ⟨.value (.func f),args,ts⟩)(hh:EP P ow pr H Q o.dst f args.toList ts.toList=some (n,H',Q'))(hr:aN H ρ σh h)(hq:aN Q ρ σq q)(hp:aQ σh σq)(hw:WN P n K ρ):xe P pr h q σh o H' Q' K:=by
 unfold EP at hh;split at hh
 ·cases hh
 ·rename_i hpr;split at hh
  ·rename_i b ss p as0 H1 hsh has;split at hh
   ·rename_i hf6;cases hh;obtain⟨ρ1,he,hw2⟩:=bN (kU hw);simp only[WN]at hw2;obtain⟨ys,res,w1,w2,w3,w4⟩:=hw2;have w2:=w2.plain hf6;obtain⟨ys',y1,y2,y3,y4⟩:=lJ has he hr;rw[w1]at y1;cases y1;have hlen:=eL w3;have hb:=y4.bind (out:=ca res) hlen;have hrd:RD (ρ1++ca res) (dW H1.m (ca res).length) (ca res):=eQ y4.m rfl
    have hq1:aN {Q with m:=(H1.bind (dI [(b,ss,false)])).m} (ρ1++ca res) σq q:=by
     rw[<-hb.m];exact hq.sync ((ao he).trans (aQ.app _ _))
    match res,w3 with
    |[(b',ds,ow')],w3=>
     have how:ow'=false:=by
      simp_all[c9,Bool.and_eq_true,beq_iff_eq]
     subst how
     exact⟨_,σq,.v (kt [(b',ds,false)]),kt [(b',ds,false)],q.put o.dst (j6 pr (kt [(b',ds,false)])),.inr (.inr (.inr (.inr (.inr (.inr (.inr ⟨f,args,ts,ys,(b',ds,false),ho,by grind,w2,y3 rfl,rfl,rfl,rfl,rfl⟩)))))),hb.put (DR (EJ w3 hrd)),hq1.del,hp,w4⟩
    |[],w3=>grind[c9]
    |_::_::_,w3=>grind[c9]
   grind
  grind
end
end Go.Proofs.Ytgdbmcoamemmaaa
namespace Go.Proofs.Ytgdbmcoamemmaaa
open Go.RowKit
section
variable {P:Program}{R:List (Bool×List DV)->Prop}{N:Nat}{ow:fM}{ρ ρ':List DV}{σ σ' σh σq:List Nat}{S S' H Q H' Q':Sy}{s s' h q:AS}{ps:List PO}{o:Oper}{K:List DV->Prop}{n:List Nd}{L:Lbl}{pr:Bool}
def wB:List SC->Option (List Nat)
 |[]=>some []
 |.d i::r=>(match wB r with|some l=>some (i::l)|none=>none)
 |_::_=>none
def Dw:List (List SC)->Option (List (List Nat))
 |[]=>some []
 |e::r=>(match wB e,Dw r with|some x,some l=>some (x::l)|_,_=>none)
theorem FF:∀{cs:List SC} {xs:List Nat} {ys:List AC},wB cs=some xs->cQ ρ σ cs ys->∃ds,dL ys=some ds/\RD ρ xs ds
 |[],xs,ys,hh,hc=>by
  simp[wB]at hh;cases hh
  cases ys with
  |nil=>exact⟨[],rfl,trivial⟩
  |cons=>exact hc.elim
 |c::r,xs,[],hh,hc=>hc.elim
 |.d i::r,xs,y::ys,hh,hc=>by
  simp[wB]at hh;split at hh
  ·rename_i l hl;cases hh;obtain⟨x,rfl,hx⟩:=pG hc.1;obtain⟨ds,d1,d2⟩:=FF hl hc.2;exact⟨x::ds,by grind[dL],hx,d2⟩
  grind
 |.nil::r,xs,y::ys,hh,hc=>by grind[wB]
 |.own _ _::r,xs,y::ys,hh,hc=>by grind[wB]
 |.ptr _ _ _::r,xs,y::ys,hh,hc=>by grind[wB]
 |.elt _ _ _ _ _::r,xs,y::ys,hh,hc=>by grind[wB]
 |.sub _ _ _ _ _::r,xs,y::ys,hh,hc=>by grind[wB]
 |.emp::r,xs,y::ys,hh,hc=>by grind[wB]
 |.rd _::r,xs,y::ys,hh,hc=>by grind[wB]
theorem Dr:∀{es:List (List SC)} {rows:List (List Nat)} {ys:List (List AC)},Dw es=some rows->BM ρ σ es ys->∃ds,MV ys=some ds/\∀ρ',aQ ρ ρ'->CZ ρ' rows=some ds
 |[],rows,ys,hh,hc=>by
  simp[Dw]at hh;cases hh
  cases ys with
  |nil=>exact⟨[],rfl,λ_ _=>rfl⟩
  |cons=>exact hc.elim
 |e::r,rows,[],hh,hc=>hc.elim
 |e::r,rows,y::ys,hh,hc=>by
  simp[Dw]at hh;split at hh
  ·rename_i x l h1 h2;cases hh;obtain⟨d,d1,d2⟩:=FF h1 hc.1;obtain⟨ds,d3,d4⟩:=Dr h2 hc.2;exact⟨d::ds,by grind[MV],λρ' hp=>by simp[CZ,d2.app_pre hp,d4 ρ' hp]⟩
  grind
def QN(P:Program)(pr:Bool)(H Q:Sy)(d:Option Nat)(t:TypeId)(len:Nat)(parts:List (Nat×Operand)):HR:=
 if pr then none else(match fL P t with
 |some (el,k)=>if(aU P el).isSome=true/\0<k/\parts.length=len/\len*k<=16777216 then(match Qh k parts 0 H with
  |some (p,es,H1)=>(match Qh k parts 0 {Q with m:=H1.m}with
   |some (p2,esq,Q1)=>if es.isEmpty then some ((p++p2).map .po,{H1 with m:=Q1.m}.put d (.p false [.emp]),(Q1.push (.arr Q1.c el k esq)).put d (.p false [.own Q1.n Q1.c]))else(match Dw es with
    |some rows=>some ((p++(p2++[PO.mk el k rows])).map .po,({H1 with m:=Q1.m}.bind 1).put d (.p false [.d Q1.m]),((Q1.bind 1).push (.arr Q1.c el k esq)).put d (.p false [.own Q1.n Q1.c]))
    |none=>some ((p++p2).map .po,{H1 with m:=Q1.m}.del d,(Q1.push (.arr Q1.c el k esq)).put d (.p false [.own Q1.n Q1.c])))
   |none=>none)
  |none=>none)else none
 |none=>none)
theorem M9{t:TypeId}{len:Nat}{parts:Array (Nat×Operand)}(ho:o.op=.buildSlice t len parts)(hh:QN P pr H Q o.dst t len parts.toList=some (n,H',Q'))(hr:aN H ρ σh h)(hq:aN Q ρ σq q)(hp:aQ σh σq)(hw:WN P n K ρ):xe P pr h q σh o H' Q' K:=by
 unfold QN at hh;split at hh
 ·cases hh
 ·rename_i hpr;split at hh
  ·rename_i el k ht;split at hh
   ·rename_i hc;obtain⟨hz,hk,hl,hs⟩:=hc;split at hh
    ·rename_i p es H1 h1;split at hh
     ·rename_i p2 esq Q1 h2;split at hh
      ·rename_i hem;cases hh;obtain⟨ρ',he,hK⟩:=bN hw;obtain⟨ρ1,a1,b1⟩:=ak he;obtain⟨ys,y1,y2,y3⟩:=oD h1 a1 hr;have hq1:aN {Q with m:=H1.m} ρ1 σq q:=by rw[<-y3.m];exact hq.sync (ao a1)
       obtain⟨zs,z1,z2,z3⟩:=oD h2 b1 hq1;have hr2:aN {H1 with m:=Q1.m} ρ' σh h:=by rw[<-z3.m];exact y3.sync (ao b1)
       have hys:ys=[]:=by
        cases es with
        |nil=>cases ys with
         |nil=>rfl
         |cons=>exact y2.elim
        |cons=>grind
       subst hys
       exact⟨_,σq++[q.c],.b el k parts.toList,sw el k [],(q.push (.arr q.c el k zs)).put o.dst (.p false [.own q.n q.c]),.inr (.inr (.inl ⟨t,len,parts,el,k,[],zs,ho,by grind,ht,hz,hk,hl,hs,y1,z1,rfl,rfl,rfl⟩)),hr2.put (v:=.p false [.emp]) (x:=sw el k []) ⟨rfl,trivial,trivial⟩,
        (z3.push (so:=.arr Q1.c el k esq) (ob:=.arr q.c el k zs) ⟨z3.last _,rfl,rfl,BM.mono (aQ.refl _) (aQ.app _ _) z2⟩).put ⟨rfl,⟨z3.n,z3.last _⟩,trivial⟩,hp.trans (aQ.app _ _),hK⟩
      rename_i hem;split at hh
      ·rename_i rows hrows;cases hh;obtain⟨ρ',he,hK⟩:=bN hw;obtain⟨ρ1,a1,a2⟩:=ak he;obtain⟨ρ2,b1,b2⟩:=ak a2;obtain⟨ys,y1,y2,y3⟩:=oD h1 a1 hr;have hq1:aN {Q with m:=H1.m} ρ1 σq q:=by rw[<-y3.m];exact hq.sync (ao a1)
       obtain⟨zs,z1,z2,z3⟩:=oD h2 b1 hq1;obtain⟨ds,d1,d2⟩:=Dr hrows y2;obtain⟨out,o1,rfl⟩:=az b2;have hm:=z3.m;simp only[aA,d2 ρ2 (ao b1)]at o1;split at o1
       ·cases o1;have hr2:aN {H1 with m:=Q1.m} ρ2 σh h:=by rw[<-hm];exact y3.sync (ao b1)
        refine⟨_,σq++[q.c],.b el k parts.toList,sw el k ys,(q.push (.arr q.c el k zs)).put o.dst (.p false [.own q.n q.c]),.inr (.inr (.inl ⟨t,len,parts,el,k,ys,zs,ho,by grind,ht,hz,hk,hl,hs,y1,z1,rfl,rfl,rfl⟩)),?_,?_,hp.trans (aQ.app _ _),hK⟩
        ·refine(hr2.bind (out:=[DV.sl el k ds]) (k:=1) rfl).put ?_
         have hyne:ys.isEmpty=false:=by
          cases ys with
          |nil=>cases es with
           |nil=>grind
           |cons=>exact y2.elim
          |cons=>rfl
         unfold sw;rw[hyne,d1];exact⟨rfl,by show(_:List DV)[_]? =_;rw[<-hm];simp,trivial⟩
        ·have hb:=z3.bind (out:=[DV.sl el k ds]) (k:=1) rfl;exact(hb.push (so:=.arr Q1.c el k esq) (ob:=.arr q.c el k zs) ⟨hb.last _,rfl,rfl,BM.mono (aQ.app _ _) (aQ.app _ _) z2⟩).put ⟨rfl,⟨z3.n,hb.last _⟩,trivial⟩
       grind
      ·cases hh;obtain⟨ρ',he,hK⟩:=bN hw;obtain⟨ρ1,a1,b1⟩:=ak he;obtain⟨ys,y1,y2,y3⟩:=oD h1 a1 hr;have hq1:aN {Q with m:=H1.m} ρ1 σq q:=by rw[<-y3.m];exact hq.sync (ao a1)
       obtain⟨zs,z1,z2,z3⟩:=oD h2 b1 hq1;have hr2:aN {H1 with m:=Q1.m} ρ' σh h:=by rw[<-z3.m];exact y3.sync (ao b1)
       exact⟨_,σq++[q.c],.b el k parts.toList,sw el k ys,(q.push (.arr q.c el k zs)).put o.dst (.p false [.own q.n q.c]),.inr (.inr (.inl ⟨t,len,parts,el,k,ys,zs,ho,by grind,ht,hz,hk,hl,hs,y1,z1,rfl,rfl,rfl⟩)),hr2.del,
        (z3.push (so:=.arr Q1.c el k esq) (ob:=.arr q.c el k zs) ⟨z3.last _,rfl,rfl,BM.mono (aQ.refl _) (aQ.app _ _) z2⟩).put ⟨rfl,⟨z3.n,z3.last _⟩,trivial⟩,hp.trans (aQ.app _ _),hK⟩
     grind
    grind
   grind
  grind
def JR(P:Program)(ow:fM)(pr:Bool)(H Q:Sy)(o:Oper):HR:=
 match o.op with
 |.alloc t=>D5 P pr H Q o.dst t
 |.buildSlice t len parts=>QN P pr H Q o.dst t len parts.toList
 |.call ⟨.value (.func f),args,ts⟩=>(match Kg P ow pr H Q o.dst f args.toList ts.toList with|some r=>some r|none=>EP P ow pr H Q o.dst f args.toList ts.toList)
 |_=>Qx P pr H Q o
theorem I5(hh:JR P ow pr H Q o=some (n,H',Q'))(hr:aN H ρ σh h)(hq:aN Q ρ σq q)(hp:aQ σh σq)(hw:WN P n K ρ):xe P pr h q σh o H' Q' K:=by
 grind[JR,HI,M9,Kh,Ht,M0]
def OU(v:SV):Bool:=match one v with
 |some .emp=>true
 |_=>false
theorem ML{v:SV}{x:AV}(h:OU v=true)(hv:RV ρ σ v x):yV x=true:=by
 unfold OU at h;split at h
 ·rename_i hc;obtain⟨y,rfl,hy⟩:=bD hc hv;cases y<;>first|exact hy.elim|rfl
 grind
def QU(P:Program)(pr:Bool)(H Q:Sy)(o:Oper):Option (List PO×Nat×(Sy×Sy)×(List PO×Sy×Sy)):=
 match o.op with
 |.call ⟨.builtin .append,⟨[X,Y]⟩,⟨[t,t']⟩⟩=>if t'=t/\pr=false then(match fL P t with
  |some (el,k)=>if !(KS P el)then none else(match aU P el,fT P el with
   |some zs,some b=>if zs.length=k/\0<k then(match ld H X with
    |some (pX,vX,H1)=>if OU vX then(match ld {Q with m:=H1.m} X with
     |some (qX,uX,Q1)=>(match ld {H1 with m:=Q1.m} Y with
      |some (pY,vY,H2)=>(match one vY with
       |some cY=>(match wO false [cY] [some (el,k)] H2 with
        |some (pR,[y],H3)=>some (pX++(qX++(pY++(pR++[PO.emp y]))),H3.m,
         (({ (H3.bind 1)with kn:=(H3.m,true)::H3.kn}).put o.dst vX,({Q1 with m:=H3.m+1,kn:=(H3.m,true)::Q1.kn}).put o.dst uX),
         ([PO.e el k,PO.flat y,PO.app el k b (H3.m+1) y],({ (H3.bind 3)with kn:=(H3.m,false)::H3.kn}).put o.dst (.p false [.d (H3.m+2)]),
          (({Q1 with m:=H3.m+3,kn:=(H3.m,false)::Q1.kn}).push (.row Q1.c el k (H3.m+2))).put o.dst (.p false [.own Q1.n Q1.c])))
        |_=>none)
       |none=>none)
      |none=>none)
     |none=>none)else none
    |none=>none)else none
   |_,_=>none)
  |none=>none)else none
 |_=>none
theorem M6{pre fs:List PO}{i:Nat}{H1 Q1 H2 Q2:Sy}{a b:Pg}(hh:QU P pr H Q o=some (pre,i,(H1,Q1),(fs,H2,Q2)))(hr:aN H ρ σh h)(hq:aN Q ρ σq q)(hp:aQ σh σq)(hw:W P R (dE (pre.map .po) (.ite i a (dE (fs.map .po) b))) L ρ):
 ∃ρ' σq' kd x q' H' Q' g,uv P pr h q o kd x q'/\aN H' ρ' σh (h.put o.dst x)/\aN Q' ρ' σq' q'/\aQ σh σq'/\((H'=H1/\Q'=Q1/\g=a)\/(H'=H2/\Q'=Q2/\g=b))/\W P R g L ρ'/\aQ ρ ρ':=by
 unfold QU at hh;split at hh
 ·rename_i X Y t t' hop;split at hh
  ·rename_i htp;obtain⟨rfl,hpr⟩:=htp;split at hh
   ·rename_i el k ht;split at hh
    ·cases hh
    split at hh
    ·rename_i zs b' hz hby
     split at hh
     ·rename_i hzk;split at hh
      ·rename_i pX vX S1 hX;split at hh
       ·rename_i hE;split at hh
        ·rename_i qX uX T1 hX2;split at hh
         ·rename_i pY vY S2 hY;split at hh
          ·rename_i cY hcY;split at hh
           ·rename_i pR y S3 hR;injection hh with hh;injection hh with e1 hh;injection hh with e2 hh;injection hh with e3 e4;injection e3 with e3 e5;injection e4 with e4 e6;injection e6 with e6 e7;subst e1 e2 e3 e4 e5 e6 e7;obtain⟨ρ1,he,hw2,hp1⟩:=bN (gK hw);obtain⟨ρa,a1,a2⟩:=ak he;obtain⟨ρb,b1,b2⟩:=ak a2;obtain⟨ρc,c1,c2⟩:=ak b2;obtain⟨ρd,d1,d2⟩:=ak c2;obtain⟨x1,x2⟩:=aS hX a1 hr;have hqa:aN {Q with m:=S1.m} ρa σq q:=by rw[<-x2.m];exact hq.sync (ao a1)
            obtain⟨u1,u2⟩:=aS hX2 b1 hqa;have hhb:aN {S1 with m:=T1.m} ρb σh h:=by rw[<-u2.m];exact x2.sync (ao b1)
            obtain⟨y1,y2⟩:=aS hY c1 hhb;obtain⟨yc,g1,g2⟩:=bD hcY y1;obtain⟨ds,r1,r2,-,r4⟩:=jL hR d1 y2 (ys:=[yc]) ⟨g2,trivial⟩
            match ds,r1,r2 with
            |[d],r1,r2=>
            obtain⟨out,o1,rfl⟩:=az d2;simp[aA,r1.1]at o1;split at o1
            ·rename_i t2 k2 es hd;cases hd;cases o1;have hrd:zo h yc (.sl t2 k2 es):=(r2 rfl).1;have hop':o.op=.call ⟨.builtin .append,#[X,Y],#[t',t']⟩:=hop;have hm3:ρd.length=S3.m:=r4.m;have pbd:aQ ρb (ρd++[.sc (.bool es.isEmpty)]):=(ao c1).trans ((ao d1).trans (aQ.app _ _));have hki:(ρd++[DV.sc (.bool es.isEmpty)])[S3.m]? =some (.sc (.bool es.isEmpty)):=by rw[<-hm3];simp
             have hXe:=ML hE x1;simp only[W,hki]at hw2
             have hQ1:aN {T1 with m:=S3.m+1} (ρd++[DV.sc (.bool es.isEmpty)]) σq q:=by
              have:=u2.sync pbd;rw[show(ρd++[DV.sc (.bool es.isEmpty)]).length=S3.m+1 by grind]at this;omega
             have hH1:aN (S3.bind 1) (ρd++[DV.sc (.bool es.isEmpty)]) σh h:=r4.bind rfl;have pad:aQ ρa (ρd++[.sc (.bool es.isEmpty)]):=(ao b1).trans pbd
             cases hes:es.isEmpty with
             |true=>
              have hnil:es=[]:=by grind
              subst hnil;simp[List.isEmpty_nil]at hw2 hki hQ1 hH1 pbd pad hp1;refine⟨_,σq,.p o.op,h.ev X,q.put o.dst (q.ev X),_,_,_,.inr (.inr (.inr (.inr (.inr (.inr (.inl ⟨X,Y,t',el,k,yc,t2,k2,hop',hpr,ht,hXe,g1,hrd,rfl,rfl,rfl⟩)))))),?_,?_,hp,.inl ⟨rfl,rfl,rfl⟩,hw2,hp1⟩
              ·exact(hH1.know hki).put (x1.mono pad (aQ.refl _))
              ·exact(hQ1.know hki).put (u1.mono pbd (aQ.refl _))
             |false=>
              rw[hes]at hw2 hki hQ1 hH1 pbd pad hp1;simp only at hw2;obtain⟨ρ2,k1,hw3,hp2⟩:=bN (gK hw2);obtain⟨ρe,f1,f2⟩:=ak (ps:=[PO.e el k]) (qs:=[PO.flat y,PO.app el k b' (S3.m+1) y]) k1;obtain⟨oute,oe,rfl⟩:=az f1;simp only[aA]at oe;cases oe;obtain⟨ρf,f3,f4⟩:=ak (ps:=[PO.flat y]) (qs:=[PO.app el k b' (S3.m+1) y]) f2;obtain⟨rfl,hfl⟩:=lO f3;obtain⟨es1,fs1,t3,q1,q2,q3,q4,rfl⟩:=ou f4;have hy2:(ρd++[DV.sc (.bool false)]++[DV.sl el k []])[y]? =some (.sl t2 k2 es):=((aQ.app _ _).trans (aQ.app _ _)).get r1.1;rw[hy2]at q2;injection q2 with q2;injection q2 with q2 q2' q2'';subst q2 q2' q2'';have h0:(ρd++[DV.sc (.bool false)]++[DV.sl el k2 []])[S3.m+1]? =some (.sl el k2 []):=by rw[<-hm3];simp
              rw[h0]at q1;injection q1 with q1;injection q1 with _ _ q1;subst q1;simp only[List.length_nil,Nat.zero_add,List.nil_append]at q3 q4 hw3 hp2;have hne:es≠[]:=by grind
              have hlen:(ρd++[DV.sc (.bool false)]++[DV.sl el k2 []]++[DV.sl el k2 es]).length=S3.m+3:=by grind
              have p2:aQ (ρd++[DV.sc (.bool false)]) (ρd++[DV.sc (.bool false)]++[DV.sl el k2 []]++[DV.sl el k2 es]):=(aQ.app _ _).trans (aQ.app _ _);have hx2:(ρd++[DV.sc (.bool false)]++[DV.sl el k2 []]++[DV.sl el k2 es])[S3.m+2]? =some (.sl el k2 es):=by rw[<-hm3];simp
              have hHH:=(hH1.know hki).sync p2;have hQQ:=(hQ1.know hki).sync p2;rw[hlen]at hHH hQQ;refine⟨_,σq++[q.c],.c _,_,_,_,_,_,.inr (.inr (.inr (.inr (.inr (.inl ⟨X,Y,t',el,k2,b',yc,t2,es,zs,_,hop',hpr,ht,hz,hzk.1,hzk.2,hby,hXe,g1,hrd,hne,hfl _ _ _ hy2,q3,q4,rfl,rfl,rfl,rfl⟩))))),?_,?_,hp.trans (aQ.app _ _),.inr ⟨rfl,rfl,rfl⟩,hw3,hp1.trans hp2⟩
              ·exact hHH.put (v:=.p false [.d (S3.m+2)]) ⟨rfl,hx2,trivial⟩
              ·exact(hQQ.push (so:=.row T1.c el k2 (S3.m+2)) (ob:=.row q.c el k2 es true) ⟨hQQ.last _,rfl,rfl,rfl,hx2⟩).put ⟨rfl,⟨hQQ.n,hQQ.last _⟩,trivial⟩
            grind
           grind
          grind
         grind
        grind
       grind
      grind
     grind
    grind
   grind
  grind
 grind
def cH(P:Program)(ow:fM)(pr:Bool)(o:Oper)(H Q:Sy)(k:Sy->Sy->Option Pg):Option Pg:=match QU P pr H Q o with
 |some (pre,i,(H1,Q1),(fs,H2,Q2))=>(match k H1 Q1,k H2 Q2 with|some a,some b=>some (dE (pre.map .po) (.ite i a (dE (fs.map .po) b)))|_,_=>none)
 |none=>match JR P ow pr H Q o with|some (n,H',Q')=>(match k H' Q' with|some g=>some (dE n g)|none=>none)|none=>none
def tA(P:Program)(N:Nat)(ow:fM)(pr:Bool)(ops:Array Oper)(k:Sy->Option Pg):List Oper->Sy->Sy->Option Pg
 |[],H,Q=>k Q
 |o::r,H,Q=>(match o.dst with
  |some d=>if d<N then(match o.guard with
   |none=>cH P ow pr o H Q λH' Q'=>tA P N ow pr ops k r H' Q'
   |some (g,want)=>(match jF ops g with
    |some t=>if t<N then(match aK H.sl t with
     |some (.tup [])=>tA P N ow pr ops k r (H.put o.dst (.tup [])) (Q.del o.dst)
     |some (.p false [.d i])=>(match aK H.kn i with
      |some b=>if b=want then cH P ow pr o H Q λH' Q'=>tA P N ow pr ops k r H' Q' else tA P N ow pr ops k r (H.put o.dst (.tup [])) (Q.del o.dst)
      |none=>(match(cH P ow pr o {H with kn:=(i,want)::H.kn} {Q with kn:=(i,want)::Q.kn} λH' Q'=>tA P N ow pr ops k r H' Q'),tA P N ow pr ops k r ({H with kn:=(i,!want)::H.kn}.put o.dst (.tup [])) ({Q with kn:=(i,!want)::Q.kn}.del o.dst)with
       |some a,some b=>some (if want then .ite i a b else .ite i b a)
       |_,_=>none))
     |_=>none)else none
    |none=>none))else none
  |none=>none)
theorem NA{k:Sy->Sy->Option Pg}{pg:Pg}(hh:cH P ow pr o H Q k=some pg)(hr:aN H ρ σh h)(hq:aN Q ρ σq q)(hp:aQ σh σq)(hw:W P R pg L ρ):
 ∃ρ' σq' kd x q' H' Q' g,uv P pr h q o kd x q'/\aN H' ρ' σh (h.put o.dst x)/\aN Q' ρ' σq' q'/\aQ σh σq'/\k H' Q'=some g/\W P R g L ρ'/\aQ ρ ρ':=by
 unfold cH at hh;split at hh
 ·grind[M6]
 ·split at hh
  ·rename_i n H' Q' ho;split at hh
   ·rename_i g hg;cases hh;obtain⟨ρ',σq',kd,x,q',h1,h2,h3,h4,h5,h6⟩:=I5 ho hr hq hp (gK hw)
    grind
   grind
  grind
theorem pe{ops:Array Oper}{k:Sy->Option Pg}:∀{l:List Oper} {H Q:Sy} {pg:Pg} {ρ:List DV} {σq:List Nat} {h q:AS},tA P N ow pr ops k l H Q=some pg->aN H ρ σh h->aN Q ρ σq q->aQ σh σq->W P R pg L ρ->
 ∃kds xs qF S' ρ' σ' g,iz P N pr ops l h q kds xs qF/\aN S' ρ' σ' qF/\k S'=some g/\W P R g L ρ'/\aQ ρ ρ'
 |[],H,Q,pg,ρ,σq,h,q,hh,hr,hq,hp,hw=>⟨[],[],q,Q,ρ,σq,pg,rfl,hq,hh,hw,aQ.refl _⟩
 |o::r,H,Q,pg,ρ,σq,h,q,hh,hr,hq,hp,hw=>by
  simp[tA]at hh;split at hh
  ·rename_i d hd;split at hh
   ·rename_i hdN
    have run:∀{H Q:Sy} {pg:Pg} {ρ0:List DV},aQ ρ0 ρ->(cH P ow pr o H Q λH' Q'=>tA P N ow pr ops k r H' Q')=some pg->aN H ρ σh h->aN Q ρ σq q->W P R pg L ρ->(∀kd x q1,uv P pr h q o kd x q1->Jf P N pr ops h q o kd x q1 o.guard)->
     ∃kds xs qF S' ρ' σ' g,iz P N pr ops (o::r) h q kds xs qF/\aN S' ρ' σ' qF/\k S'=some g/\W P R g L ρ'/\aQ ρ0 ρ':=by
     intro H Q pg ρ0 hp0 hh hr hq hw hst;obtain⟨ρ1,σq1,kd,x,q1,H1,Q1,g1,r1,r2,r3,r4,r5,r6,r7⟩:=NA hh hr hq hp hw;obtain⟨kds,xs,qF,S',ρ',σ',g,f1,f2,f3,f4,f5⟩:=pe r5 r2 r3 r4 r6;exact⟨kd::kds,x::xs,qF,S',ρ',σ',g,⟨⟨d,hd,hdN⟩,q1,hst kd x q1 r1,f1⟩,f2,f3,f4,hp0.trans (r7.trans f5)⟩
    have skip:∀{H Q:Sy} {pg:Pg},tA P N ow pr ops k r (H.put o.dst (.tup [])) (Q.del o.dst)=some pg->aN H ρ σh h->aN Q ρ σq q->W P R pg L ρ->Jf P N pr ops h q o (.v (.tup [])) (.tup []) (q.put o.dst (j6 pr (.tup []))) o.guard->
     ∃kds xs qF S' ρ' σ' g,iz P N pr ops (o::r) h q kds xs qF/\aN S' ρ' σ' qF/\k S'=some g/\W P R g L ρ'/\aQ ρ ρ':=by
     intro H Q pg hh hr hq hw hst;obtain⟨kds,xs,qF,S',ρ',σ',g,f1,f2,f3,f4,f5⟩:=pe hh (hr.put (v:=.tup []) (x:=.tup []) trivial) (hq.del (x:=j6 pr (.tup []))) hp hw;exact⟨_::kds,_::xs,qF,S',ρ',σ',g,⟨⟨d,hd,hdN⟩,_,hst,f1⟩,f2,f3,f4,f5⟩
    split at hh
    ·rename_i hg;exact run (aQ.refl _) hh hr hq hw (λkd x q1 hR=>by rw[hg];exact hR)
    ·rename_i gi want hg;split at hh
     ·rename_i t hgs;split at hh
      ·rename_i htN;split at hh
       ·rename_i hi
        have hs:h.sl t=.tup []:=by
         have:=hr.sl t _ hi
         cases hx:h.sl t with
         |tup ys=>rw[hx]at this;cases ys with
          |nil=>rfl
          |cons=>exact this.elim
         |p=>rw[hx]at this;exact this.elim
         |und=>rw[hx]at this;exact this.elim
        exact skip hh hr hq hw (by rw[hg];exact⟨t,none,hgs,htN,hs,by rw[if_neg (λe=>by cases e)];grind⟩)
       ·rename_i i hi;split at hh
        ·rename_i b hb;have hs:=o6 hr hi (hr.kn i b hb);split at hh
         ·rename_i e;exact run (aQ.refl _) hh hr hq hw (λkd x q1 hR=>by rw[hg];exact⟨t,some b,hgs,htN,hs,by rw[if_pos (by rw[e])];exact hR⟩)
         ·rename_i e;exact skip hh hr hq hw (by rw[hg];exact⟨t,some b,hgs,htN,hs,by rw[if_neg (λh=>e (Option.some.inj h))];grind⟩)
        ·split at hh
         ·rename_i ga gb h1 h2;cases hh
          have hw':∃b,ρ[i]? =some (.sc (.bool b))/\(if b=want then W P R ga L ρ else W P R gb L ρ):=by
           grind[W]
          obtain⟨b,hb,hw'⟩:=hw';have hs:=o6 hr hi hb;split at hw'
          ·rename_i e;subst e;exact run (aQ.refl _) h1 (hr.know hb) (hq.know hb) hw' (λkd x q1 hR=>by rw[hg];exact⟨t,some b,hgs,htN,hs,by rw[if_pos rfl];exact hR⟩)
          ·rename_i e;have hb':ρ[i]? =some (.sc (.bool (!want))):=by rw[hb];cases b<;>cases want<;>simp_all
           exact skip h2 (hr.know hb') (hq.know hb') hw' (by rw[hg];exact⟨t,some b,hgs,htN,hs,by rw[if_neg (λh=>e (Option.some.inj h))];grind⟩)
         grind
       grind
      grind
     grind
   grind
  grind
def Qw(P:Program)(S:Sy)(i:Nat):Option (List PO×Sy):=
 match aK S.ob i with
 |some (.arr st el k es)=>(match cW es.flatten ((List.replicate es.length (C0 P 9 el)).flatten) S with
  |some (q,xs,S2)=>if xs.length=es.length*k then some (q++[PO.mk el k (zV k es.length xs)],{ (S2.bind 1)with ob:=(i,.row st el k S2.m)::S2.ob})else none
  |none=>some ([],S))
 |_=>some ([],S)
theorem Nt{i:Nat}(hh:Qw P S i=some (ps,S'))(he:ax ps ρ=some ρ')(hr:aN S ρ σ s):∃s',Re s s'/\aN S' ρ' σ s':=by
 unfold Qw at hh;split at hh
 ·rename_i st el k es hob;split at hh
  ·rename_i qq xs S2 hg;split at hh
   ·rename_i hl;cases hh;obtain⟨hlt,hro⟩:=hr.ob _ _ hob
    cases hx:s.ob i with
    |arr st' t' k' ys=>
     rw[hx]at hro;obtain⟨h1,rfl,rfl,h2⟩:=hro;obtain⟨ρ1,a1,a2⟩:=ak he;obtain⟨s2,ds,g1,g2,g3,g4⟩:=eK hg a1 hr h2.flat;obtain⟨ee,c1,c2,c3,c4⟩:=tz (n:=es.length) g2 hl
     have hob2:s2.ob i=.arr st' t' k' ys:=by
      rw[g4 i (λst a t k x=>by grind[Sy.own])];exact hx
     have hn2:s2.n=s.n:=g1.1;have ho1:s.own? i st'=some (.arr st' t' k' ys):=by unfold AS.own?;rw[hr.n,if_pos hlt,hx];simp[Ob.st]
     have ho2:s2.own? i st'=some (.arr st' t' k' ys):=by simp_all[AS.own?,if_pos,Ob.st]
     refine⟨{s2 with ob:=upd s2.ob i (.row st' t' k' ee true)},λw0 N a w E hR=>DG hR ho1 (by rw[c2];exact g1) (by rw[c3,h2.len]) c4 ho2,?_⟩;obtain⟨out,o1,rfl⟩:=az a2;rw[Bx c1 c4]at o1;cases o1;have hb:=g3.bind (out:=[DV.sl t' k' ee]) (k:=1) rfl;refine hb.upd (s':={s2 with ob:=upd s2.ob i (.row st' t' k' ee true)}) (i:=i) (n':=(S2.bind 1).n) (c':=(S2.bind 1).c) (so:=.row st t' k' S2.m) (aQ.refl _) hb.c hb.n (Nat.le_refl _) (by rw[<-hb.n,hn2,hr.n];omega) rfl (λj hj=>aE _ _ hj) ?_;simp[ae]
     exact⟨h1,rfl,rfl,rfl,by rw[<-g3.m];simp⟩
    |var=>rw[hx]at hro;exact hro.elim
    |row=>rw[hx]at hro;exact hro.elim
    |frz=>rw[hx]at hro;exact hro.elim
    |dx=>rw[hx]at hro;exact hro.elim
    |opn=>rw[hx]at hro;exact hro.elim
    |pvr=>rw[hx]at hro;exact hro.elim
    |cur=>rw[hx]at hro;exact hro.elim
    |dead=>rw[hx]at hro;exact hro.elim
   grind
  grind[ax,Re.refl]
 grind[ax,Re.refl]
def Am(P:Program):List Nat->Sy->Option (List PO×Sy)
 |[],S=>some ([],S)
 |i::r,S=>(match Qw P S i with|some (p,S1)=>(match Am P r S1 with|some (q,S2)=>some (p++q,S2)|none=>none)|none=>none)
theorem yT:∀{l:List Nat} {S S':Sy} {ps:List PO} {ρ ρ':List DV} {s:AS},Am P l S=some (ps,S')->ax ps ρ=some ρ'->aN S ρ σ s->∃s',Re s s'/\aN S' ρ' σ s'
 |[],S,S',ps,ρ,ρ',s,hh,he,hr=>by
  grind[Am,ax,Re.refl]
 |i::r,S,S',ps,ρ,ρ',s,hh,he,hr=>by
  simp[Am]at hh;split at hh
  ·rename_i p S1 h1;split at hh
   ·rename_i qq S2 h2;cases hh;obtain⟨ρ1,a1,a2⟩:=ak he;obtain⟨s1,r1,k1⟩:=Nt h1 a1 hr;obtain⟨s2,r2,k2⟩:=yT h2 a2 k1;exact⟨s2,r1.trans r2,k2⟩
   grind
  grind
def nK(K:Kt):Kt:=λlv e S=>match e with|.normal=>K lv .normal S|_=>none
theorem IN{Q:Exit->AS->Prop}{K:Kt}(hk:B8 P R L ρ Q K):B8 P R L ρ (d8 Q) (nK K):=by
 intro L' ρ' hL hp e S pg hpg σ s hr hw
 cases e with
 |normal=>exact hk L' ρ' hL hp .normal S pg hpg σ s hr hw
 |_=>cases hpg
def Rx(ds:List Nat)(Q:Sy):SC->Bool
 |.d i=>ds.contains i
 |.nil=>true
 |.own j s2=>(Q.own j s2).isSome
 |.ptr j s2 _=>(Q.own j s2).isSome
 |_=>false
def Ue(P:Program)(FL:List (TypeId×Nat×Nat))(ds:List Nat)(Q:Sy):Bool:=FL.all λx=>match aK Q.sl x.2.1 with
 |some (.p false [.ptr i st off])=>(match Q.own i st with
  |some (.var _ _ cs)=>(match N7 P x.1 (cs.drop off),aK Q.sl x.2.2 with
   |some (.p b xs),some (.p b' xs')=>decide (b=b'/\xs=xs')&&((b||xs.length==1)&&xs.all (Rx ds Q))
   |_,_=>false)
  |_=>false)
 |_=>false
theorem H6{ds:List Nat}:∀{xs:List SC} {ys zs:List AC},xs.all (Rx ds S)=true->cQ ρ σ xs ys->cQ ρ σ xs zs->ys=zs
 |[],ys,zs,_,h1,h2=>by
  cases ys<;>cases zs<;>first|rfl|exact h1.elim|exact h2.elim
 |x::xs,ys,zs,h,h1,h2=>by
  rw[List.all_cons,Bool.and_eq_true]at h
  cases ys with
  |nil=>exact h1.elim
  |cons y ys=>cases zs with
   |nil=>exact h2.elim
   |cons z zs=>
    have e2:=H6 h.2 h1.2 h2.2;have a1:=h1.1;have a2:=h2.1;subst e2;congr 1
    cases x with
    |d i=>
     grind[pG]
    |nil=>cases y<;>cases z<;>first|rfl|exact a1.elim|exact a2.elim
    |own i st=>
     cases y<;>first|exact a1.elim|skip
     cases z<;>first|exact a2.elim|skip
     obtain⟨rfl,g1⟩:=a1;obtain⟨rfl,g2⟩:=a2
     rw[g1]at g2;grind
    |ptr i st off=>
     cases y<;>first|exact a1.elim|skip
     cases z<;>first|exact a2.elim|skip
     obtain⟨rfl,g1,rfl⟩:=a1;obtain⟨rfl,g2,rfl⟩:=a2
     rw[g1]at g2;grind
    |_=>exact absurd h.1 (by simp[Rx])
theorem Ig{ds:List Nat}(hr:aN S ρ σ s)(hsc:∀i∈ds,∃v,ρ[i]? =some (.sc v)):∀{xs:List SC} {ys:List AC},xs.all (Rx ds S)=true->cQ ρ σ xs ys->∀y∈ys,Uk s.lv y
 |[],ys,_,h1=>by
  cases ys with
  |nil=>grind
  |cons=>exact h1.elim
 |x::xs,ys,h,h1=>by
  rw[List.all_cons,Bool.and_eq_true]at h
  cases ys with
  |nil=>grind
  |cons y ys=>
   have ih:=Ig hr hsc h.2 h1.2;have a1:=h1.1;intro z hz;rcases List.mem_cons.1 hz with rfl|hz
   ·cases x with
    |d i=>
     obtain⟨u,rfl,hu⟩:=pG a1;obtain⟨v,hv⟩:=hsc i (by grind[Rx]);rw[hu]at hv;injection hv with hv
     exact .inl ⟨v,by rw[hv]⟩
    |nil=>cases z<;>first|exact .inr (.inl rfl)|exact a1.elim
    |own i st=>
     cases z<;>first|exact a1.elim|skip
     obtain⟨rfl,g1⟩:=a1;obtain⟨ob,hob⟩:=Option.isSome_iff_exists.1 h.1;obtain⟨o2,m1,m2,m3,m4⟩:=hr.own hob g1
     exact .inr (.inr (.inl ⟨_,_,rfl,(am m1).2.2⟩))
    |ptr i st off=>
     cases z<;>first|exact a1.elim|skip
     obtain⟨rfl,g1,rfl⟩:=a1;obtain⟨ob,hob⟩:=Option.isSome_iff_exists.1 h.1;obtain⟨o2,m1,m2,m3,m4⟩:=hr.own hob g1
     exact .inr (.inr (.inr ⟨_,_,_,rfl,(am m1).2.2⟩))
    |_=>exact absurd h.1 (by simp[Rx])
   grind
theorem JV{FL:List (TypeId×Nat×Nat)}{ds:List Nat}(hh:Ue P FL ds S=true)(hr:aN S ρ σ s)(hsc:∀i∈ds,∃v,ρ[i]? =some (.sc v)):CF P FL s:=by
 intro x hx;have:=List.all_eq_true.1 hh x hx;split at this
 ·rename_i i st off h1;split at this
  ·rename_i a ty cs ho;split at this
   ·rename_i b xs b' xs' h2 h3;simp only[Bool.and_eq_true,decide_eq_true_eq]at this;obtain⟨⟨rfl,rfl⟩,hlen,hall⟩:=this;obtain⟨y,y1,y2⟩:=bD (c:=.ptr i st off) rfl (hr.sl _ _ h1);cases y<;>first|exact y2.elim|skip
    obtain⟨rfl,hst,rfl⟩:=y2;obtain⟨o',k1,k2,k3,k4⟩:=hr.own ho hst;cases o'<;>first|exact k2.elim|skip
    rename_i b2 ty' ys;obtain⟨k5,rfl,k6⟩:=k2;obtain rfl:=bh k1 rfl;obtain⟨v,v1,v2⟩:=ub (P:=P) h2 (k6.drop _);have w2:=hr.sl _ _ h3;generalize hz:s.sl x.2.2=z at w2
    cases v with
    |p bv vs=>cases z with
     |p bz zs=>
      obtain⟨rfl,v3⟩:=v2;obtain⟨rfl,w3⟩:=w2;obtain rfl:=H6 hall v3 w3;refine⟨_,_,_,_,_,_,_,y1,k1,v1,rfl,λhb=>?_,Ig hr hsc hall v3⟩;rw[hb]at hlen;rw[<-cQ.len v3]
      grind
     |_=>exact w2.elim
    |_=>exact v2.elim
   grind
  grind
 grind
def P5(FL:List (TypeId×Nat×Nat))(Q:Sy):List Nat:=FL.flatMap λx=>match aK Q.sl x.2.2 with
 |some (.p _ xs)=>xs.filterMap λc=>match c with|.d i=>some i|_=>none
 |_=>[]
theorem Lf:∀{ds:List Nat} {ρ ρ':List DV},ax (ds.map .sc) ρ=some ρ'->ρ'=ρ/\∀i∈ds,∃v,ρ[i]? =some (.sc v)
 |[],ρ,ρ',h=>by grind[ax]
 |i::ds,ρ,ρ',h=>by
  simp[List.map_cons,ax]at h;split at h
  ·rename_i out ho;simp[aA]at ho;split at ho
   ·rename_i d hd;split at ho
    ·rename_i hs;cases ho;rw[List.append_nil]at h;obtain⟨e,ih⟩:=Lf h;refine⟨e,λj hj=>?_⟩;rcases List.mem_cons.1 hj with rfl|hj
     ·cases d with
      |sc v=>grind
      |sl=>cases hs
     grind
    grind
   grind
  grind
def L7(P:Program)(N:Nat)(ow:fM)(chk:Sy->Bool):List Oper->Nat->Sy->Kt->Option Pg
 |[],lv,S,K=>K lv .normal S
 |o::r,lv,S,K=>if dB N o.dst&&o.guard.isNone then Hj P ow o S (λS'=>if chk S' then L7 P N ow chk r lv S' K else none)else none
theorem Gv{Q:Exit->AS->Prop}{FL:List (TypeId×Nat×Nat)}{ds:List Nat}{K:Kt}:∀{l:List Oper} {lv:Nat} {S:Sy} {pg:Pg} {ρ:List DV} {σ:List Nat} {s:AS},(∀i∈ds,∃v,ρ[i]? =some (.sc v))->L7 P N ow (Ue P FL ds) l lv S K=some pg->lv=L.length->aN S ρ σ s->B8 P R L ρ Q K->W P R pg L ρ->Kf P N l Q (CF P FL) s
 |[],lv,S,pg,ρ,σ,s,hsc,h,hl,hr,hk,hw=>λw0 a w E hR=>⟨s,E,hk L ρ (aQ.refl _) (aQ.refl _) _ _ _ (by rw[<-hl];exact h) _ _ hr hw,hR⟩
 |o::r,lv,S,pg,ρ,σ,s,hsc,h,hl,hr,hk,hw=>by
  simp only[L7]at h;split at h
  ·rename_i hd;simp[Bool.and_eq_true]at hd;obtain⟨ρ',σ',s',S',g,r1,r2,r3,r4,r5⟩:=wM h hd.1 hr hw;split at r3
   ·rename_i hc;have hsc':∀i∈ds,∃v,ρ'[i]? =some (.sc v):=λi hi=>by obtain⟨v,hv⟩:=hsc i hi;exact⟨v,r5.get hv⟩
    have hC:=JV hc r2 hsc';have ih:=Gv hsc' r3 hl r2 (hk.mono (aQ.refl _) r5) r4;intro w0 a w E hR;refine⟨by simp_all,Oper.wp_mono (λa' w' hp=>?_) (r1 w0 a w E hR)⟩;obtain⟨E',hR'⟩:=hp;exact⟨⟨s',E',hC,hR'⟩,ih w0 a' w' E' hR'⟩
   grind
  grind
def Tz(FL:List (TypeId×Nat×Nat))(o:Oper):Bool:=FL.all λx=>!(o.dst==some x.2.1)&& !(o.dst==some x.2.2)
def JJ(P:Program)(N:Nat)(ow:fM)(dn:List (Nat×Nat×Bool×List Nat)):Dt:=λid ops lv S K=>
 match aK dn id with
 |some (n,pr,[])=>if P.follows .mixedOrders&&mA ops.toList n then
  tA P N ow pr ops.toList.toArray (λQ=>match Am P ((List.range (Q.n-S.n)).map (S.n+ ·)) Q with|some (ps,Q')=>(match v8 P N ow ops.toList.toArray (ops.toList.drop n) lv Q' K with|some g=>some (dE (ps.map .po) g)|none=>none)|none=>none) (ops.toList.take n) S S
  else none
 |some (n,pr,F)=>if P.follows .mixedOrders&&(uE ops.toList n F&&mA (aM ops.toList n F) n)then(if QH ops.toList F then
  tA P N ow pr (aM ops.toList n F).toArray (λQ=>match Am P ((List.range (Q.n-S.n)).map (S.n+ ·)) Q with|some (ps,Q')=>(match v8 P N ow (aM ops.toList n F).toArray ((aM ops.toList n F).drop n) lv Q' (nK K)with|some g=>some (dE (ps.map .po) g)|none=>none)|none=>none) ((aM ops.toList n F).take n) S S
  else if((aM ops.toList n F).take n).all (λo=>um o.op)&&((aM ops.toList n F).drop n).all (Tz (xR ops.toList F))then
   tA P N ow true (aM ops.toList n F).toArray (λQ=>if Ue P (xR ops.toList F) (P5 (xR ops.toList F) Q) Q then(match L7 P N ow (Ue P (xR ops.toList F) (P5 (xR ops.toList F) Q)) ((aM ops.toList n F).drop n) lv Q (nK K)with|some g=>some (dE (((P5 (xR ops.toList F) Q).map .sc).map .po) g)|none=>none)else none) ((aM ops.toList n F).take n) S S
  else none)else none
 |none=>none
end
end Go.Proofs.Ytgdbmcoamemmaaa
namespace Go.Proofs.Ytgdbmcoamemmaaa
open Go.RowKit
section
variable {P:Program}{w0:Cx}{ws w w':World}{N m n:Nat}{s q q' s':AS}{a a':Act}{E E':En}{V:Nat->Bool}
def DB(V:Nat->Bool)(q:AS)(E:En)(b:Nat):Prop:=E.A b\/∃i,i<q.n/\V i=true/\b∈E.m i
theorem B7{L:Nat->Option Nat}{c:Nat}{t:TypeId}{cs:List AC}{vals:List Value}{b off:Nat}{x:AV}(h:C4 P t cs=some x)(hc:ay w E L c cs vals)(ha:At w b off vals):
 ∃v,∀w',w'.heap[b]? =w.heap[b]?->(Instr.loadAt t (.pointer (some ⟨b,off,none⟩))).run P w'=.ok v w':=by
 unfold C4 at h;split at h
 ·rename_i hg;split at h
  ·rename_i k hk;split at h
   ·rename_i hl;have hlen:(vals.take k).length=k:=by rw[List.length_take,<-hc.1];omega
    refine⟨.agg (vals.take k).toArray,λw' hw=>qK P hg (by rw[hlen];exact hk) ?_⟩;have:=nP (i:=0) (k:=k) (ha.keep hw)
    assumption
   grind
  grind
 ·rename_i hg;split at h
  ·rename_i c0 r;obtain⟨u,us,rfl,h1,h2⟩:=hc.cons';exact⟨u,λw' hw=>qL P hg (by have:=(ha.keep hw) 0 u rfl;assumption)⟩
  grind
 grind
def Ar(V:Nat->Bool)(s:AS):AV->Prop
 |.p false [.ptr i st _]=>V i=true/\i<s.n/\(∃t cs,s.own? i st=some (.var st t cs))
 |.p false [.elt i st k _ _]=>V i=true/\i<s.n/\(∃t es dp,s.own? i st=some (.row st t k es dp))
 |.p false [.rd _]=>True
 |_=>False
theorem Mr(h:aB w0 N s a w E){t:TypeId}{y x:AV}{v:Value}(hx:zL P s t y=some x)(hy:bc w E s.lv s.c y v)(hk:Ar V s y):
 ∃u,∀w',(∀b,DB V s E b->w'.heap[b]? =w.heap[b]?)->(Instr.loadAt t v).run P w'=.ok u w':=by
 unfold Ar at hk;split at hk
 ·rename_i i st off;obtain⟨h1,h2,ty,cs,h3⟩:=hk;simp[zL,h3]at hx;obtain⟨hi,ho,hl⟩:=am h3;obtain⟨g,e1,rfl⟩:=(aC hy).2 hl;have h4:=h.obj i hi;rw[ho]at h4;obtain⟨g',vals,_,e2,e3,_,_,hB,hcs⟩:=h4;rw[e1]at e2;cases e2;obtain⟨u,hu⟩:=B7 hx (hcs.drop off) (nS hB off);exact⟨u,λw' hw=>hu w' (hw g (.inr ⟨i,hi,h1,by rw[e3];simp⟩))⟩
 ·rename_i i st k j off;obtain⟨h1,h2,ty,es,dp,h3⟩:=hk;simp only[zL,h3,if_true]at hx;split at hx
  ·rename_i e he;obtain⟨hi,ho,hl⟩:=am h3;obtain⟨g,n,cp,e1,rfl⟩:=(aC hy).2 hl;obtain⟨g',n',cp',vals,e2,hr,hat,_⟩:=lC h hi ho he;have h4:=h.obj i hi;rw[ho]at h4;obtain⟨cells,_,_,_,_,h5,_⟩:=h4;have hg:g∈E.m i:=by rw[h5,e1];simp[Value.ownBlock]
   rw[e1]at e2;cases e2;obtain⟨u,hu⟩:=B7 hx (ay.ofRep (L:=s.lv) (c:=s.c) (hr.drop off)) (wL (k:=off) hat);exact⟨u,λw' hw=>hu w' (hw g (.inr ⟨i,hi,h1,hg⟩))⟩
  grind
 ·rename_i cs;simp[zL]at hx;obtain⟨b,off,vals,rfl,hA,hr,hat⟩:=aC hy;obtain⟨u,hu⟩:=B7 hx (ay.ofRep (L:=s.lv) (c:=s.c) hr) hat;exact⟨u,λw' hw=>hu w' (hw b (.inl hA))⟩
 grind
end
def Hl(l:List Oper)(F:List Nat):List Nat:=F.filterMap λi=>match l[i]? with
 |some o=>(match o.op with|.load _ (.tmp p)=>some p|_=>none)
 |none=>none
section
variable {P:Program}{w0:Cx}{w w':World}{N m n:Nat}{s h H q q' qF:AS}{a:Act}{E:En}{o:Oper}{l:List Oper}{kds:List HK}{xs:List AV}{Q:Exit->AS->Prop}{F:List Nat}{V:Nat->Bool}
theorem HD{op:Op}(h:Ug op=true):um op=true:=by
 cases hp:um op with
 |true=>rfl
 |false=>
  unfold um at hp;split at hp
  ·cases h
  grind
def JT(n m:Nat)(S:World->Prop)(listed:Array Bool)(_:Act)(w1:World):Prop:=(∀j,j<n->listed.getD j false=true)/\(listed.getD m false=false->S w1)
theorem vk{ops:Array Oper}{Q:Exit->Act->World->Prop}{J J':Array Bool->Act->World->Prop}(hJ:∀listed a w,J listed a w->J' listed a w):∀(fuel:Nat) (listed:Array Bool) (a:Act) (w:World),dh P .any ops Q J fuel listed a w->dh P .any ops Q J' fuel listed a w
 |0,_,_,_,h=>⟨hJ _ _ _ h.1,h.2⟩
 |fuel+1,_,_,_,h=>⟨hJ _ _ _ h.1,h.2.1,λi hi=>wpOp_mono (λ_ _ h=>vk hJ fuel _ _ _ h) (h.2.2 i hi)⟩
theorem GF(n m:Nat)(F:List Nat)(V:Nat->Bool)(hE:uE l n F=true)(hB:mA (aM l n F) n=true)(hpl:Rj (aM l n F) n)(hh:iz P N true (aM l n F).toArray ((aM l n F).take n) s s kds xs qF)
 (hnm:n<=m) (hm:∀i∈F,∀oi,l[i]? =some oi->rg oi.op=true\/NL l m i=true)
 (hLd:∀p∈Hl l F,Ar V qF (qF.sl p)) {w0:Cx} {a:Act} {w:World} {E:En} (hr:aB w0 N s a w E)
 (htail:∀a1 w1 E1,aB w0 N qF a1 w1 E1->(∀b,DB V s E b->DB V qF E1 b)->w1.heap=w.heap->Region.seqB .any (aM l n F).toArray ((aM l n F).length-n) n (cF n ((aM l n F).length-n))=true->(∀j,j<n->(cF n ((aM l n F).length-n)).getD j false=true)->
  dh P .any (aM l n F).toArray (AQ w0 N (d8 Q)) (JT n m (λw1=>∀b,DB V s E b->w1.heap[b]? =w.heap[b]?)) ((aM l n F).length-n) (cF n ((aM l n F).length-n)) a1 w1):
 wpAny P .any l.toArray (AQ w0 N (d8 Q)) l.toArray.size (Array.replicate l.toArray.size false) a w:=by
 have hsz:l.toArray.size=(aM l n F).length:=by simp[uf]
 have hF:∀i∈F,∃oi,l[i]? =some oi/\i<n/\oi.guard=none/\(rg oi.op=true\/Iw oi.op=true):=by
  have hE':=hE;unfold uE at hE';simp only[Bool.and_eq_true,decide_eq_true_eq,List.all_eq_true]at hE';intro i hi;obtain⟨h1,h2⟩:=hE'.2.2 i hi;split at h2
  ·simp_all
  grind
 have hqF:=oy (λo ho=>HD (hpl o ho)) hh;have hr':aB w0 N s a w E:=hr;refine ml _ _ _ _ (qT (S:=λw1=>∀b,DB V s E b->w1.heap[b]? =w.heap[b]?) (m:=m) hE (λe a w he hq=>?_) hnm hm _ _ _ _ (λj oj _ hl=>(by rw[getD_replicate_false]at hl;cases hl)) (by simp) ?_)
 ·obtain⟨s',E',h1,_⟩:=hq;cases e<;>first|exact he rfl|exact h1
 unfold mA at hB;rw[Bool.and_eq_true,decide_eq_true_eq]at hB;obtain⟨hB,hnd⟩:=hB;have hnl:=(cJ hB).2.1;generalize hl':aM l n F=l' at*
 have hu:HP n (Array.replicate l.toArray.size false)=n:=by
  unfold HP
  have:(List.range n).filter (λi=>!(Array.replicate l.toArray.size false).getD i false)=List.range n:=by
   rw[List.filter_eq_self];intro i _;rw[getD_replicate_false];rfl
  rw[this];simp
 have hEm:∀i,i<s.n->∀b∈E.m i,b<w.heap.size:=λi hi b hb=>hr'.m_lt i hi b hb
 obtain⟨hkl,hxl⟩:=iV hh;have htl:(l'.take n).length=n:=by rw[List.length_take];omega
 rw[htl]at hkl hxl;obtain⟨ha1,ha2,ha3⟩:=lj (l:=l'.take n) (xs:=xs) (s:=s);have hobq:qF.ob=s.ob:=by rw[hqF];omega
 have hnq:qF.n=s.n:=by rw[hqF];omega
 have hownq:qF.own? =s.own?:=by funext i st;grind[AS.own?]
 have hS:∀listed a w1 fs,BT P w0 w N w.heap.size n s E l' kds xs listed a w1 fs->∀b,DB V s E b->w1.heap[b]? =w.heap[b]?:=by
  intro listed a w1 fs hI b _;rw[hI.bl hpl]
 have h:=kB (ws:=w) (J:=JF P l F m (λw1=>∀b,DB V s E b->w1.heap[b]? =w.heap[b]?)) (Q:=d8 Q) (m:=w.heap.size) (E:=E) hB hnd hh hr'.bel.size hEm hr'.A_lt ?_ ?_ n (Array.replicate l.toArray.size false) a w (λ_=>[]) hu
  ⟨by grind,λj oj _ hl=>(by rw[getD_replicate_false]at hl;cases hl),λt _ ht=>getD_in (by rw[Array.size_replicate,hsz];assumption) (getD_replicate_false _ _)⟩
  ⟨by
   have:HO l' n (Array.replicate l.toArray.size false)=[]:=by
    rw[List.eq_nil_iff_forall_not_mem];intro t ht;obtain⟨j,o,_,hl,_⟩:=fH.1 ht;rw[getD_replicate_false]at hl;cases hl
   rw[this];have e:de s []=s:=by rfl
   rw[e];omega,Nat.le_refl _,λj o d kd x _ hl=>(by rw[getD_replicate_false]at hl;cases hl),λj _ hl=>(by rw[getD_replicate_false]at hl;cases hl),λi j _ _ hl=>(by rw[getD_replicate_false]at hl;cases hl),λ_=>rfl⟩
 ·rw[show l.toArray.size=n+(l'.length-n)from by rw[hsz];omega];rw[show(Array.replicate l.toArray.size false)=Array.replicate (n+(l'.length-n)) false from by grind]at h;exact h
 ·intro listed a w1 fs inv hI;refine⟨λ_=>hS _ _ _ _ hI,λi oi hi hoi hrd=>?_⟩;obtain⟨oi',hoi',hin,hg,hfl⟩:=hF i hi;obtain rfl:oi'=oi:=Option.some.inj (hoi'.symm.trans hoi);have hne:i≠n:=by omega
  have hrd':i∈Region.ready .any l'.toArray listed:=by rw[<-hl'];grind[gO,absurd]
  have hoil:l'[i]? =some oi':=by rw[<-hl',jA hne];omega
  obtain⟨g1,g2⟩:=xV hB hnd hh hr'.bel.size hEm inv hI hin hrd' hoil;obtain⟨kd,x,qi,qi',hkd,hx,⟨d,hd,hdN⟩,hstp⟩:=jz hh i oi' (by rw[List.getElem?_take,if_pos hin];omega);have htt:(l'.take n).take i=l'.take i:=by rw[List.take_take,Nat.min_eq_left (by omega)]
  rw[htt,hg]at hstp;obtain⟨y,hy⟩:=zg hstp (hpl oi' (List.mem_of_getElem? (i:=i) (by rw[List.getElem?_take,if_pos hin];omega)))
  have hy:hV P (lG s (l'.take i) xs) oi'.op=some y:=by
   have hnb:∀t parts,oi'.op≠.build t parts:=λt parts e=>by
    rcases hfl with hfl|hfl<;>(rw[e]at hfl;cases hfl)
   simp_all[pK,absurd]
  rw[<-tn g2]at hy;rcases hfl with hfl|hfl
  ·obtain⟨v,hv⟩:=rf hfl hy g1;exact⟨v,λw _=>hv w⟩
  ·unfold Iw at hfl;split at hfl
   ·rename_i t p hop;have hheap:=hI.bl hpl;have hmem:p∈Hl l F:=List.mem_filterMap.2 ⟨i,hi,by rw[hoi];grind⟩;have hlk:p∈oi'.looksAt l'.toArray:=List.mem_append_left _ (List.mem_filterMap.2 ⟨.tmp p,by rw[hop];simp[Op.operands],rfl⟩);have hk:=hLd p hmem;rw[hop]at hy;simp only[hV]at hy
    have hsl:({s with sl:=λt=>if(oi'.looksAt l'.toArray).contains t then(lG s (l'.take i) xs).sl t else .und}:AS).ev (.tmp p)=qF.sl p:=by
     show(if(oi'.looksAt l'.toArray).contains p then(lG s (l'.take i) xs).sl p else .und)=_;rw[if_pos (by grind),AF (listed:=listed) (fs:=fs) hB hnd hxl (Nat.le_of_lt hin) (λj oj hj hoj hdj=>(i9 hB hin hoil hj hoj hdj hlk).1),<-hqF]
    have hsr:=aL g1 (.tmp p);rw[hsl]at hy hsr
    obtain⟨u,hu⟩:=Mr (V:=V) g1 hy hsr (by
     unfold Ar at hk ⊢;split at hk
     ·obtain⟨k1,k2,ty,cs,k3⟩:=hk;exact⟨k1,by rw[<-hnq];exact k2,ty,cs,by rw[hownq]at k3;exact k3⟩
     ·obtain⟨k1,k2,ty,es,dp,k3⟩:=hk;exact⟨k1,by rw[<-hnq];exact k2,ty,es,dp,by rw[hownq]at k3;exact k3⟩
     ·trivial
     assumption)
    refine⟨u,λw' hSw=>?_⟩;have hSw:=hSw.resolve_left (by simp[hop,rg])
    have:=hu w' (λb hb=>by
     rw[hheap];refine hSw b ?_;rcases hb with hb|hb
     ·rcases hb with hb|hb
      ·exact .inl hb
      grind
     ·exact .inr hb)
    simp only[execOp,hop];rw[Sem.run_bind,this];rfl
   grind
 ·intro a w1 fs hI
  have hall:∀j,j<n->(cF n (l'.length-n)).getD j false=true:=by
   simp_all[cF,Array.getElem?_append]
  have hrep:=Da hB hnd hxl hkl hr'.bel.size hEm hall hI;rw[<-hqF]at hrep;have hheap:=hI.bl hpl;refine vk (λlisted a w hj=>⟨hj.2,λi oi hi hoi hrd=>?_⟩) _ _ _ _ (htail _ _ _ hrep (λb hb=>?_) hheap (by simpa using(cJ hB).2.2.2.1) hall)
  ·rcases hb with hb|⟨i,hi,h1,h2⟩
   ·exact .inl (.inl hb)
   ·exact .inr ⟨i,by rw[hnq];exact hi,h1,h2⟩
  ·obtain⟨_,_,hin,_⟩:=hF i hi;have h0:=(mem_ready.1 hrd).1;have:=hj.1 i hin;rw[getD_both h0]at this;grind
def T8(P:Program)(N:Nat)(xs:List Nat):List Oper->AS->AS->Prop
 |[],s,s'=>s=s'
 |o::r,s,s'=>o.guard=none/\(∀d,o.dst=some d->d∉xs)/\∃X s1,(∀x,X=some x->x∈xs)/\kZ P N o s s1 X/\T8 P N xs r s1 s'
theorem FA{ops:Array Oper}{t2:List Oper}{m n:Nat}{s1:AS}{D:Nat->Prop}{wz:World}{xs:List Nat}{g:Nat}(hnm:n<=m)(ht:lk P N ops t2 (d8 Q) s1):
 ∀(r:List Oper) (k:Nat) (listed:Array Bool) (a:Act) (w:World) (s:AS) (E:En),n<=k->(∀j,(r++t2)[j]? =ops[k+j]?)->k+r.length=m->Region.seqB .any ops (r++t2).length k listed=true->(∀j,j<k->listed.getD j false=true)->aB w0 N s a w E->
 T8 P N xs r s s1->(∀x∈xs,a.tmps.getD x undef=.pointer (some ⟨g,0,none⟩))->(∀b,D b->b<w.heap.size/\b≠g)->(∀b,D b->w.heap[b]? =wz.heap[b]?)->dh P .any ops (AQ w0 N (d8 Q)) (JT n m (λw1=>∀b,D b->w1.heap[b]? =wz.heap[b]?)) (r++t2).length listed a w
 |[],k,listed,a,w,s,E,hnk,hops,hk,hB,hl,hr,hst,hx,hD,hS=>by
  obtain rfl:s=s1:=hst;obtain rfl:k=m:=by simpa using hk
  simp only[List.nil_append]at hops hB ⊢;have h:=wpAny_of_seq (md:=.any) t2 k listed a w hops hB (ht w0 a w E hr);have hJ:JT n k (λw1=>∀b,D b->w1.heap[b]? =wz.heap[b]?) listed a w:=⟨λj hj=>hl j (by omega),λ_=>hS⟩
  cases t2 with
  |nil=>exact⟨hJ,h⟩
  |cons o r=>
   refine⟨hJ,h.1,λi hi=>wpOp_mono (λa' w' h'=>qo (n:=k+1) (λlisted a w hl=>⟨λj hj=>hl j (by omega),λh0=>by rw[hl k (by omega)]at h0;cases h0⟩) _ _ _ _ (λj hj=>?_) h') (h.2 i hi)⟩
   have hik:i=k:=by
    simp only[List.length_cons,Region.seqB,Bool.and_eq_true,decide_eq_true_eq]at hB;rw[hB.1]at hi;simpa using hi
   subst hik;by_cases e:i=j
   ·subst e;have h0:=(mem_ready.1 hi).1
    have hlt:i<listed.size:=by
     rcases Nat.lt_or_ge i listed.size with h|h
     ·exact h
     ·rw[Array.getD_eq_getD_getElem?,Array.getElem?_eq_none h]at h0;cases h0
    simp[hlt]
   ·rw[getD_set_ne false e];exact hl j (by omega)
 |o::r,k,listed,a,w,s,E,hnk,hops,hk,hB,hl,hr,hst,hx,hD,hS=>by
  obtain⟨hg,hdx,X,s2,hX,hst1,hst2⟩:=hst;have h0:ops[k]? =some o:=by simpa using(hops 0).symm
  simp only[List.cons_append,List.length_cons,Region.seqB,Bool.and_eq_true,decide_eq_true_eq]at hB hk ⊢;refine⟨⟨λj hj=>hl j (by omega),λ_=>hS⟩,λh1=>(by rw[hB.1]at h1;cases h1),λq hq=>?_⟩;have hrd:=hq;rw[hB.1]at hq;obtain rfl:q=k:=by simpa using hq
  unfold wpOp;simp only[h0];rw[if_pos (by simp[Region.wanted,hg])]
  have hnx:∀j,j<q+1->(listed.setIfInBounds q true).getD j false=true:=λj hj=>by
   by_cases e:q=j
   ·subst e;have h0:=(mem_ready.1 hrd).1
    have hlt:q<listed.size:=by
     rcases Nat.lt_or_ge q listed.size with h|h
     ·exact h
     ·rw[Array.getD_eq_getD_getElem?,Array.getElem?_eq_none h]at h0;cases h0
    simp[hlt]
   ·rw[getD_set_ne false e];exact hl j (by omega)
  have hops':∀j,(r++t2)[j]? =ops[q+1+j]?:=λj=>by have:=hops (j+1);simpa[Nat.add_assoc,Nat.add_comm 1 j]using this
  refine .inl (Oper.wp_mono2 (λa' w' hh=>?_) (hst1 w0 a w E hr));obtain⟨⟨E',h1⟩,⟨v,rfl⟩,h4,h5⟩:=hh;refine FA hnm ht r (q+1) _ _ w' s2 E' (by omega) hops' (by omega) hB.2 hnx h1 hst2 (λx hxs=>?_) (λb hb=>⟨Nat.lt_of_lt_of_le (hD b hb).1 h4,(hD b hb).2⟩) (λb hb=>(h5 b (hD b hb).1 λx e g' hg'=>?_).trans (hS b hb))
  ·rw[<-hx x hxs]
   cases hd:o.dst with
   |none=>rfl
   |some d=>
    have hne:d≠x:=λe=>hdx d hd (e▸hxs)
    simp only[Act.put];rw[Array.getD_eq_getD_getElem?,Array.getElem?_setIfInBounds_ne hne,<-Array.getD_eq_getD_getElem?]
  ·have:=hx x (hX x e);rw[this]at hg';injection hg' with hg';injection hg' with hg';injection hg' with hg';exact hg'▸(hD b hb).2
theorem E5(n k:Nat)(F:List Nat)(V:Nat->Bool){i:Nat}{s1:AS}{zs:List Nat}(hE:uE l n F=true)(hB:mA (aM l n F) n=true)(hpl:Rj (aM l n F) n)(hh:iz P N true (aM l n F).toArray ((aM l n F).take n) s s kds xs qF)
 (hm:∀j∈F,∀oj,l[j]? =some oj->rg oj.op=true\/NL l (n+k) j=true) (hk:k<=((aM l n F).drop n).length)
 (hLd:∀p∈Hl l F,Ar V qF (qF.sl p)) (hV:V i=false) (hz:zs≠[]->∃st id t x cs,qF.own? i st=some (.cur st id t x cs)/\∀z∈zs,qF.sl z=.p false [.own i st])
 (hst:T8 P N zs (((aM l n F).drop n).take k) qF s1) (htail:lk P N (aM l n F).toArray (((aM l n F).drop n).drop k) (d8 Q) s1) {w0:Cx} {a:Act} {w:World} {E:En} (hr:aB w0 N s a w E):
 wpAny P .any l.toArray (AQ w0 N (d8 Q)) l.toArray.size (Array.replicate l.toArray.size false) a w:=by
 refine GF n (n+k) F V hE hB hpl hh (by omega) hm hLd hr λa1 w1 E1 hrep hDB hheap hseq hall=>?_
 have e:(aM l n F).length-n=((((aM l n F).drop n).take k)++(((aM l n F).drop n).drop k)).length:=by rw[List.take_append_drop];simp
 obtain⟨g,hg1,hg2⟩:∃g,(∀z∈zs,a1.tmps.getD z undef=.pointer (some ⟨g,0,none⟩))/\∀b,DB V s E b->b≠g:=by
  cases zs with
  |nil=>exact⟨w.heap.size,by simp,λb hb e=>by
   have:b<w1.heap.size:=by
    rcases hDB b hb with h1|⟨j,hj,_,hb⟩
    ·exact hrep.A_lt b h1
    ·exact hrep.m_lt j hj b hb
   rw[hheap]at this;omega⟩
  |cons z zs=>
   obtain⟨st,id,t,x,cs,h1,h2⟩:=hz (by simp);obtain⟨hin,hob,hlv⟩:=am h1;have hO:=hrep.obj i hin;rw[hob]at hO;obtain⟨g,u,_,ev,em,_⟩:=hO;refine⟨g,λz hzm=>?_,λb hb e=>?_⟩
   ·have:=hrep.slot z;rw[h2 z hzm]at this;rw[(aC this).2 hlv,ev]
   ·have hbg:b∈E1.m i:=by rw[em,e];simp
    rcases hDB b hb with h1|⟨j,hj,hjv,hb⟩
    ·exact hrep.A_m b h1 i hin hbg
    ·exact hrep.mm j i hj hin (λe=>by subst e;rw[hV]at hjv;cases hjv) b hb hbg
 have h:=FA (w0:=w0) (n:=n) (m:=n+k) (D:=DB V s E) (wz:=w) (g:=g) (by omega) htail (((aM l n F).drop n).take k) n (cF n ((aM l n F).length-n)) a1 w1 qF E1 (Nat.le_refl _) (λj=>by rw[List.take_append_drop];simp[List.getElem?_drop]) (by rw[List.length_take,Nat.min_eq_left hk]) (by rw[<-e];exact hseq) hall hrep hst hg1 (λb hb=>⟨?_,hg2 b hb⟩) (λb _=>by rw[hheap])
 ·rw[<-e]at h;exact h
 ·rcases hDB b hb with h1|⟨j,hj,_,hb⟩
  ·exact hrep.A_lt b h1
  ·exact hrep.m_lt j hj b hb
end
end Go.Proofs.Ytgdbmcoamemmaaa
namespace Go.Proofs.Ytgdbmcoamemmaaa
open Go.RowKit
def Ch(P:Program)(N:Nat)(l:List Oper)(Q:Exit->AS->Prop)(s:AS):Prop:=∀w0 a w E,aB w0 N s a w E->wpAny P .any l.toArray (AQ w0 N Q) l.toArray.size (Array.replicate l.toArray.size false) a w
section
variable {P:Program}{R:List (Bool×List DV)->Prop}{N:Nat}{ow:fM}{Q:Exit->AS->Prop}{s:AS}{l l':List Oper}
theorem Dl{id:Nat}(hm:P.follows .mixedOrders=true)(h:Ch P N l Q s):sW P N (.region id l.toArray true) Q s:=λw0 a w E hr=>wp_region_any hm (h w0 a _ E (hr.world' (Below.refl _ _).drew))
theorem Hn{c:Code}(h:sW P N c (d8 Q) s):sW P N c Q s:=λw0 a w E hr=>by
 refine Code.wp_mono (λe a w he=>?_) (h w0 a w E hr);obtain⟨s',E',h1,h2⟩:=he
 cases e with
 |normal=>exact⟨s',E',h1,h2⟩
 |_=>exact h1.elim
theorem Hu{dn:List (Nat×Nat×Bool×List Nat)}{id:Nat}{ops:Array Oper}{lv:Nat}{S:Sy}{K:Kt}{pg:Pg}(hh:JJ P N ow dn id ops lv S K=some pg){L:Lbl}{ρ:List DV}{σ:List Nat}{Qp:Exit->AS->Prop}
 (hl:lv=L.length) (hr:aN S ρ σ s) (hk:B8 P R L ρ Qp K) (hw:W P R pg L ρ):P.follows .mixedOrders=true/\(Ch P N ops.toList Qp s\/Ch P N ops.toList (d8 Qp) s):=by
 unfold JJ at hh;split at hh
 ·rename_i n pr hdn;split at hh
  ·rename_i hc;simp[Bool.and_eq_true]at hc;obtain⟨kds,xs,qF,S',ρ1,σ1,g,f1,f2,f3,f4,f5⟩:=pe hh hr hr (aQ.refl _) hw;split at f3
   ·rename_i ps Q' hs;split at f3
    ·rename_i g' hg';cases f3;obtain⟨ρ2,he,hw2,hp2⟩:=bN (gK f4);obtain⟨s2,r2,k2⟩:=yT hs he f2;have ht:lk P N ops.toList.toArray (ops.toList.drop n) Qp qF:=Gy r2 (gt hg' hl k2 (hk.mono (aQ.refl _) (f5.trans hp2)) hw2);exact⟨hc.1,.inl λw0 a w E hr=>JL n pr hc.2 f1 ht hr⟩
    grind
   grind
  grind
 ·rename_i n pr F _ hdn;split at hh
  ·rename_i hc;simp[Bool.and_eq_true]at hc;split at hh
   ·rename_i hnl;obtain⟨kds,xs,qF,S',ρ1,σ1,g,f1,f2,f3,f4,f5⟩:=pe hh hr hr (aQ.refl _) hw;split at f3
    ·rename_i ps Q' hs;split at f3
     ·rename_i g' hg';cases f3;obtain⟨ρ2,he,hw2,hp2⟩:=bN (gK f4);obtain⟨s2,r2,k2⟩:=yT hs he f2;have ht:lk P N (aM ops.toList n F).toArray ((aM ops.toList n F).drop n) (d8 Qp) qF:=Gy r2 (gt hg' hl k2 ((IN hk).mono (aQ.refl _) (f5.trans hp2)) hw2);exact⟨hc.1,.inr λw0 a w E hr=>Fj n pr F hc.2.1 hnl hc.2.2 f1 ht hr⟩
     grind
    grind
   ·split at hh
    ·rename_i hpl;simp[Bool.and_eq_true,List.all_eq_true]at hpl;obtain⟨kds,xs,qF,S',ρ1,σ1,g,f1,f2,f3,f4,f5⟩:=pe hh hr hr (aQ.refl _) hw;split at f3
     ·rename_i hcf;split at f3
      ·rename_i g' hg';cases f3;obtain⟨ρ2,he,hw2,hp2⟩:=bN (gK f4);obtain⟨rfl,hsc⟩:=Lf he;have ht:Kf P N ((aM ops.toList n F).drop n) (d8 Qp) (CF P (xR ops.toList F)) qF:=Gv hsc hg' hl f2 ((IN hk).mono (aQ.refl _) f5) hw2
       exact⟨hc.1,.inr λw0 a w E hr=>EO n F hc.2.1 hc.2.2 hpl.1 f1 (JV hcf f2 hsc) (λo ho x hx=>by
        have:=List.all_eq_true.1 (hpl.2 o ho) x hx
        grind) ht hr⟩
      grind
     grind
    grind
  grind
 grind
def Jd(Q:Sy)(p:Nat):Bool:=match aK Q.sl p with
 |some (.p false [.ptr i st _])=>(match Q.own i st with|some (.var _ _ _)=>true|_=>false)
 |some (.p false [.elt i st k _ _])=>(match Q.own i st with|some (.row _ _ k' _)=>decide (k'=k)|_=>false)
 |some (.p false [.rd _])=>true
 |_=>false
def S0(Q:Sy)(ps:List Nat):List Nat:=ps.filterMap λp=>match aK Q.sl p with|some (.p false [.ptr i _ _])=>some i|some (.p false [.elt i _ _ _ _])=>some i|_=>none
theorem JH{V:Nat->Bool}{Q:Sy}{ρ:List DV}{σ:List Nat}{q:AS}{p:Nat}(hr:aN Q ρ σ q)(h:Jd Q p=true)(hV:∀i st off,aK Q.sl p=some (.p false [.ptr i st off])->V i=true)(hV2:∀i st k j off,aK Q.sl p=some (.p false [.elt i st k j off])->V i=true):Ar V q (q.sl p):=by
 unfold Jd at h;split at h
 ·rename_i i st off h1;split at h
  ·rename_i a ty cs ho;obtain⟨y,y1,y2⟩:=bD (c:=.ptr i st off) rfl (hr.sl _ _ h1);cases y<;>first|exact y2.elim|skip
   obtain⟨rfl,hst,rfl⟩:=y2;obtain⟨o',k1,k2,k3,k4⟩:=hr.own ho hst;cases o'<;>first|exact k2.elim|skip
   rename_i b2 ty' ys;obtain⟨k5,rfl,k6⟩:=k2;obtain rfl:=bh k1 rfl;rw[y1];exact⟨hV _ _ _ h1,(am k1).1,_,_,k1⟩
  grind
 ·rename_i i st k j off h1;split at h
  ·rename_i a ty k' x ho;have h:=of_decide_eq_true h;subst h;obtain⟨y,y1,y2⟩:=bD (c:=.elt i st _ j off) rfl (hr.sl _ _ h1);cases y<;>first|exact y2.elim|skip
   obtain⟨rfl,hst,rfl,-,rfl⟩:=y2;obtain⟨o',k1,k2,k3,k4⟩:=hr.own ho hst;cases o'<;>first|exact k2.elim|skip
   rename_i b2 ty' kk es dp;obtain⟨k5,rfl,rfl,rfl,k6⟩:=k2;obtain rfl:=bh k1 rfl;rw[y1];exact⟨hV2 _ _ _ _ _ h1,(am k1).1,_,_,_,k1⟩
  grind
 ·rename_i cs h1;obtain⟨y,y1,y2⟩:=bD (c:=.rd cs) rfl (hr.sl _ _ h1);cases y<;>first|exact y2.elim|skip
  rw[y1];trivial
 grind
def Ia(P:Program)(N:Nat)(ow:fM)(n:Nat)(F:List Nat):Dt:=λ_ _ _ _ _=>none
theorem GG{n:Nat}{F:List Nat}{id:Nat}{ops:Array Oper}{lv:Nat}{S:Sy}{K:Kt}{pg:Pg}(hh:Ia P N ow n F id ops lv S K=some pg){L:Lbl}{ρ:List DV}{σ:List Nat}{Qp:Exit->AS->Prop}
 (hl:lv=L.length) (hr:aN S ρ σ s) (hk:B8 P R L ρ Qp K) (hw:W P R pg L ρ):P.follows .mixedOrders=true/\Ch P N ops.toList (d8 Qp) s:=by
 unfold Ia at hh;cases hh
def IF(P:Program)(N:Nat)(ow:fM)(xs:List Nat):List Oper->Sy->(Sy->Option Pg)->Option Pg
 |[],S,k=>k S
 |c::r,S,k=>if dB N c.dst&&(c.guard.isNone&&c.dst.all (λd=>!xs.contains d))then(match c.op with
  |.call ⟨.value (.func f),args,ts⟩=>if(OW args.toList).all xs.contains then(match xF P ow S c.dst f args.toList ts.toList with
   |some (n,S1)=>(match IF P N ow xs r S1 k with|some g=>some (dE n g)|none=>none)
   |none=>none)else none
  |.buildSlice t len parts=>(match KF P S c.dst t len parts.toList with
   |some (n,S1)=>(match IF P N ow xs r S1 k with|some g=>some (dE n g)|none=>none)
   |none=>none)
  |_=>none)else none
theorem Bo{k:Sy->Option Pg}{L:Lbl}{xs:List Nat}:∀{l:List Oper} {S:Sy} {g:Pg} {ρ:List DV} {σ:List Nat} {s:AS},IF P N ow xs l S k=some g->aN S ρ σ s->W P R g L ρ->
 ∃ρ' σ' s1 S1 g1,T8 P N xs l s s1/\aN S1 ρ' σ' s1/\k S1=some g1/\W P R g1 L ρ'/\aQ ρ ρ'
 |[],S,g,ρ,σ,s,h,hr,hw=>⟨ρ,σ,s,S,g,rfl,hr,h,hw,aQ.refl _⟩
 |c::r,S,g,ρ,σ,s,h,hr,hw=>by
  simp only[IF]at h;split at h
  ·rename_i hd;simp only[Bool.and_eq_true,Option.isNone_iff_eq_none]at hd;obtain⟨hd,hg,hx⟩:=hd;have hdx:∀d,c.dst=some d->d∉xs:=λd e=>by rw[e]at hx;simpa using hx
   split at h
   ·rename_i f args ts ho;split at h
    ·rename_i hcu;split at h
     ·rename_i n S1 hs;split at h
      ·rename_i g1 hg1;injection h with h;subst h;obtain⟨x,j1,ρ1,σ1,s1,h1,h2,h3,h4⟩:=vo ho hs hd hr (gK hw);obtain⟨ρ',σ',s2,S2,g2,k1,k2,k3,k4,k5⟩:=Bo hg1 h2 h3;exact⟨ρ',σ',s2,S2,g2,⟨hg,hdx,some x,s1,(λy e=>by cases e;rw[j1]at hcu;simpa using hcu),h1,k1⟩,k2,k3,k4,h4.trans k5⟩
      ·cases h
     ·cases h
    ·cases h
   ·rename_i t len parts ho;split at h
    ·rename_i n S1 hs;split at h
     ·rename_i g1 hg1;injection h with h;subst h;obtain⟨ρ1,σ1,s1,h1,h2,h3,h4⟩:=Ab ho hs hd hr (gK hw);obtain⟨ρ',σ',s2,S2,g2,k1,k2,k3,k4,k5⟩:=Bo hg1 h2 h3;exact⟨ρ',σ',s2,S2,g2,⟨hg,hdx,none,s1,(λy e=>by cases e),h1,k1⟩,k2,k3,k4,h4.trans k5⟩
     ·cases h
    ·cases h
   ·cases h
  ·cases h
def FH(l:List Oper):List Nat:=l.filterMap λc=>match c.op with|.call ⟨_,args,_⟩=>OW args.toList|_=>none
def Oe(Q:Sy)(xs:List Nat):Option (Nat×Nat):=match xs with
 |x::_=>(match aK Q.sl x with|some (.p false [.own i st])=>(match Q.own i st with|some (.cur _ _ _ _)=>some (i,st)|_=>none)|_=>none)
 |[]=>none
def ID(P:Program)(N:Nat)(ow:fM)(n k:Nat)(F:List Nat):Dt:=λid ops lv S K=>
 if(P.follows .mixedOrders&&(uE ops.toList n F&&mA (aM ops.toList n F) n))&&(((aM ops.toList n F).take n).all (λo=>Ug o.op)&&(decide (k<=((aM ops.toList n F).drop n).length)&&
    F.all λj=>match ops.toList[j]? with|some oj=>rg oj.op||NL ops.toList (n+k) j|none=>true))then
  tA P N ow true (aM ops.toList n F).toArray (λQ=>
   match Oe Q (FH (((aM ops.toList n F).drop n).take k))with
   |some (i,st)=>if(Hl ops.toList F).all (Jd Q)&&((S0 Q (Hl ops.toList F)).all (λj=>decide (j≠i))&&(FH (((aM ops.toList n F).drop n).take k)).all λx=>match aK Q.sl x with|some (.p false [.own i' st'])=>decide (i'=i/\st'=st)|_=>false)then
    IF P N ow (FH (((aM ops.toList n F).drop n).take k)) (((aM ops.toList n F).drop n).take k) Q (λQ1=>v8 P N ow (aM ops.toList n F).toArray (((aM ops.toList n F).drop n).drop k) lv Q1 (nK K))else none
   |none=>none) ((aM ops.toList n F).take n) S S
 else none
theorem GP{n k:Nat}{F:List Nat}{id:Nat}{ops:Array Oper}{lv:Nat}{S:Sy}{K:Kt}{pg:Pg}(hh:ID P N ow n k F id ops lv S K=some pg){L:Lbl}{ρ:List DV}{σ:List Nat}{Qp:Exit->AS->Prop}
 (hl:lv=L.length) (hr:aN S ρ σ s) (hk:B8 P R L ρ Qp K) (hw:W P R pg L ρ):P.follows .mixedOrders=true/\Ch P N ops.toList (d8 Qp) s:=by
 unfold ID at hh;split at hh
 ·rename_i hc;simp only[Bool.and_eq_true,decide_eq_true_eq]at hc;obtain⟨⟨hm,hE,hB⟩,hpl,hk1,hF⟩:=hc;obtain⟨kds,xs,qF,S',ρ1,σ1,g,f1,f2,f3,f4,f5⟩:=pe hh hr hr (aQ.refl _) hw;generalize hzs:FH (((aM ops.toList n F).drop n).take k)=zs at *;split at f3
  ·rename_i i st hcu;split at f3
   ·rename_i hcf;simp only[Bool.and_eq_true]at hcf;obtain⟨hcf,hvi,hzx⟩:=hcf;obtain⟨ρ2,σ2,s1,S1,g1,k1,k2,k3,k4,k5⟩:=Bo f3 f2 f4;have ht:=gt k3 hl k2 ((IN hk).mono (aQ.refl _) (f5.trans k5)) k4;have hV:∀j,j∈S0 S' (Hl ops.toList F)->decide (j≠i)=true:=λj hj=>List.all_eq_true.1 hvi j hj
    refine⟨hm,λw0 a w E hr=>E5 n k F (λj=>decide (j≠i)) (i:=i) (zs:=zs) hE hB (λo ho=>List.all_eq_true.1 hpl o ho) f1 (λj hj oj hoj=>?_) hk1 (λp hp=>?_) (by simp) (λ_=>?_) k1 ht hr⟩
    ·have:=List.all_eq_true.1 hF j hj;rw[hoj]at this;simpa using this
    ·exact JH f2 (List.all_eq_true.1 hcf p hp) (V:=λj=>decide (j≠i)) (λi st off h1=>hV _ (List.mem_filterMap.2 ⟨p,hp,by rw[h1]⟩)) (λi st k j off h1=>hV _ (List.mem_filterMap.2 ⟨p,hp,by rw[h1]⟩))
    ·unfold Oe at hcu;split at hcu
     ·rename_i x r;split at hcu
      ·rename_i i1 st1 hx1;split at hcu
       ·rename_i a1 id t z ho;injection hcu with hcu;injection hcu with e1 e2;subst e1 e2;obtain⟨y,y1,y2⟩:=bD (c:=.own i1 st1) rfl (f2.sl _ _ hx1);cases y<;>first|exact y2.elim|skip
        obtain⟨rfl,hst⟩:=y2;obtain⟨o',n1,n2,n3,n4⟩:=f2.own ho hst;cases o'<;>first|exact n2.elim|skip
        obtain⟨n5,rfl,rfl,n6⟩:=n2;obtain rfl:=bh n1 rfl;refine⟨_,_,_,_,_,n1,λq hq=>?_⟩;have h3:=List.all_eq_true.1 hzx q hq;split at h3
        ·rename_i i2 st2 hq2;obtain⟨rfl,rfl⟩:=of_decide_eq_true h3;obtain⟨y,y1,y2⟩:=bD (c:=.own i2 st2) rfl (f2.sl _ _ hq2);cases y<;>first|exact y2.elim|skip
         obtain⟨rfl,hst'⟩:=y2;rw[hst]at hst';injection hst' with hst';subst hst';exact y1
        ·cases h3
       ·cases hcu
      ·cases hcu
     ·cases hcu
   ·cases f3
  ·cases f3
 ·cases hh
def Gr(P:Program)(N:Nat)(ow:fM)(dn:List (Nat×Nat×Bool×List Nat)):Dt:=λid ops lv S K=>
 match aK dn id with
 |some (n,_,2000000::F)=>Ia P N ow n F id ops lv S K
 |some (n,_,4000000::k::F)=>ID P N ow n k F id ops lv S K
 |_=>JJ P N ow dn id ops lv S K
theorem HF{dn:List (Nat×Nat×Bool×List Nat)}{id:Nat}{ops:Array Oper}{lv:Nat}{S:Sy}{K:Kt}{pg:Pg}(hh:Gr P N ow dn id ops lv S K=some pg){L:Lbl}{ρ:List DV}{σ:List Nat}{Qp:Exit->AS->Prop}
 (hl:lv=L.length) (hr:aN S ρ σ s) (hk:B8 P R L ρ Qp K) (hw:W P R pg L ρ):P.follows .mixedOrders=true/\(Ch P N ops.toList Qp s\/Ch P N ops.toList (d8 Qp) s):=by
 grind[Gr,GG,Hu,GP]
def I7(P:Program)(N:Nat)(ow:fM)(dn:List (Nat×Nat×Bool×List Nat)):Dt:=λid ops lv S K=>
 Gr P N ow dn id ops lv S K
theorem GT{dn:List (Nat×Nat×Bool×List Nat)}{id:Nat}{ops:Array Oper}{lv:Nat}{S:Sy}{K:Kt}{pg:Pg}(hh:I7 P N ow dn id ops lv S K=some pg){L:Lbl}{ρ:List DV}{σ:List Nat}{Qp:Exit->AS->Prop}
 (hl:lv=L.length) (hr:aN S ρ σ s) (hk:B8 P R L ρ Qp K) (hw:W P R pg L ρ):P.follows .mixedOrders=true/\(Ch P N ops.toList Qp s\/Ch P N ops.toList (d8 Qp) s):=by
 exact HF (show Gr P N ow dn id ops lv S K=some pg from hh) hl hr hk hw
theorem JM{dn:List (Nat×Nat×Bool×List Nat)}:TX P R N (I7 P N ow dn):=by
 intro id ops lv S K pg hh L ρ σ s Qp hl hr hk hw;obtain⟨hm,h⟩:=GT hh hl hr hk hw;have e:(Code.region id ops true)=.region id ops.toList.toArray true:=by simp
 rw[e]
 grind[Dl,Hn]
end
end Go.Proofs.Ytgdbmcoamemmaaa
namespace Go.Proofs.Ytgdbmcoamemmaaa
open Go.RowKit
section
variable {P:Program}{N:Nat}{l:List Oper}{Q:Exit->AS->Prop}{s:AS}{k:Nat}
variable {val:Nat->Option Bool}{kp:Nat->Bool}
variable {R:List (Bool×List DV)->Prop}{ow:fM}{ρ:List DV}{σ:List Nat}{S:Sy}{L:Lbl}
def Cp(P:Program)(N:Nat)(ow:fM)(dn:List (Nat×Nat×Bool×List Nat)):Dt:=λid ops lv S K=>
 I7 P N ow dn id ops lv S K
theorem tE{dn:List (Nat×Nat×Bool×List Nat)}:TX P R N (Cp P N ow dn):=JM (dn:=dn)
end
end Go.Proofs.Ytgdbmcoamemmaaa
namespace Go.Proofs.Ytgdbmcoamemmaaa
open Go.RowKit
def jZ{α:Type}:List α->List α->List α
 |[],r=>r
 |x::e,r=>jZ e (x::r)
inductive UP where
 |po (o:PO) (k:UP)
 |cl (f:FuncId) (a:List (Bool×List Nat)) (sh:Sh) (k:UP)
 |mk (f:FuncId) (b:Bool) (xs:List (Nat×Nat)) (j:Nat) (k:UP)
 |ite (x:Nat) (a b:UP)
 |jump (l:Nat) (xs:List Nat)
 |join (n:Nat) (rest k:UP)
 |loop (xs:List Nat) (body:UP)
 |ret (xs:List (Bool×List Nat))
 |sel (xs:List Nat) (k:UP)
abbrev UP.i(n:Int)(k:UP):UP:=.po (.k (.int .i64 n)) k
abbrev UP.f(k:UP):UP:=.po (.k (.bool false)) k
abbrev UP.t(k:UP):UP:=.po (.k (.bool true)) k
abbrev UP.s(a:Array UInt8)(k:UP):UP:=.po (.k (.string ⟨a⟩)) k
abbrev UP.c(n:Nat)(k:UP):UP:=.po (.sc n) k
abbrev UP.b(o:BinOp)(x y:Nat)(k:UP):UP:=.po (.bin o false x y) k
abbrev UP.e(x y:Nat)(k:UP):UP:=.po (.bin .eql false x y) k
abbrev UP.a(x y:Nat)(k:UP):UP:=.po (.bin .add false x y) k
abbrev UP.z(n:Nat)(k:UP):UP:=.po (.isI n) k
abbrev UP.x(a b c:Nat)(k:UP):UP:=.po (.idx a b c) k
abbrev UP.l(n:Nat)(k:UP):UP:=.po (.lenL n) k
abbrev UP.m(n:Nat)(k:UP):UP:=.po (.lenS n) k
abbrev UP.n(n:Nat)(k:UP):UP:=.po (.un .not n) k
abbrev UP.h(a b:Nat)(k:UP):UP:=.po (.chr a b) k
abbrev UP.r(n:Nat):UP:=.ret [(false,[n])]
abbrev aa(a b:Nat):Nat×SV:=(a,.p false [.d b])
abbrev al(a b c d:Nat):Nat×SV:=(a,.p false [.ptr b c d])
abbrev bi(a b c:Nat):Nat×SV:=(a,.p false [.own b c])
abbrev aD:Sh:=[(false,[none],true)]
abbrev bO:Sh:=[(false,[none],true),(false,[some (85,0)],true)]
abbrev cb:Sh:=[(true,[none,some (42,3),some (28,8),some (9,1),some (9,1),some (9,1),none,none],true)]
abbrev eO:Sh:=[(true,[none,none,none],true)]
abbrev fX:Sh:=[(true,[none,some (42,3),some (28,8),some (9,1),some (9,1),some (9,1),none,none],true),(false,[none],true)]
abbrev lx:Sh:=[(true,[none,some (42,3),some (28,8),some (9,1),some (9,1),some (9,1),none,none],true),(false,[some (85,0)],true)]
abbrev rV:Sh:=[(false,[some (3,1)],true),(false,[none],true)]
abbrev tK:Sh:=[(false,[some (9,1)],true)]
def V(P:Program)(R:List (Bool×List DV)->Prop):UP->Lbl->List DV->Prop
 |.po o k,L,ρ=>(match aA ρ o with|some out=>V P R k L (jZ out ρ)|none=>False)
 |.cl f a sh k,L,ρ=>∃ys res,dc ρ a=some ys/\ib P f ys res/\c9 sh res=true/\V P R k L (jZ (ca res) ρ)
 |.mk f b xs j k,L,ρ=>∃ds ds' n n',gL ρ (xs.map (·.1))=some ds/\ρ[j]? =some (.sc (.int .i64 n))/\FP P f b ds n ds' n'/\yN xs ds ds'/\V P R k L (jZ (ds'++[.sc (.int .i64 n')]) ρ)
 |.ite x a b,L,ρ=>(match ρ[x]? with|some (.sc (.bool c))=>(match c with|true=>V P R a L ρ|false=>V P R b L ρ)|_=>False)
 |.jump l xs,L,ρ=>∃J vs,L[l]? =some J/\gL ρ xs=some vs/\J vs
 |.join n rest k,L,ρ=>∃J:List DV->Prop,(∀vs,vs.length=n->J vs->V P R rest L (jZ vs ρ))/\V P R k (L++[J]) ρ
 |.loop xs body,L,ρ=>∃(I:List DV->Nat->Prop) (m:Nat) (vs:List DV),gL ρ xs=some vs/\I vs m/\∀vs m,vs.length=xs.length->I vs m->V P R body (L++[λvs'=>∃m',m'<m/\I vs' m']) (jZ vs ρ)
 |.ret xs,L,ρ=>∃vs,dc ρ xs=some vs/\R vs
 |.sel xs k,L,ρ=>(match gL ρ xs with|some vs=>V P R k L vs|none=>False)
def fk:List Nat->Nat->Option Nat
 |[],_=>none
 |j::r,i=>if j=i then some 0 else(match fk r i with|some p=>some (p+1)|none=>none)
theorem Fw:∀{μ:List Nat} {i p:Nat},fk μ i=some p->μ[p]? =some i
 |[],i,p,h=>by grind[fk]
 |j::r,i,p,h=>by
  simp[fk]at h;split at h
  ·grind
  ·split at h
   ·rename_i q hq;cases h;simpa using Fw hq
   grind
def Al(μ:List Nat)(ρ ρ':List DV):Prop:=∀(p i:Nat),μ[p]? =some i->ρ'[p]? =ρ[i]?
theorem Al.look{μ:List Nat}{ρ ρ':List DV}(h:Al μ ρ ρ'){i p:Nat}(hp:fk μ i=some p):ρ'[p]? =ρ[i]?:=h p i (Fw hp)
theorem Al.one{μ:List Nat}{ρ ρ':List DV}(h:Al μ ρ ρ')(hb:∀i∈μ,i<ρ.length)(x:DV):Al (ρ.length::μ) (ρ++[x]) (x::ρ'):=by
 intro p i hp
 cases p with
 |zero=>grind
 |succ p=>
  simp[List.getElem?_cons_succ]at hp ⊢;have:=hb i (List.mem_of_getElem? hp);rw[h p i hp,List.getElem?_append_left this]
theorem Al.many:∀{e:List DV} {μ:List Nat} {ρ ρ':List DV},Al μ ρ ρ'->(∀i∈μ,i<ρ.length)->Al (jZ (dW ρ.length e.length) μ) (ρ++e) (jZ e ρ')/\∀i∈jZ (dW ρ.length e.length) μ,i<(ρ++e).length
 |[],μ,ρ,ρ',h,hb=>by simpa[jZ,dW]using⟨h,hb⟩
 |x::e,μ,ρ,ρ',h,hb=>by
  have h1:=h.one hb x
  have h2:∀i∈ρ.length::μ,i<(ρ++[x]).length:=by
   grind
  have:=Al.many (e:=e) h1 h2;simpa[jZ,dW]using this
def pO(μ:List Nat):Option Nat->Option (Option Nat)
 |none=>some none
 |some i=>(match fk μ i with|some p=>some (some p)|none=>none)
def pL(μ:List Nat):List Nat->Option (List Nat)
 |[]=>some []
 |i::r=>(match fk μ i,pL μ r with|some p,some q=>some (p::q)|_,_=>none)
def TR(μ:List Nat):List (List Nat)->Option (List (List Nat))
 |[]=>some []
 |i::r=>(match pL μ i,TR μ r with|some p,some q=>some (p::q)|_,_=>none)
def pA(μ:List Nat):List (Bool×List Nat)->Option (List (Bool×List Nat))
 |[]=>some []
 |(b,i)::r=>(match pL μ i,pA μ r with|some p,some q=>some ((b,p)::q)|_,_=>none)
section
variable {μ:List Nat}{ρ ρ':List DV}
theorem RQ(h:Al μ ρ ρ'){i p:Nat}(hp:fk μ i=some p):gI ρ' p=gI ρ i:=by unfold gI;rw[h.look hp]
theorem t8(h:Al μ ρ ρ'){i p:Option Nat}(hp:pO μ i=some p):zA ρ' p=zA ρ i:=by
 cases i with
 |none=>simp[pO]at hp;cases hp;rfl
 |some i=>
  grind[pO,zA,RQ]
theorem p7(h:Al μ ρ ρ'):∀{is ps:List Nat},pL μ is=some ps->gL ρ' ps=gL ρ is
 |[],ps,hp=>by simp[pL]at hp;cases hp;rfl
 |i::is,ps,hp=>by
  simp[pL]at hp;split at hp
  ·rename_i p q h1 h2;cases hp;simp[gL,h.look h1,p7 h h2]
  grind
theorem Jz(h:Al μ ρ ρ'):∀{is ps:List (List Nat)},TR μ is=some ps->CZ ρ' ps=CZ ρ is
 |[],ps,hp=>by simp[TR]at hp;cases hp;rfl
 |i::is,ps,hp=>by
  simp[TR]at hp;split at hp
  ·rename_i p q h1 h2;cases hp;simp[CZ,p7 h h1,Jz h h2]
  grind
theorem xD(h:Al μ ρ ρ'):∀{is ps:List (Bool×List Nat)},pA μ is=some ps->dc ρ' ps=dc ρ is
 |[],ps,hp=>by simp[pA]at hp;cases hp;rfl
 |(b,i)::is,ps,hp=>by
  simp[pA]at hp;split at hp
  ·rename_i p q h1 h2;cases hp;simp[dc,p7 h h1,xD h h2]
  grind
end
def P7(μ:List Nat):PO->Option PO
 |.k v=>some (.k v)
 |.e t k=>some (.e t k)
 |.sc x=>(match fk μ x with|some x=>some (.sc x)|none=>none)
 |.isI x=>(match fk μ x with|some x=>some (.isI x)|none=>none)
 |.flat x=>(match fk μ x with|some x=>some (.flat x)|none=>none)
 |.isL t k x=>(match fk μ x with|some x=>some (.isL t k x)|none=>none)
 |.bin op b x y=>(match fk μ x,fk μ y with|some x,some y=>some (.bin op b x y)|_,_=>none)
 |.un op x=>(match fk μ x with|some x=>some (.un op x)|none=>none)
 |.cvI k x=>(match fk μ x with|some x=>some (.cvI k x)|none=>none)
 |.cvS x=>(match fk μ x with|some x=>some (.cvS x)|none=>none)
 |.cvB x=>(match fk μ x with|some x=>some (.cvB x)|none=>none)
 |.lenS x=>(match fk μ x with|some x=>some (.lenS x)|none=>none)
 |.lenL x=>(match fk μ x with|some x=>some (.lenL x)|none=>none)
 |.chr x i=>(match fk μ x,fk μ i with|some x,some i=>some (.chr x i)|_,_=>none)
 |.idx k x i=>(match fk μ x,fk μ i with|some x,some i=>some (.idx k x i)|_,_=>none)
 |.chk k x i=>(match fk μ x,fk μ i with|some x,some i=>some (.chk k x i)|_,_=>none)
 |.cutS x lo hi=>(match fk μ x,pO μ lo,pO μ hi with|some x,some lo,some hi=>some (.cutS x lo hi)|_,_,_=>none)
 |.cutL k x lo hi=>(match fk μ x,pO μ lo,pO μ hi with|some x,some lo,some hi=>some (.cutL k x lo hi)|_,_,_=>none)
 |.app el k b x y=>(match fk μ x,fk μ y with|some x,some y=>some (.app el k b x y)|_,_=>none)
 |.mk el k rows=>(match TR μ rows with|some r=>some (.mk el k r)|none=>none)
 |.make el k b z n=>(match fk μ n with|some n=>some (.make el k b z n)|none=>none)
 |.set k x j off vs=>(match fk μ x,fk μ j,pL μ vs with|some x,some j,some vs=>some (.set k x j off vs)|_,_,_=>none)
 |.mm mx x y=>(match fk μ x,fk μ y with|some x,some y=>some (.mm mx x y)|_,_=>none)
 |.eqS neg ks xs ys=>(match pL μ xs,pL μ ys with|some xs,some ys=>some (.eqS neg ks xs ys)|_,_=>none)
 |.cutI x lo hi=>(match fk μ x,pO μ lo,pO μ hi with|some x,some lo,some hi=>some (.cutI x lo hi)|_,_,_=>none)
 |.cutJ z m lo hi=>(match fk μ z,fk μ m,pO μ lo,pO μ hi with|some z,some m,some lo,some hi=>some (.cutJ z m lo hi)|_,_,_,_=>none)
 |.atJ z m i=>(match fk μ z,fk μ m,fk μ i with|some z,some m,some i=>some (.atJ z m i)|_,_,_=>none)
 |.viewD x z m=>(match fk μ x,fk μ z,fk μ m with|some x,some z,some m=>some (.viewD x z m)|_,_,_=>none)
 |.cutP x z m=>(match fk μ x,fk μ z,fk μ m with|some x,some z,some m=>some (.cutP x z m)|_,_,_=>none)
 |.emp x=>(match fk μ x with|some x=>some (.emp x)|none=>none)
 |.unc z n=>(match fk μ z with|some z=>some (.unc z n)|none=>none)
 |.cuS z off v=>(match fk μ z,fk μ v with|some z,some v=>some (.cuS z off v)|_,_=>none)
 |.stop k=>some (.stop k)
 |.cpy k x lo n lo' n'=>(match fk μ x,fk μ lo,fk μ n,fk μ lo',fk μ n' with|some x,some lo,some n,some lo',some n'=>some (.cpy k x lo n lo' n')|_,_,_,_,_=>none)
def M5:PO->Nat
 |.sc _|.isI _|.flat _|.isL _ _ _|.chk _ _ _=>0
 |.idx k _ _=>k
 |.cutI _ _ _|.cutJ _ _ _ _|.cpy _ _ _ _ _ _=>2
 |.unc _ n|.stop n=>n
 |_=>1
theorem L9{μ:List Nat}{ρ ρ':List DV}(h:Al μ ρ ρ'){o o':PO}(ho:P7 μ o=some o'):aA ρ' o'=aA ρ o:=by
 cases o<;>simp[P7]at ho
 all_goals first
  |(cases ho;rfl)
  |(split at ho
    ·cases ho;rename_i h1 h2 h3;simp[aA,h.look h1,h.look h2,t8 h h2,t8 h h3,p7 h h3]
    ·cases ho)
  |(split at ho
    ·cases ho;rename_i h1 h2 h3;simp[aA,h.look h1,t8 h h2,t8 h h3]
    ·cases ho)
  |(split at ho
    ·cases ho;rename_i h1 h2 h3;simp[aA,h.look h1,h.look h2,p7 h h3]
    ·cases ho)
  |(split at ho
    ·cases ho;rename_i h1 h2 h3;simp[aA,h.look h1,h.look h2,h.look h3]
    ·cases ho)
  |(split at ho
    ·cases ho;rename_i h1 h2 h3 h4;simp[aA,h.look h1,h.look h2,t8 h h3,t8 h h4]
    ·cases ho)
  |(split at ho
    ·cases ho;rename_i h1 h2;simp[aA,h.look h1,h.look h2]
    ·cases ho)
  |(split at ho
    ·cases ho;rename_i h1 h2;simp[aA,p7 h h1,p7 h h2]
    ·cases ho)
  |(split at ho
    ·cases ho;rename_i h1;simp[aA,h.look h1]
    ·cases ho)
  |(split at ho
    ·cases ho;rename_i h1;simp[aA,Jz h h1]
    ·cases ho)
  |(split at ho
    ·cases ho;rename_i h1 h2 h3 h4 h5;simp[aA,h.look h1,h.look h2,h.look h3,h.look h4,h.look h5]
    ·cases ho)
theorem Hd{ρ:List DV}{o:PO}{out:List DV}(h:aA ρ o=some out):out.length=M5 o:=by
 cases o with
 |idx k x i=>obtain⟨t,es,kd,z,h1,h2,h3,h4,h5⟩:=rW h;exact h5
 |unc z n=>
  grind[aA,M5]
 |_=>
  simp only[aA]at h
  repeat' split at h
  all_goals first
   |(cases h;rfl)
   |(cases h;done)
   |(unfold t6 at h;split at h<;>first|(cases h;rfl)|cases h)
def yk(i:Nat):Nat:=1 <<< i
def Ip:List Nat->Nat
 |[]=>0
 |i::r=>yk i ||| Ip r
def T9:Option Nat->Nat
 |none=>0
 |some i=>yk i
def TO:List (List Nat)->Nat
 |[]=>0
 |i::r=>Ip i ||| TO r
def TW:List (Bool×List Nat)->Nat
 |[]=>0
 |(_,i)::r=>Ip i ||| TW r
def Vp:PO->Nat
 |.k _|.e _ _|.stop _=>0
 |.cpy _ x lo n lo' n'=>yk x ||| (yk lo ||| (yk n ||| (yk lo' ||| yk n')))
 |.sc x|.isI x|.flat x|.isL _ _ x|.un _ x|.cvI _ x|.cvS x|.cvB x|.lenS x|.lenL x|.make _ _ _ _ x|.emp x|.unc x _=>yk x
 |.cuS x _ y=>yk x ||| yk y
 |.bin _ _ x y|.chr x y|.idx _ x y|.chk _ x y|.app _ _ _ x y|.mm _ x y=>yk x ||| yk y
 |.cutS x lo hi|.cutL _ x lo hi|.cutI x lo hi=>yk x ||| (T9 lo ||| T9 hi)
 |.cutJ z m lo hi=>yk z ||| (yk m ||| (T9 lo ||| T9 hi))
 |.atJ x y z|.viewD x y z|.cutP x y z=>yk x ||| (yk y ||| yk z)
 |.mk _ _ rows=>TO rows
 |.set _ x j _ vs=>yk x ||| (yk j ||| Ip vs)
 |.eqS _ _ xs ys=>Ip xs ||| Ip ys
def fv:Pg->Nat
 |.nd (.po o) k=>Vp o ||| fv k
 |.nd (.call _ a _) k=>TW a ||| fv k
 |.nd (.mark _ _ xs j) k=>Ip (xs.map (·.1)) ||| (yk j ||| fv k)
 |.ite x a b=>yk x ||| (fv a ||| fv b)
 |.jump _ xs=>Ip xs
 |.join _ rest k=>fv rest ||| fv k
 |.loop xs body=>Ip xs ||| fv body
 |.ret xs=>TW xs
def keep(msk:Nat):List Nat->Nat->List Nat×List Nat
 |[],_=>([],[])
 |i::r,p=>if(msk >>> i) % 2=1 then(p::(keep msk r (p+1)).1,i::(keep msk r (p+1)).2)else keep msk r (p+1)
theorem FT{msk:Nat}{μ0:List Nat}:∀{μ pre:List Nat},μ0=pre++μ->∀(j:Nat) (i:Nat),(keep msk μ pre.length).2[j]? =some i->∃p,(keep msk μ pre.length).1[j]? =some p/\μ0[p]? =some i
 |[],pre,h,j,i,hi=>by grind[keep]
 |x::μ,pre,h,j,i,hi=>by
  have hr:=FT (msk:=msk) (μ0:=μ0) (μ:=μ) (pre:=pre++[x]) (by simp[h])
  grind[keep]
def Ro(msk:Nat)(μ:List Nat)(f:List Nat->Option UP):Option UP:=
 if(keep msk μ 0).2.length+3<μ.length then(match f (keep msk μ 0).2 with|some k=>some (.sel (keep msk μ 0).1 k)|none=>none)else f μ
def cv:Pg->Nat->List Nat->Option UP
 |.nd (.po o) k,m,μ=>(match P7 μ o,cv k (m+M5 o) (jZ (dW m (M5 o)) μ)with|some o,some k=>some (.po o k)|_,_=>none)
 |.nd (.call f a sh) k,m,μ=>Ro (TW a ||| fv k) μ λμ=>(match pA μ a,cv k (m+dI sh) (jZ (dW m (dI sh)) μ)with|some a,some k=>some (.cl f a sh k)|_,_=>none)
 |.nd (.mark f b xs j) k,m,μ=>Ro (Ip (xs.map (·.1)) ||| (yk j ||| fv k)) μ λμ=>(match pL μ (xs.map (·.1)),fk μ j,cv k (m+(xs.length+1)) (jZ (dW m (xs.length+1)) μ)with|some ys,some j,some k=>some (.mk f b (ys.zip (xs.map (·.2))) j k)|_,_,_=>none)
 |.ite x a b,m,μ=>(match fk μ x,cv a m μ,cv b m μ with|some x,some a,some b=>some (.ite x a b)|_,_,_=>none)
 |.jump l xs,m,μ=>(match pL μ xs with|some xs=>some (.jump l xs)|none=>none)
 |.join n rest k,m,μ=>Ro (fv rest ||| fv k) μ λμ=>(match cv rest (m+n) (jZ (dW m n) μ),cv k m μ with|some rest,some k=>some (.join n rest k)|_,_=>none)
 |.loop xs body,m,μ=>Ro (Ip xs ||| fv body) μ λμ=>(match pL μ xs,cv body (m+xs.length) (jZ (dW m xs.length) μ)with|some xs,some body=>some (.loop xs body)|_,_=>none)
 |.ret xs,m,μ=>(match pA μ xs with|some xs=>some (.ret xs)|none=>none)
section
variable {P:Program}{R:List (Bool×List DV)->Prop}
theorem Al.keep{μ:List Nat}{ρ ρ' vs:List DV}{msk:Nat}(h:Al μ ρ ρ')(hb:∀i∈μ,i<ρ.length)(hv:gL ρ' (keep msk μ 0).1=some vs):Al (keep msk μ 0).2 ρ vs/\∀i∈(keep msk μ 0).2,i<ρ.length:=by
 have hk:=FT (msk:=msk) (μ0:=μ) (μ:=μ) (pre:=[]) rfl;simp[List.length_nil]at hk;refine⟨λj i hi=>?_,λi hi=>?_⟩
 ·obtain⟨p,h1,h2⟩:=hk j i hi;obtain⟨x,x1,x2⟩:=(Fq hv).at h1;rw[x1,<-h p i h2,x2]
 ·obtain⟨j,hj⟩:=List.getElem?_of_mem hi;obtain⟨p,h1,h2⟩:=hk j i hj;exact hb i (List.mem_of_getElem? h2)
theorem A8{msk:Nat}{μ:List Nat}{f:List Nat->Option UP}{up:UP}{L:Lbl}{ρ ρ':List DV}{Z:Prop}(h:Ro msk μ f=some up)(ha:Al μ ρ ρ')(hb:∀i∈μ,i<ρ.length)(hv:V P R up L ρ')
 (hk:∀μ up ρ',f μ=some up->Al μ ρ ρ'->(∀i∈μ,i<ρ.length)->V P R up L ρ'->Z):Z:=by
 unfold Ro at h;split at h
 ·split at h
  ·rename_i k hf;cases h;simp[V]at hv;split at hv
   ·rename_i vs hg;obtain⟨h1,h2⟩:=ha.keep hb hg
    grind
   grind
  grind
 grind
theorem Et{μ:List Nat}:∀{is ps:List Nat},pL μ is=some ps->ps.length=is.length
 |[],ps,hp=>by grind[pL]
 |i::is,ps,hp=>by
  simp[pL]at hp;split at hp
  ·rename_i p q h1 h2;cases hp;simp[Et h2]
  grind
theorem l4:∀{xs ys:List (Nat×Nat)} {ds ds':List DV},xs.map (·.2)=ys.map (·.2)->yN xs ds ds'->yN ys ds ds'
 |[],[],[],[],_,_=>trivial
 |(a,b)::xs,(c,d)::ys,ds,ds',h,hm=>by
  simp[List.map_cons,List.cons.injEq]at h;obtain⟨rfl,h⟩:=h
  match b,ds,ds',hm with
  |0,d::ds,d'::ds',hm=>exact⟨hm.1,l4 h hm.2⟩
  |1,d::ds,d'::ds',hm=>exact⟨hm.1,l4 h hm.2⟩
  |2,d::ds,d'::ds',hm=>exact l4 (ds:=ds) (ds':=ds') h hm
 |[],_::_,_,_,h,_=>by grind
 |_::_,[],_,_,h,_=>by grind
theorem s8:∀{xs:List (Nat×Nat)} {ds ds':List DV},yN xs ds ds'->ds'.length=xs.length
 |[],[],[],_=>rfl
 |(a,0)::xs,d::ds,d'::ds',hm=>by simp[s8 hm.2]
 |(a,1)::xs,d::ds,d'::ds',hm=>by simp[s8 hm.2]
 |(a,2)::xs,d::ds,d'::ds',hm=>by simp[s8 (ds:=ds) (show yN xs ds ds' from hm)]
theorem F9:∀(pg:Pg) {m:Nat} {μ:List Nat} {up:UP} {L:Lbl} {ρ ρ':List DV},cv pg m μ=some up->m=ρ.length->Al μ ρ ρ'->(∀i∈μ,i<ρ.length)->V P R up L ρ'->W P R pg L ρ:=by
 intro pg
 induction pg with
 |nd n k ih=>
  intro m μ up L ρ ρ' h hm ha hb hv;subst hm
  cases n with
  |po o=>
   simp[cv]at h;split at h
   ·rename_i o' k' h1 h2;cases h;simp[V]at hv;rw[L9 ha h1]at hv;simp[W];split at hv
    ·rename_i out ho
     try rw[ho]
     have hl:=Hd ho;obtain⟨a1,a2⟩:=ha.many (e:=out) hb;rw[hl]at a1 a2
     grind
    assumption
   grind
  |call f a sh=>
   simp[cv]at h;refine A8 h ha hb hv ?_;intro μ up ρ' h ha hb hv;split at h
   ·rename_i a' k' h1 h2;cases h;simp only[V]at hv;obtain⟨ys,res,v1,v2,v3,v4⟩:=hv;rw[xD ha h1]at v1;simp[W];have hl:=eL v3;obtain⟨a1,a2⟩:=ha.many (e:=ca res) hb;rw[hl]at a1 a2
    grind
   grind
  |mark f b xs j=>
   simp[cv]at h;refine A8 h ha hb hv ?_;intro μ up ρ' h ha hb hv;split at h
   ·rename_i ys j' k' h1 h3 h2;cases h;simp only[V]at hv;obtain⟨ds,ds',n,n',v1,v2,v3,v4,v5⟩:=hv;have hyl:=Et h1;rw[List.length_map]at hyl
    have e1:(ys.zip (xs.map (·.2))).map (·.1)=ys:=by rw[List.map_fst_zip (by grind)]
    have e2:(ys.zip (xs.map (·.2))).map (·.2)=xs.map (·.2):=by rw[List.map_snd_zip (by grind)]
    rw[e1,p7 ha h1]at v1;rw[ha.look h3]at v2;have v4':=l4 e2 v4;have hl:=s8 v4';simp only[W];obtain⟨a1,a2⟩:=ha.many (e:=ds'++[.sc (.int .i64 n')]) hb;have hl2:(ds'++[DV.sc (.int .i64 n')]).length=xs.length+1:=by grind
    rw[hl2]at a1 a2;exact⟨ds,ds',n,n',v1,v2,v3,v4',ih h2 (by rw[List.length_append,hl2]) a1 a2 v5⟩
   grind
 |ite x a b iha ihb=>
  intro m μ up L ρ ρ' h hm ha hb hv;simp[cv]at h;split at h
  ·rename_i x' a' b' h1 h2 h3;cases h;simp[V]at hv;simp[W];rw[ha.look h1]at hv
   grind
  grind
 |jump l xs=>
  intro m μ up L ρ ρ' h hm ha hb hv;simp[cv]at h;split at h
  ·rename_i ys h1;cases h;simp only[V,p7 ha h1]at hv;exact hv
  grind
 |join n rest k ihr ihk=>
  intro m μ up L ρ ρ' h hm ha hb hv;subst hm;simp[cv]at h;refine A8 h ha hb hv ?_;intro μ up ρ' h ha hb hv;split at h
  ·rename_i r' k' h1 h2;cases h;simp[V]at hv;obtain⟨J,j1,j2⟩:=hv;refine⟨J,λvs hl hJ=>?_,ihk h2 rfl ha hb j2⟩;obtain⟨a1,a2⟩:=ha.many (e:=vs) hb;rw[hl]at a1 a2
   grind
  grind
 |loop xs body ih=>
  intro m μ up L ρ ρ' h hm ha hb hv;subst hm;simp[cv]at h;refine A8 h ha hb hv ?_;intro μ up ρ' h ha hb hv;split at h
  ·rename_i ys b' h1 h2;cases h;simp[V]at hv;obtain⟨I,m,vs,v1,v2,v3⟩:=hv;rw[p7 ha h1]at v1;refine⟨I,m,vs,v1,v2,λvs m hl hI=>?_⟩;obtain⟨a1,a2⟩:=ha.many (e:=vs) hb;rw[hl]at a1 a2
   grind[Et]
  grind
 |ret xs=>
  intro m μ up L ρ ρ' h hm ha hb hv;simp[cv]at h;split at h
  ·rename_i ys h1;cases h;simp[V,xD ha h1]at hv;exact hv
  grind
def Qc(P:Program)(N:Nat)(ow:fM)(hs:List aP)(dn:List (Nat×Nat×Bool×List Nat))(c:Code)(sh:List (Bool×Nat))(rvs:List ResultVar)(ty:List (List (Option (Nat×Nat)))):Option UP:=
 match Cc P N ow hs (Cp P N ow dn) c 0 (qN sh) (DE P rvs ty)with
 |some pg=>cv pg ((sh.map (·.2)).sum) (jZ (dW 0 ((sh.map (·.2)).sum)) [])
 |none=>none
theorem o4(args:List (Bool×List DV)):((Bp args).map (·.2)).sum=(d5 args).length:=by
 induction args with
 |nil=>rfl
 |cons a r ih=>grind[Bp,d5,List.length_append]
theorem Jv{ow:fM}{hs:List aP}{dn:List (Nat×Nat×Bool×List Nat)}{f:FuncId}{fn:Func}{c:Code}{args:List (Bool×List DV)}{res:List Rs}{ty:List (List (Option (Nat×Nat)))}{sh:List (Bool×Nat)}{up:UP}{N:Nat}{rvs:List ResultVar}
 (hf:P.funcs[f]? =some fn) (hb:fn.body=some c) (hc:a9 P f=true) (hN:fn.ntmps=N) (hrv:fn.results.toList=rvs)
 (hg:Qc P N ow hs dn c sh rvs ty=some up) (hl:sh.length<=N) (hsh:Bp args=sh) (hw:V P (mW res) up [] (jZ (d5 args) [])):aI P f args res:=by
 subst hN hrv hsh;unfold Qc at hg;split at hg
 ·rename_i pg hp;have hlen:args.length<=fn.ntmps:=by grind[Bp]
  refine IE tE hf hb hc hlen rfl hp ?_;rw[o4]at hg;obtain⟨a1,a2⟩:=Al.many (e:=d5 args) (μ:=[]) (ρ:=[]) (ρ':=[]) (λp i h=>by rfl) (by simp)
  grind[F9]
 grind
end
section
variable {P:Program}
def Ov(P:Program)(fn:Func):List (Bool×Nat):=fn.params.toList.map λt=>((cm P t).getD false,(C0 P 9 t).length)
def aR(P:Program)(f:FuncId)(fn:Func)(ow:fM)(hs:List aP)(dn:List (Nat×Nat×Bool×List Nat)):Option (List (Bool×Nat)×UP):=
 match fn.body with
 |some c=>if a9 P f&&decide (fn.params.toList.length<=fn.ntmps)then(match Qc P fn.ntmps ow hs dn c (Ov P fn) fn.results.toList (fn.resultTypes.toList.map (C0 P 9))with|some up=>some (Ov P fn,up)|none=>none)else none
 |none=>none
theorem ah{ow:fM}{hs:List aP}{dn:List (Nat×Nat×Bool×List Nat)}{f:FuncId}{fn:Func}{args:List (Bool×List DV)}{res:List Rs}{sh:List (Bool×Nat)}{up:UP}
 (hf:P.funcs[f]? =some fn) (hg:aR P f fn ow hs dn=some (sh,up)) (hsh:Bp args=sh) (hw:V P (mW res) up [] (jZ (d5 args) [])):aI P f args res:=by
 unfold aR at hg;split at hg
 ·rename_i c hc;split at hg
  ·rename_i hb;rw[Bool.and_eq_true,decide_eq_true_eq]at hb;split at hg
   ·rename_i up' hu;cases hg;exact Jv hf hc hb.1 rfl rfl hu (by grind[Ov]) hsh hw
   grind
  grind
 grind
end
end Go.Proofs.Ytgdbmcoamemmaaa
namespace Go.Proofs.Ytgdbmcoamemmaaa
open Go.RowKit
section
variable {P:Program}{ρ ρ':List DV}{σ:List Nat}{S S':Sy}{s s0:AS}{ps:List PO}
end
section
variable {P:Program}
def SG(P:Program)(ts:List TypeId):List (Bool×Nat):=ts.map λt=>((cm P t).getD false,(C0 P 9 t).length)
def xu:List (Bool×List SC)->Nat->List (Nat×SV)
 |[],_=>[]
 |(b,cs)::r,i=>(i,.p b cs)::xu r (i+1)
theorem Ac:∀{l:List (Bool×List SC)} {i t:Nat} {x:SV},aK (xu l i) t=some x->∃b cs,i<=t/\l[t-i]? =some (b,cs)/\x=.p b cs
 |[],i,t,x,h=>by grind[xu,aK]
 |(b,cs)::r,i,t,x,h=>by
  simp only[xu,aK]at h;split at h
  ·grind
  ·obtain⟨b',cs',h1,h2,h3⟩:=Ac h
   grind
def Rn(sh:Sh):Sy:=⟨[],[],0,0,dI sh,[]⟩
def Gn(sh:Sh):Sy:={ (iG false sh 0 (Rn sh)).2 with sl:=xu (iG false sh 0 (Rn sh)).1 0}
theorem Od{ρ:List DV}{σ:List Nat}:∀{xs:List (Bool×List SC)} {ys:List (Bool×List AC)} {t:Nat} {b:Bool} {cs:List SC},RT ρ σ xs ys->xs[t]? =some (b,cs)->∃zs,ys[t]? =some (b,zs)/\cQ ρ σ cs zs
 |[],_,t,b,cs,_,h=>by grind
 |(b',cs')::xs,[],t,b,cs,h,_=>h.elim
 |(b',cs')::xs,(b2,zs)::ys,0,b,cs,h,hx=>by
  simp at hx;obtain⟨rfl,rfl⟩:=hx;obtain⟨⟨h1,h2⟩,-⟩:=h;have h1:b2=b':=h1
  grind
 |(b',cs')::xs,(b2,zs)::ys,t+1,b,cs,h,hx=>by
  obtain⟨-,h3⟩:=h;obtain⟨zs',k1,k2⟩:=Od h3 (by simpa using hx)
  grind
theorem GC{args:List Rs}{sh:Sh}(h:c9 sh args=true):∃σ,aN (Gn sh) (ca args) σ (F4 args):=by
 have h0:aN (Rn sh) (ca args) [] (iA []):=⟨rfl,rfl,eL h,λt x hx=>by grind[Rn,aK],λi x hx=>by grind[Rn,aK],λi x hx=>by grind[Rn,aK]⟩;obtain⟨σ,-,k1,k2⟩:=jv (X:=false) (m:=0) h (eQ (ρ:=[]) rfl rfl) h0;refine⟨σ,k1.n,k1.c,k1.m,λt x hx=>?_,k1.ob,k1.kn⟩;obtain⟨b,cs,-,h1,rfl⟩:=Ac hx;obtain⟨zs,h2,h3⟩:=Od k2 h1;have h2':(iQ args 0 0)[t]? =some (b,zs):=h2;simp only[F4,h2'];exact⟨rfl,h3⟩
theorem Km:∀{sh:Sh} {rs:List Rs},c9 sh rs=true->rs.length=sh.length
 |[],[],_=>rfl
 |[],_::_,h=>by grind[c9]
 |_::_,[],h=>by grind[c9]
 |a::sh,r::rs,h=>by
  simp only[c9,Bool.and_eq_true]at h;simp[Km h.2.2]
def nO(P:Program)(f:FuncId)(fn:Func)(ow:fM)(hs:List aP)(dn:List (Nat×Nat×Bool×List Nat))(sh:Sh):Option UP:=
 match fn.body with
 |some c=>if a9 P f&&decide (sh.length<=fn.ntmps)then(match Cc P fn.ntmps ow hs (Cp P fn.ntmps ow dn) c 0 (Gn sh) (DE P fn.results.toList (fn.resultTypes.toList.map (C0 P 9)))with
  |some pg=>cv pg (dI sh) (jZ (dW 0 (dI sh)) [])
  |none=>none)else none
 |none=>none
theorem dt{ow:fM}{hs:List aP}{dn:List (Nat×Nat×Bool×List Nat)}{f:FuncId}{fn:Func}{args res:List Rs}{sh:Sh}{up:UP}
 (hf:P.funcs[f]? =some fn) (hg:nO P f fn ow hs dn sh=some up) (hsh:c9 sh args=true) (hdp:∀r∈res,r.2.2=true) (hw:V P (mW res) up [] (jZ (ca args) [])):fI P f args res:=by
 unfold nO at hg;split at hg
 ·rename_i c hc;split at hg
  ·rename_i hb;rw[Bool.and_eq_true,decide_eq_true_eq]at hb;split at hg
   ·rename_i pg hp';obtain⟨σ,hrel⟩:=GC hsh;refine ER hf hc hb.1 (by rw[Km hsh];omega) hdp (BO (L:=[]) tE c hp' rfl hrel DI ?_);obtain⟨a1,a2⟩:=Al.many (e:=ca args) (μ:=[]) (ρ:=[]) (ρ':=[]) (λp i h=>by rfl) (by simp);rw[eL hsh]at a1 a2
    grind[List.length_nil,F9,eL]
   grind
  grind
 grind
end
end Go.Proofs.Ytgdbmcoamemmaaa
namespace Go.Proofs.Ytgdbmcoamemmaaa
open Go.RowKit
section
variable {P:Program}{ρ ρ':List DV}{σ:List Nat}{S S':Sy}{s s0:AS}{ps:List PO}
def Az:List (Bool×List SC)->List (List (Option (Nat×Nat)))->Sy->Option (List PO×List (Bool×List Nat)×Sy)
 |[],_,S=>some ([],[],S)
 |(b,cs)::r,ty,S=>(match cW cs (ty.headD []) S with
  |some (p,xs,S1)=>(match Az r ty.tail S1 with|some (q,l,S2)=>some (p++q,(b,xs)::l,S2)|none=>none)
  |none=>none)
def SY(t:TypeId)(st z:Nat)(S:Sy)(p:Nat×SO):Bool:=match S.own p.1 st with|some (.cur _ true t' z')=>decide (t'=t/\z'=z/\st<S.c)|_=>false
def FY(t:TypeId)(S:Sy):Option (Nat×Nat×Nat):=S.ob.findSome? λp=>match p.2 with
 |.cur st true _ z=>if SY t st z S p then some (p.1,st,z)else none
 |_=>none
theorem Lk{t:TypeId}{i st z:Nat}(h:FY t S=some (i,st,z))(hr:aN S ρ σ s):∃st' x cs,s.own? i st'=some (.cur st' true t x cs)/\ρ[z]? =some (iP t x cs):=by
 unfold FY at h;obtain⟨l1,p,l2,-,h,-⟩:=List.findSome?_eq_some_iff.1 h;split at h
 ·rename_i st0 t0 z0 hp;split at h
  ·rename_i hc;injection h with h;injection h with e1 h;injection h with e2 e3;subst e1 e2 e3;unfold SY at hc;split at hc
   ·rename_i a t' z' ho;obtain⟨rfl,rfl,hlt⟩:=of_decide_eq_true hc;have hs:∃st',σ[st0]? =some st':=⟨_,List.getElem?_eq_getElem (by rw[hr.c];omega)⟩;obtain⟨st',hs⟩:=hs;obtain⟨o',k1,k2,-,-⟩:=hr.own ho hs;cases o'<;>first|exact k2.elim|skip
    rename_i b id ty x cs;obtain⟨k5,rfl,rfl,k6⟩:=k2;obtain rfl:=bh k1 rfl
    grind
   grind
  grind
 grind
theorem DO{K:AS->Prop}:∀{xs:List (Bool×List SC)} {ty:List (List (Option (Nat×Nat)))} {l:List (Bool×List Nat)} {S S':Sy} {ps:List PO} {ρ ρ':List DV} {s:AS} {rvs:List ResultVar} {ys:List (Bool×List AC)},
 Az xs ty S=some (ps,l,S')->ax ps ρ=some ρ'->aN S ρ σ s->T6 P s0 rvs ys->RT ρ σ xs ys->(∀s',aN S' ρ' σ s'->K s')->∃ds,dc ρ' l=some ds/\qb P s0 K rvs (ds.map λd=>(d.1,d.2,true)) s
 |[],ty,l,S,S',ps,ρ,ρ',s,rvs,ys,h,he,hr,hv,ht,hk=>by
  simp only[Az]at h;injection h with h;injection h with e1 h;injection h with e2 e3;subst e1 e2 e3;simp only[ax]at he;injection he with he;subst he
  match ys,ht with
  |[],_=>
   cases rvs with
   |nil=>exact⟨[],rfl,hk s hr⟩
   |cons=>exact hv.elim
 |(b,cs)::r,ty,l,S,S',ps,ρ,ρ',s,rvs,ys,h,he,hr,hv,ht,hk=>by
  simp only[Az]at h;split at h
  ·rename_i p xs S1 h1;split at h
   ·rename_i q l' S2 h2;injection h with h;injection h with e1 h;injection h with e2 e3;subst e1 e2 e3
    match ys,rvs,ht,hv with
    |y::ys,rv::rvs,ht,hv=>
     obtain⟨ρ1,a1,a2⟩:=ak he;obtain⟨s1,ds,g1,g2,g3,-⟩:=eK h1 a1 hr ht.1.2;obtain⟨dss,d1,d2⟩:=DO h2 a2 g3 hv.2 (RT.mono (ao a1) (aQ.refl _) ht.2) hk;refine⟨(b,ds)::dss,by simp only[dc,g2.app_pre (ao a2),d1],?_⟩;simp only[List.map_cons,qb];refine⟨trivial,?_⟩;rw[hv.1];exact⟨ht.1.1,s1,g1,d2⟩
   grind
  grind
def Ec(P:Program)(t:TypeId)(rvs:List ResultVar)(ty:List (List (Option (Nat×Nat)))):Kt:=λ_ e S=>
 match e with
 |.normal|.ret=>(match Cr P rvs S with
  |some (p,xs,S1)=>(match Az xs ty S1 with
   |some (q,l,S2)=>(match FY t S2 with|some (_,_,z)=>some (dE ((p++q).map .po) (.ret ((false,[z])::l)))|none=>none)
   |none=>none)
  |none=>none)
 |_=>none
def Uc(t:TypeId)(res:List Rs)(cs':List DV)(vs:List (Bool×List DV)):Prop:=∃x ds,vs=(false,[iP t x cs'])::ds/\(ds.map λd=>(d.1,d.2,true))=res
theorem G6{t:TypeId}{rvs:List ResultVar}{ty:List (List (Option (Nat×Nat)))}{res:List Rs}{cs':List DV}{L:Lbl}:B8 P (Uc t res cs') L ρ (NQ P rvs res t cs') (Ec P t rvs ty):=by
 intro L' ρ1 hL hp e S pg hpg σ s hr hw
 have key:∀p xs S1 q l S2 i st z,Cr P rvs S=some (p,xs,S1)->Az xs ty S1=some (q,l,S2)->FY t S2=some (i,st,z)->pg=dE ((p++q).map .po) (.ret ((false,[z])::l))->qb P s (MA t cs') rvs res s:=by
  intro p xs S1 q l S2 i st z h1 h2 h3 e;subst e;obtain⟨ρ2,he,hw2,-⟩:=bN (gK hw);simp only[W]at hw2;obtain⟨vs,w1,x,ds0,rfl,w2⟩:=hw2;obtain⟨ρ3,a1,a2⟩:=ak he;obtain⟨ys,y1,y2,y3⟩:=BS h1 a1 hr
  obtain⟨ds,d1,d2⟩:=DO (P:=P) (s0:=s) (K:=λs'=>∃i st x cs,s'.own? i st=some (.cur st true t x cs)/\ρ2[z]? =some (iP t x cs)) h2 a2 y3 y1 y2 (λs' hr'=>by
   grind[Lk])
  simp only[dc,gL,d1]at w1;split at w1
  ·rename_i a b hz hb;injection w1 with w1;injection w1 with w3 w4;injection w3 with _ w3;subst w4;injection hb with hb;subst hb;rw[<-w2]
   have mono:∀{K K':AS->Prop},(∀s,K s->K' s)->∀{rvs:List ResultVar} {rs:List Rs} {u:AS},qb P s K rvs rs u->qb P s K' rvs rs u:=by
    intro K K' hKK rvs
    induction rvs with
    |nil=>intro rs u h;cases rs with
     |nil=>exact hKK _ h
     |cons=>exact h.elim
    |cons rv rvs ih=>
     intro rs u h
     cases rs with
     |nil=>exact h.elim
     |cons r rs=>
      obtain⟨b,ds,dp⟩:=r;obtain⟨h1,h2⟩:=h;refine⟨h1,?_⟩;obtain⟨cs,hcs,s',hg,hd⟩:=B6 h2;rw[hcs];exact⟨rfl,s',hg,ih hd⟩
   refine mono (λs' hs=>?_) d2;obtain⟨i,st,x',cs,k1,k2⟩:=hs;have hz':[iP t x' cs]=a:=by grind
   rw[<-hz']at w3;injection w3 with w3 _;unfold iP at w3;injection w3 with _ _ w3;injection w3 with _ w3;injection w3 with w3 _;subst w3;exact⟨i,st,x',k1⟩
  grind
 unfold Ec at hpg;split at hpg
 ·split at hpg
  ·split at hpg
   ·split at hpg
    ·injection hpg with hpg;exact key _ _ _ _ _ _ _ _ _ (by assumption) (by assumption) (by assumption) hpg.symm
    grind
   grind
  grind
 ·split at hpg
  ·split at hpg
   ·split at hpg
    ·injection hpg with hpg;exact key _ _ _ _ _ _ _ _ _ (by assumption) (by assumption) (by assumption) hpg.symm
    grind
   grind
  grind
 grind
def oX(t:Nat)(sh:List (Bool×Nat)):Sy:=⟨(0,.p false [.own 0 0])::Rz sh 1 1,[(0,.cur 0 true t 0)],1,1,1+(sh.map (·.2)).sum,[]⟩
theorem G3(t:Nat)(x:DV)(cs:List DV)(rest:List (Bool×List DV)):aN (oX t (Bp rest)) ([iP t x cs]++d5 rest) [0] (CO t x cs rest):=by
 refine⟨rfl,rfl,?_,λj y hx=>?_,λi y hx=>?_,λi b hb=>by grind[oX,aK]⟩
 ·grind[oX,o4,List.length_append,List.length_singleton]
 ·simp only[oX,aK]at hx;split at hx
  ·rename_i e;subst e;injection hx with hx;subst hx;exact⟨rfl,⟨rfl,rfl⟩,trivial⟩
  ·rename_i e;obtain⟨b,ds,m,h1,h2,h3,h4⟩:=EK (pre:=[iP t x cs]) hx;subst h3
   have hj:(CO t x cs rest).sl j=(iA ((true,[])::rest)).sl j:=by
    simp only[CO,AS.put,AS.push,H9];rw[if_neg (by omega)]
   rw[hj]
   have:((true,[])::rest)[j]? =rest[j-1]?:=by
    grind
   simp only[iA,this,h2];exact⟨rfl,RD.toC h4⟩
 ·simp only[oX,aK]at hx;split at hx
  ·rename_i e;subst e;injection hx with hx;subst hx;refine⟨Nat.lt_succ_self _,?_⟩;have:(CO t x cs rest).ob 0=.cur 0 true t x cs:=by rfl
   rw[this];exact⟨rfl,rfl,rfl,rfl⟩
  grind
def eJ(P:Program)(f:FuncId)(fn:Func)(ow:fM)(hs:List aP)(dn:List (Nat×Nat×Bool×List Nat))(t:Nat):Option (List (Bool×Nat)×UP):=
 match fn.body,fn.params.toList with
 |some c,_::ts=>if a9 P f&&decide (ts.length+1<=fn.ntmps)then
  (match Cc P fn.ntmps ow hs (Cp P fn.ntmps ow dn) c 0 (oX t (SG P ts)) (Ec P t fn.results.toList (fn.resultTypes.toList.map (C0 P 9)))with
  |some pg=>(match cv pg (1+((SG P ts).map (·.2)).sum) (jZ (dW 0 (1+((SG P ts).map (·.2)).sum)) [])with|some up=>some (SG P ts,up)|none=>none)
  |none=>none)else none
 |_,_=>none
theorem ge{ow:fM}{hs:List aP}{dn:List (Nat×Nat×Bool×List Nat)}{f:FuncId}{fn:Func}{t:Nat}{x:DV}{cs cs':List DV}{rest:List (Bool×List DV)}{res:List Rs}{sh:List (Bool×Nat)}{up:UP}
 (hf:P.funcs[f]? =some fn) (hg:eJ P f fn ow hs dn t=some (sh,up)) (hsh:Bp rest=sh) (hdp:∀r∈res,r.2.2=true) (hw:V P (Uc t res cs') up [] (jZ (d5 ((false,[iP t x cs])::rest)) [])):cG P f t x cs rest res cs':=by
 unfold eJ at hg;split at hg
 ·rename_i c T ts hc hp;split at hg
  ·rename_i hb;rw[Bool.and_eq_true,decide_eq_true_eq]at hb;split at hg
   ·rename_i pg hp';split at hg
    ·rename_i up' hu;injection hg with hg;injection hg with e1 e2;subst e2
     have hlen:rest.length+1<=fn.ntmps:=by
      have h1:=congrArg List.length (hsh.trans e1.symm)
      grind[Bp,SG,List.length_map]
     rw[e1,<-hsh]at hp' hu;refine Ez hf hc hb.1 hlen hdp (BO (L:=[]) tE c hp' rfl (G3 _ x cs rest) G6 ?_);rw[o4]at hu;have hl:(d5 ((false,[iP t x cs])::rest)).length=1+(d5 rest).length:=by grind[d5]
     obtain⟨a1,a2⟩:=Al.many (e:=d5 ((false,[iP t x cs])::rest)) (μ:=[]) (ρ:=[]) (ρ':=[]) (λp i h=>by rfl) (by simp);rw[hl]at a1 a2;simp only[List.nil_append,List.length_nil]at a1 a2;exact F9 pg hu (by rw[<-hl];rfl) a1 a2 hw
    grind
   grind
  grind
 grind
def ug:List SC->Option (List Nat)
 |[]=>some []
 |.d i::r=>(match ug r with|some l=>some (i::l)|none=>none)
 |_::_=>none
theorem F0:∀{cs:List SC} {xs:List Nat} {ys:List AC},ug cs=some xs->cQ ρ σ cs ys->∃ds:List DV,ys=ds.map .d/\gL ρ xs=some ds
 |[],xs,ys,h,hc=>by
  simp only[ug]at h;injection h with h;subst h
  cases ys with
  |nil=>exact⟨[],rfl,rfl⟩
  |cons=>exact hc.elim
 |.d i::r,xs,[],h,hc=>hc.elim
 |.d i::r,xs,y::ys,h,hc=>by
  simp only[ug]at h;split at h
  ·rename_i l hl;injection h with h;subst h;obtain⟨x,rfl,hx⟩:=pG hc.1;obtain⟨ds,rfl,hd⟩:=F0 hl hc.2
   grind[gL]
  grind
 |.nil::r,xs,ys,h,hc=>by grind[ug]
 |.own _ _::r,xs,ys,h,hc=>by grind[ug]
 |.ptr _ _ _::r,xs,ys,h,hc=>by grind[ug]
 |.elt _ _ _ _ _::r,xs,ys,h,hc=>by grind[ug]
 |.rd _::r,xs,ys,h,hc=>by grind[ug]
 |.sub _ _ _ _ _::r,xs,ys,h,hc=>by grind[ug]
 |.emp::r,xs,ys,h,hc=>by grind[ug]
def EC(P:Program)(t:TypeId)(rv:ResultVar):Kt:=λ_ e S=>
 match e with
 |.normal|.ret=>(match TB P S rv with
  |some (p,false,[.ptr i st 0],S1)=>(match S1.own i st with
   |some (.var _ t' cs)=>(match ug cs with
    |some xs=>if t'=t then some (dE (p.map .po) (.ret [(false,xs)]))else none
    |none=>none)
   |_=>none)
  |_=>none)
 |_=>none
def Vm(x:DV)(cs':List DV)(vs:List (Bool×List DV)):Prop:=vs=[(false,x::cs')]
theorem Hm{t:TypeId}{rv:ResultVar}{x:DV}{cs':List DV}{L:Lbl}:B8 P (Vm x cs') L ρ (N3 P rv t x cs') (EC P t rv):=by
 intro L' ρ1 hL hp e S pg hpg σ s hr hw
 have key:∀p i st S1 a t' cs xs,TB P S rv=some (p,false,[.ptr i st 0],S1)->S1.own i st=some (.var a t' cs)->ug cs=some xs->t'=t->pg=dE (p.map .po) (.ret [(false,xs)])->∃i st,E6 P s rv=some (.p false [.ptr i st 0])/\s.own? i st=some (.var st t (.d x::cs'.map .d)):=by
  rintro p i st S1 a t' cs xs h1 h2 h3 rfl e;subst e;obtain⟨ρ2,he,hw2,-⟩:=bN (gK hw);simp only[W]at hw2;obtain⟨vs,w1,rfl⟩:=hw2;obtain⟨ys,y1,y2,y3⟩:=Iz h1 he hr
  match ys,y2 with
  |[y],y2=>
   cases y<;>first|exact y2.1.elim|skip
   obtain⟨⟨rfl,hst,rfl⟩,-⟩:=y2;obtain⟨o',k1,k2,-,-⟩:=y3.own h2 hst;cases o'<;>first|exact k2.elim|skip
   obtain⟨k5,rfl,k6⟩:=k2;obtain rfl:=bh k1 rfl;obtain⟨ds,rfl,hd⟩:=F0 h3 k6
   grind[dc]
 unfold EC at hpg;split at hpg
 ·split at hpg
  ·split at hpg
   ·split at hpg
    ·split at hpg
     ·injection hpg with hpg;exact key _ _ _ _ _ _ _ _ (by assumption) (by assumption) (by omega) (by omega) hpg.symm
     grind
    grind
   grind
  grind
 ·split at hpg
  ·split at hpg
   ·split at hpg
    ·split at hpg
     ·injection hpg with hpg;exact key _ _ _ _ _ _ _ _ (by assumption) (by assumption) (by omega) (by omega) hpg.symm
     grind
    grind
   grind
  grind
 grind
def Es(P:Program)(f:FuncId)(fn:Func)(ow:fM)(hs:List aP)(dn:List (Nat×Nat×Bool×List Nat))(t:Nat):Option (List (Bool×Nat)×UP):=
 match fn.body,fn.results.toList with
 |some c,[rv]=>if a9 P f&&decide (fn.params.toList.length<=fn.ntmps)then
  (match Cc P fn.ntmps ow hs (Cp P fn.ntmps ow dn) c 0 (qN (Ov P fn)) (EC P t rv)with
  |some pg=>(match cv pg (((Ov P fn).map (·.2)).sum) (jZ (dW 0 (((Ov P fn).map (·.2)).sum)) [])with|some up=>some (Ov P fn,up)|none=>none)
  |none=>none)else none
 |_,_=>none
theorem EY{ow:fM}{hs:List aP}{dn:List (Nat×Nat×Bool×List Nat)}{f:FuncId}{fn:Func}{t:Nat}{x:DV}{cs':List DV}{args:List (Bool×List DV)}{sh:List (Bool×Nat)}{up:UP}
 (hf:P.funcs[f]? =some fn) (hg:Es P f fn ow hs dn t=some (sh,up)) (hsh:Bp args=sh) (hfl:uN cs') (hw:V P (Vm x cs') up [] (jZ (d5 args) [])):oM P f args t x cs':=by
 unfold Es at hg;split at hg
 ·rename_i c rv hc hrv;split at hg
  ·rename_i hb;rw[Bool.and_eq_true,decide_eq_true_eq]at hb;split at hg
   ·rename_i pg hp;split at hg
    ·rename_i up' hu;injection hg with hg;injection hg with e1 e2;subst e2;rw[e1,<-hsh]at hp hu
     have hlen:args.length<=fn.ntmps:=by
      have h1:=congrArg List.length (hsh.trans e1.symm)
      grind[Bp,Ov,List.length_map]
     refine EW hf hc hb.1 hlen hrv hfl (BO (L:=[]) tE c hp rfl (D0 args) Hm ?_);rw[o4]at hu;obtain⟨a1,a2⟩:=Al.many (e:=d5 args) (μ:=[]) (ρ:=[]) (ρ':=[]) (λp i h=>by rfl) (by simp)
     grind[F9]
    grind
   grind
  grind
 grind
end
end Go.Proofs.Ytgdbmcoamemmaaa
namespace Go.Proofs.Ytgdbmcoamemmaaa
open Go.RowKit
section
variable {P:Program}{R:List (Bool×List DV)->Prop}{k a b:UP}{L:Lbl}{ρ:List DV}
def Bd(P:Program)(R:List (Bool×List DV)->Prop)(k:UP)(L:Lbl)(ρ:List DV):Option (List DV)->Prop
 |some out=>V P R k L (jZ out ρ)
 |none=>False
def Cl(P:Program)(R:List (Bool×List DV)->Prop)(f:FuncId)(sh:Sh)(k:UP)(L:Lbl)(ρ:List DV)(x:Option (List (Bool×List DV))):Prop:=
 ∃ys res,x=some ys/\ib P f ys res/\c9 sh res=true/\V P R k L (jZ (ca res) ρ)
def Br(P:Program)(R:List (Bool×List DV)->Prop)(a b:UP)(L:Lbl)(ρ:List DV):Option DV->Prop
 |some (.sc (.bool c))=>(match c with|true=>V P R a L ρ|false=>V P R b L ρ)
 |_=>False
def Jp:Option (List DV->Prop)->Option (List DV)->Prop
 |some J,some vs=>J vs
 |_,_=>False
def Rt(R:List (Bool×List DV)->Prop):Option (List (Bool×List DV))->Prop
 |some vs=>R vs
 |none=>False
def Sl(P:Program)(R:List (Bool×List DV)->Prop)(k:UP)(L:Lbl):Option (List DV)->Prop
 |some vs=>V P R k L vs
 |none=>False
theorem IT{o:PO}:V P R (.po o k) L ρ=Bd P R k L ρ (aA ρ o):=by
 rw[V];rfl
theorem L4{out:List DV}:Bd P R k L ρ (some out)=V P R k L (jZ out ρ):=rfl
theorem UL{f:FuncId}{ar:List (Bool×List Nat)}{sh:Sh}:V P R (.cl f ar sh k) L ρ=Cl P R f sh k L ρ (dc ρ ar):=rfl
theorem RY{x:Nat}:V P R (.ite x a b) L ρ=Br P R a b L ρ (ρ[x]?):=by
 rw[V];rfl
theorem BI:Br P R a b L ρ (some (.sc (.bool true)))=V P R a L ρ:=rfl
theorem yu:Br P R a b L ρ (some (.sc (.bool false)))=V P R b L ρ:=rfl
theorem PK{p:Prop}[Decidable p]:Br P R a b L ρ (some (.sc (.bool (decide p))))=((p->V P R a L ρ)/\(¬p->V P R b L ρ)):=by
 by_cases h:p
 ·simp[h,BI]
 grind[yu]
theorem Mp{c:Bool}:Br P R a b L ρ (some (.sc (.bool c)))=((c=true->V P R a L ρ)/\(c=false->V P R b L ρ)):=by
 cases c<;>simp[BI,yu]
theorem di{p:Prop}[Decidable p](h1:p->V P R a L ρ)(h2:¬p->V P R b L ρ):Br P R a b L ρ (some (.sc (.bool (decide p)))):=by rw[PK];grind
class BrD(c:Bool){α:Type}(x y:α)(p q:outParam Prop)(u v:outParam α):Prop where
 t:c=true->(p/\u=x)\/(q/\v=x)
 f:c=false->(p/\u=y)\/(q/\v=y)
instance (priority:=1200){α:Type}{x y:α}{p:Prop}[Decidable p]:BrD (decide p) x y p (¬p) x y:=⟨λh=>.inl ⟨of_decide_eq_true h,rfl⟩,λh=>.inr ⟨of_decide_eq_false h,rfl⟩⟩
instance (priority:=1200){α:Type}{x y:α}{p:Prop}[Decidable p]:BrD (!decide p) x y p (¬p) y x:=⟨λh=>.inr ⟨by simpa using h,rfl⟩,λh=>.inl ⟨by simpa using h,rfl⟩⟩
instance (priority:=900){α:Type}{x y:α}{c:Bool}:BrD (!c) x y (c=true) (c=false) y x:=⟨λh=>.inr ⟨by simpa using h,rfl⟩,λh=>.inl ⟨by simpa using h,rfl⟩⟩
instance (priority:=100){α:Type}{x y:α}{c:Bool}:BrD c x y (c=true) (c=false) x y:=⟨λh=>.inl ⟨h,rfl⟩,λh=>.inr ⟨h,rfl⟩⟩
theorem ai{c:Bool}{p q:Prop}{u v:UP}[i:BrD c a b p q u v](h1:p->V P R u L ρ)(h2:q->V P R v L ρ):Br P R a b L ρ (some (.sc (.bool c))):=by
 rw[Mp];refine⟨λh=>?_,λh=>?_⟩
 ·rcases i.t h with⟨g,rfl⟩|⟨g,rfl⟩
  ·grind
  grind
 ·rcases i.f h with⟨g,rfl⟩|⟨g,rfl⟩
  ·grind
  grind
theorem Rc{l:Nat}{xs:List Nat}:V P R (.jump l xs) L ρ=Jp (L[l]?) (gL ρ xs):=by
 rw[V];cases h1:L[l]? <;>cases h2:gL ρ xs<;>simp[Jp]
theorem MK{J:List DV->Prop}{vs:List DV}:Jp (some J) (some vs)=J vs:=rfl
theorem RR{xs:List (Bool×List Nat)}:V P R (.ret xs) L ρ=Rt R (dc ρ xs):=by
 rw[V];cases h:dc ρ xs<;>simp[Rt]
theorem Ns{vs:List (Bool×List DV)}:Rt R (some vs)=R vs:=rfl
theorem Dz{xs:List Nat}:V P R (.sel xs k) L ρ=Sl P R k L (gL ρ xs):=by
 rw[V];rfl
theorem LP{vs:List DV}:Sl P R k L (some vs)=V P R k L vs:=rfl
theorem ab{f:FuncId}{sh:Sh}{ys:List (Bool×List DV)}{res:List Rs}(hm:aI P f ys res)(hs:c9 sh res=true)(hk:V P R k L (jZ (ca res) ρ)):Cl P R f sh k L ρ (some ys):=⟨ys,res,rfl,.n hm,hs,hk⟩
theorem aO{f:FuncId}{t:TypeId}{x:DV}{cs cs':List DV}{sh:Sh}{ys:List (Bool×List DV)}{res:List Rs}(hm:cG P f t x cs ys res cs')(hs:c9 sh (res++[(false,[iP t x cs'],true)])=true)(hk:V P R k L (jZ (ca (res++[(false,[iP t x cs'],true)])) ρ)):Cl P R (f+2000000) sh k L ρ (some ((false,[iP t x cs])::ys)):=by rw[Nat.add_comm];exact⟨_,_,rfl,.c hm,hs,hk⟩
theorem Jt{f:FuncId}{t:TypeId}{x:DV}{cs':List DV}{sh:Sh}{ys:List (Bool×List DV)}(hm:oM P f ys t x cs')(hs:c9 sh [(false,[iP t x cs'],true)]=true)(hk:V P R k L (jZ [iP t x cs'] ρ)):Cl P R (f+3000000) sh k L ρ (some ys):=by rw[Nat.add_comm];exact⟨_,_,rfl,.w hm,hs,hk⟩
theorem cl_okP{f:FuncId}{sh:Sh}{ys:List (Bool×List DV)}{res:List Rs}(hm:IG P f ys res)(hs:c9 sh res=true)(hk:V P R k L (jZ (ca res) ρ)):Cl P R (f+1000000) sh k L ρ (some ys):=by rw[Nat.add_comm];exact⟨ys,res,rfl,.p hm,hs,hk⟩
theorem gY{f bits:Nat}{sh:Sh}{ys:List (Bool×List DV)}{res:List Rs}(hb:bits<1000)(hm:fI P f (Fh (za ys.length bits) ys) res)(hs:c9 sh res=true)(hk:V P R k L (jZ (ca res) ρ)):Cl P R ((4+bits)*1000000+f) sh k L ρ (some ys):=⟨ys,res,rfl,.g hb hm,hs,hk⟩
def Mk(P:Program)(R:List (Bool×List DV)->Prop)(f:FuncId)(b:Bool)(xs:List (Nat×Nat))(k:UP)(L:Lbl)(ρ:List DV)(x:Option (List DV))(y:Option DV):Prop:=
 ∃ds ds' n n',x=some ds/\y=some (.sc (.int .i64 n))/\FP P f b ds n ds' n'/\yN xs ds ds'/\V P R k L (jZ (ds'++[.sc (.int .i64 n')]) ρ)
theorem U6{f:FuncId}{b:Bool}{xs:List (Nat×Nat)}{j:Nat}:V P R (.mk f b xs j k) L ρ=Mk P R f b xs k L ρ (gL ρ (xs.map (·.1))) (ρ[j]?):=rfl
def M7(L L':Lbl):Prop:=∀(l:Nat) J,L[l]? =some J->∃J',L'[l]? =some J'/\∀vs,J vs->J' vs
theorem M7.snoc{L L':Lbl}{J J':List DV->Prop}(h:M7 L L')(hl:L.length=L'.length)(hj:∀vs,J vs->J' vs):M7 (L++[J]) (L'++[J']):=by
 intro l X hX;rcases Nat.lt_or_ge l L.length with hlt|hge
 ·rw[List.getElem?_append_left hlt]at hX;obtain⟨X',h1,h2⟩:=h l X hX
  grind
 ·have:l=L.length:=by
   have:=(List.getElem?_eq_some_iff.1 hX).1;grind
  simp_all
theorem Pf:∀(up:UP) {L L':Lbl} {ρ:List DV},M7 L L'->L.length=L'.length->V P R up L ρ->V P R up L' ρ:=by
 intro up
 induction up with
 |po o k ih=>intro L L' ρ h hl hv;rw[IT]at hv ⊢;cases he:aA ρ o with
  |none=>rw[he]at hv;exact hv
  |some out=>rw[he]at hv;exact ih h hl hv
 |cl f ar sh k ih=>intro L L' ρ h hl hv;obtain⟨ys,res,h1,h2,h3,h4⟩:=hv;exact⟨ys,res,h1,h2,h3,ih h hl h4⟩
 |mk f b xs j k ih=>intro L L' ρ h hl hv;obtain⟨ds,ds',n,n',h1,h2,h3,h4,h5⟩:=hv;exact⟨ds,ds',n,n',h1,h2,h3,h4,ih h hl h5⟩
 |ite x a b iha ihb=>
  grind[V]
 |jump l xs=>intro L L' ρ h hl hv;obtain⟨J,vs,h1,h2,h3⟩:=hv;obtain⟨J',h4,h5⟩:=h l J h1;exact⟨J',vs,h4,h2,h5 vs h3⟩
 |join n rest k ihr ihk=>intro L L' ρ h hl hv;obtain⟨J,h1,h2⟩:=hv;exact⟨J,λvs a b=>ihr h hl (h1 vs a b),ihk (h.snoc hl λ_ h=>h) (by grind) h2⟩
 |loop xs body ih=>intro L L' ρ h hl hv;obtain⟨I,m,vs,h1,h2,h3⟩:=hv;exact⟨I,m,vs,h1,h2,λvs m a b=>ih (h.snoc hl λ_ h=>h) (by grind) (h3 vs m a b)⟩
 |ret xs=>intro L L' ρ h hl hv;exact hv
 |sel xs k ih=>intro L L' ρ h hl hv;rw[Dz]at hv ⊢;cases he:gL ρ xs with
  |none=>rw[he]at hv;exact hv
  |some out=>rw[he]at hv;exact ih h hl hv
theorem lp{xs:List Nat}{body:UP}{α:Type}(enc:α->List DV)(I:α->Prop)(m:α->Nat)(a0:α)(h0:gL ρ xs=some (enc a0))(hI:I a0)
 (hb:∀a,I a->V P R body (L++[λvs'=>∃a',vs'=enc a'/\I a'/\m a'<m a]) (jZ (enc a) ρ)):V P R (.loop xs body) L ρ:=by
 refine⟨λvs n=>∃a,vs=enc a/\I a/\n=m a,m a0,enc a0,h0,⟨a0,rfl,hI,rfl⟩,?_⟩
 grind
theorem U3{xs:List Nat}{body:UP}(n:Nat)(st:Nat->List DV)(h0:gL ρ xs=some (st 0))
 (hb:∀i,i<=n->V P R body (L++[λvs'=>vs'=st (i+1)/\i<n]) (jZ (st i) ρ)):V P R (.loop xs body) L ρ:=by
 refine lp st (·<=n) (n - ·) 0 h0 (Nat.zero_le _) λi hi=>?_
 have:=hb i hi;refine Pf body ?_ ?_ this
 ·exact M7.snoc (λl J h=>⟨J,h,λ_ h=>h⟩) rfl (λvs' ⟨h1,h2⟩=>⟨i+1,h1,h2,by omega⟩)
 ·simp
theorem jn{n:Nat}{rest:UP}(J:List DV->Prop)(hk:V P R k (L++[J]) ρ)(hr:∀vs,vs.length=n->J vs->V P R rest L (jZ vs ρ)):V P R (.join n rest k) L ρ:=⟨J,hr,hk⟩
theorem vq{n:Nat}{rest:UP}(v:List DV)(hk:V P R k (L++[(· =v)]) ρ)(hr:V P R rest L (jZ v ρ)):V P R (.join n rest k) L ρ:=⟨(· =v),λvs _ h=>h▸hr,hk⟩
end
section
variable {ρ:List DV}
def cq(op:BinOp)(b:Bool):Option DV->Option DV->Option (List DV)
 |some (.sc x),some (.sc y)=>t6 (hU op b x y)
 |_,_=>none
theorem UE{v:Value}:aA ρ (.k v)=if pB v then some [.sc v]else none:=rfl
theorem Uu{t k:Nat}:aA ρ (.e t k)=some [.sl t k []]:=rfl
theorem Rb{op:BinOp}{b:Bool}{x y:Nat}:aA ρ (.bin op b x y)=cq op b ρ[x]? ρ[y]?:=by
 rfl
variable {b:Bool}{k:IntKind}{x y:Int}
theorem Sn:cq .add b (some (.sc (.int k x))) (some (.sc (.int k y)))=some [.sc (.int k (k.wrap (x+y)))]:=by simp[cq,hU,dP,t6]
theorem RF:cq .sub b (some (.sc (.int k x))) (some (.sc (.int k y)))=some [.sc (.int k (k.wrap (x-y)))]:=by simp[cq,hU,dP,t6]
theorem R6:cq .mul b (some (.sc (.int k x))) (some (.sc (.int k y)))=some [.sc (.int k (k.wrap (x*y)))]:=by simp[cq,hU,dP,t6]
theorem Sm(h:y≠0):cq .quo b (some (.sc (.int k x))) (some (.sc (.int k y)))=some [.sc (.int k (k.wrap (x.tdiv y)))]:=by grind[cq,hU,dP,t6]
theorem TJ(h:y≠0):cq .rem b (some (.sc (.int k x))) (some (.sc (.int k y)))=some [.sc (.int k (x.tmod y))]:=by grind[cq,hU,dP,t6]
theorem Sj:cq .eql b (some (.sc (.int k x))) (some (.sc (.int k y)))=some [.sc (.bool (decide (x=y)))]:=by simp[cq,hU,dP,t6]
theorem Su:cq .neq b (some (.sc (.int k x))) (some (.sc (.int k y)))=some [.sc (.bool (!decide (x=y)))]:=by simp[cq,hU,dP,t6]
theorem SI:cq .lss b (some (.sc (.int k x))) (some (.sc (.int k y)))=some [.sc (.bool (decide (x<y)))]:=by simp[cq,hU,dP,t6]
theorem TH:cq .leq b (some (.sc (.int k x))) (some (.sc (.int k y)))=some [.sc (.bool (decide (x<=y)))]:=by simp[cq,hU,dP,t6]
theorem R8:cq .gtr b (some (.sc (.int k x))) (some (.sc (.int k y)))=some [.sc (.bool (decide (y<x)))]:=by simp[cq,hU,dP,t6]
theorem TA:cq .geq b (some (.sc (.int k x))) (some (.sc (.int k y)))=some [.sc (.bool (decide (y<=x)))]:=by simp[cq,hU,dP,t6]
variable {s t:ByteArray}
theorem Aj(h:s.size+t.size<=maxLen):cq .add b (some (.sc (.string s))) (some (.sc (.string t)))=some [.sc (.string (s++t))]:=by grind[cq,hU,sA,t6]
theorem TN:cq .eql b (some (.sc (.string s))) (some (.sc (.string t)))=some [.sc (.bool (decide (s=t)))]:=by rfl
theorem S8:cq .neq b (some (.sc (.string s))) (some (.sc (.string t)))=some [.sc (.bool (!decide (s=t)))]:=by rfl
theorem TI:cq .lss b (some (.sc (.string s))) (some (.sc (.string t)))=some [.sc (.bool (Op.bytesLess s.toList t.toList))]:=by rfl
theorem Tu:cq .gtr b (some (.sc (.string s))) (some (.sc (.string t)))=some [.sc (.bool (!(Op.bytesLess s.toList t.toList||decide (s=t))))]:=by rfl
variable {c d:Bool}
theorem S5:cq .eql true (some (.sc (.bool c))) (some (.sc (.bool d)))=some [.sc (.bool (c==d))]:=by rfl
theorem R1:cq .neq true (some (.sc (.bool c))) (some (.sc (.bool d)))=some [.sc (.bool (!(c==d)))]:=by rfl
def Um(op:UnOp):Option DV->Option (List DV)
 |some (.sc x)=>t6 (N8 op x)
 |_=>none
theorem R0{op:UnOp}{x:Nat}:aA ρ (.un op x)=Um op ρ[x]?:=by
 rfl
theorem Ss:Um .neg (some (.sc (.int k x)))=some [.sc (.int k (k.wrap (0-x)))]:=by rfl
theorem Sw:Um .not (some (.sc (.bool c)))=some [.sc (.bool (!c))]:=by rfl
theorem gr{z:Int}(h: -9223372036854775808<=z)(h2:z<=9223372036854775807):IntKind.i64.wrap z=z:=by
 simp only[IntKind.wrap,IntKind.bits,IntKind.signed];have e:z.bmod (2^64)=z:=Int.bmod_eq_of_le (by omega) (by omega)
 grind
end
end Go.Proofs.Ytgdbmcoamemmaaa
namespace Go.Proofs.Ytgdbmcoamemmaaa
open Go.RowKit
section
variable {ρ:List DV}{k t:Nat}{kd:IntKind}{z:Int}{es fs:List (List DV)}
def SX:Option DV->Option (List DV)
 |some (.sc (.int _ _))=>some []
 |_=>none
theorem Q4{x:Nat}:aA ρ (.isI x)=SX ρ[x]?:=by rfl
theorem RS:SX (some (.sc (.int kd z)))=some []:=rfl
def T4:Option DV->Option (List DV)
 |some d=>if mK d then some []else none
 |none=>none
theorem SW{x:Nat}:aA ρ (.sc x)=T4 ρ[x]?:=by rfl
theorem Tk:T4 (some (.sc (.int kd z)))=some []:=rfl
theorem Tv{s:ByteArray}:T4 (some (.sc (.string s)))=some []:=rfl
theorem TC{b:Bool}:T4 (some (.sc (.bool b)))=some []:=rfl
theorem TE{n:Int}:pB (.int kd n)=true:=rfl
theorem TF{s:ByteArray}:pB (.string s)=true:=rfl
theorem Pe{b:Bool}:pB (.bool b)=true:=rfl
def mE:Option DV->Option (List DV)
 |some (.sl _ _ es)=>if es.flatten.all mK then some []else none
 |_=>none
theorem LD{x:Nat}:aA ρ (.flat x)=mE ρ[x]?:=by rfl
theorem O9(h:es.flatten.all mK=true):mE (some (.sl t k es))=some []:=by grind[mE]
def UG(t k:Nat):Option DV->Option (List DV)
 |some (.sl t' k' es)=>if t'=t/\k'=k/\es.flatten.all mK=true then some []else none
 |_=>none
theorem OX{t k x:Nat}:aA ρ (.isL t k x)=UG t k ρ[x]?:=by rfl
theorem M3:mE (some (.sl t k []))=some []:=rfl
theorem mg{α:Type}{e:α->List DV}{l:List α}(h:∀x,(e x).all mK=true):mE (some (.sl t k (l.map e)))=some []:=by
 grind[O9]
def Tw(k:IntKind):Option DV->Option (List DV)
 |some (.sc (.int _ n))=>some [.sc (.int k (k.wrap n))]
 |_=>none
theorem Qa{k:IntKind}{x:Nat}:aA ρ (.cvI k x)=Tw k ρ[x]?:=by rfl
theorem SB{k:IntKind}:Tw k (some (.sc (.int kd z)))=some [.sc (.int k (k.wrap z))]:=rfl
def TT:Option DV->Option (List DV)
 |some (.sc (.string s))=>some [.sc (.string s)]
 |_=>none
theorem PM{x:Nat}:aA ρ (.cvS x)=TT ρ[x]?:=by rfl
theorem TM{s:ByteArray}:TT (some (.sc (.string s)))=some [.sc (.string s)]:=rfl
def LT:Option DV->Option (List DV)
 |some (.sl _ 1 es)=>(match jI es with|some xs=>some [.sc (.string (strOfNums xs))]|none=>none)
 |_=>none
theorem OM{x:Nat}:aA ρ (.cvB x)=LT ρ[x]?:=by rfl
theorem RE{xs:List Int}(h:jI es=some xs):LT (some (.sl t 1 es))=some [.sc (.string (strOfNums xs))]:=by grind[LT]
def Oi:Option DV->Option (List DV)
 |some (.sc (.string s))=>some [.sc (.int .i64 s.size)]
 |_=>none
theorem MJ{x:Nat}:aA ρ (.lenS x)=Oi ρ[x]?:=by rfl
theorem ON{s:ByteArray}:Oi (some (.sc (.string s)))=some [.sc (.int .i64 s.size)]:=rfl
def Og:Option DV->Option (List DV)
 |some (.sl _ _ es)=>some [.sc (.int .i64 es.length)]
 |_=>none
theorem Mz{x:Nat}:aA ρ (.lenL x)=Og ρ[x]?:=by rfl
theorem Pw:Og (some (.sl t k es))=some [.sc (.int .i64 es.length)]:=rfl
def Ma:Option DV->Option DV->Option (List DV)
 |some (.sc (.string s)),some (.sc (.int _ z))=>if 0<=z then(match s[z.toNat]? with|some u=>some [.sc (.int .u8 u.toNat)]|none=>none)else none
 |_,_=>none
theorem Pn{x i:Nat}:aA ρ (.chr x i)=Ma ρ[x]? ρ[i]?:=by rfl
theorem Tr{s:ByteArray}{u:UInt8}(h:0<=z)(hu:s[z.toNat]? =some u):Ma (some (.sc (.string s))) (some (.sc (.int kd z)))=some [.sc (.int .u8 u.toNat)]:=by simp_all[Ma,if_pos]
def uB(s:ByteArray)(i:Nat):Nat:=((s[i]?).map UInt8.toNat).getD 0
theorem QW{s:ByteArray}(h:0<=z)(hu:z<s.size):Ma (some (.sc (.string s))) (some (.sc (.int kd z)))=some [.sc (.int .u8 (uB s z.toNat))]:=by
 have hz:z.toNat<s.size:=by omega
 rw[Tr h (getElem?_pos s z.toNat hz)]
 grind[uB]
def d6(k:Nat):Option DV->Option DV->Option (List DV)
 |some (.sl _ k' es),some (.sc (.int _ z))=>if k'=k/\0<=z then(match es[z.toNat]? with|some e=>if e.length=k then some e else none|none=>none)else none
 |_,_=>none
theorem P9{x i:Nat}:aA ρ (.idx k x i)=d6 k ρ[x]? ρ[i]?:=by rfl
theorem SK{e:List DV}(h:0<=z)(he:es[z.toNat]? =some e)(hk:e.length=k):d6 k (some (.sl t k es)) (some (.sc (.int kd z)))=some e:=by
 grind[d6]
theorem fc{α:Type}[Inhabited α]{e:α->List DV}{l:List α}(hk:∀x,(e x).length=k)(h:0<=z)(h1:z<l.length):d6 k (some (.sl t k (l.map e))) (some (.sc (.int kd z)))=some (e (l.getD z.toNat default)):=by
 have hz:z.toNat<l.length:=by omega
 grind[SK,List.getElem?_eq_getElem]
def CA(k:Nat):Option DV->Option DV->Option (List DV)
 |some (.sl _ k' es),some (.sc (.int _ z))=>if k'=k/\0<=z/\z.toNat<es.length then some []else none
 |_,_=>none
theorem PI{x i:Nat}:aA ρ (.chk k x i)=CA k ρ[x]? ρ[i]?:=by rfl
theorem SL(h:0<=z)(h1:z<es.length):CA k (some (.sl t k es)) (some (.sc (.int kd z)))=some []:=by
 have:z.toNat<es.length:=by omega
 grind[CA]
theorem aY{α:Type}{e:α->List DV}{l:List α}(h:0<=z)(h1:z<l.length):CA k (some (.sl t k (l.map e))) (some (.sc (.int kd z)))=some []:=SL h (by grind)
def vm:Option DV->Option (Option Int)->Option (Option Int)->Option (List DV)
 |some (.sc (.string s)),some l,some h=>(match mv l h s.size with|some (a,b)=>some [.sc (.string (s.extract a b))]|none=>none)
 |_,_,_=>none
theorem MI{x:Nat}{lo hi:Option Nat}:aA ρ (.cutS x lo hi)=vm ρ[x]? (zA ρ lo) (zA ρ hi):=by rfl
theorem Fd{s:ByteArray}{lo hi:Option Int}(h1:0<=lo.getD 0)(h2:lo.getD 0<=hi.getD s.size)(h3:hi.getD s.size<=s.size):vm (some (.sc (.string s))) (some lo) (some hi)=some [.sc (.string (s.extract (lo.getD 0).toNat (hi.getD s.size).toNat))]:=by
 grind[vm,mv]
def zf(k:Nat):Option DV->Option (Option Int)->Option (Option Int)->Option (List DV)
 |some (.sl t k' es),some l,some h=>if k'=k then(match mv l h es.length with|some (a,b)=>some [.sl t k ((es.drop a).take (b-a))]|none=>none)else none
 |_,_,_=>none
theorem LG{x:Nat}{lo hi:Option Nat}:aA ρ (.cutL k x lo hi)=zf k ρ[x]? (zA ρ lo) (zA ρ hi):=by rfl
theorem PU{lo hi:Option Int}(h1:0<=lo.getD 0)(h2:lo.getD 0<=hi.getD es.length)(h3:hi.getD es.length<=es.length):zf k (some (.sl t k es)) (some lo) (some hi)=some [.sl t k ((es.drop (lo.getD 0).toNat).take ((hi.getD es.length).toNat-(lo.getD 0).toNat))]:=by
 grind[zf,mv]
theorem rc{α:Type}{e:α->List DV}{l:List α}{lo hi:Option Int}(h1:0<=lo.getD 0)(h2:lo.getD 0<=hi.getD l.length)(h3:hi.getD l.length<=l.length):
 zf k (some (.sl t k (l.map e))) (some lo) (some hi)=some [.sl t k (((l.drop (lo.getD 0).toNat).take ((hi.getD l.length).toNat-(lo.getD 0).toNat)).map e)]:=by
 rw[PU h1 (by grind) (by grind)];simp_all
section
variable {α:Type}{e:α->List DV}{l:List α}{a b:Int}{s:ByteArray}
theorem Uo(h1:0<=a)(h2:a<=b)(h3:b<=l.length):zf k (some (.sl t k (l.map e))) (some (some a)) (some (some b))=some [.sl t k (((l.drop a.toNat).take (b.toNat-a.toNat)).map e)]:=rc h1 h2 h3
theorem Sx(h1:0<=a)(h2:a<=l.length):zf k (some (.sl t k (l.map e))) (some (some a)) (some none)=some [.sl t k ((l.drop a.toNat).map e)]:=by
 rw[rc (lo:=some a) (hi:=none) h1 h2 (by simp)]
 grind[Int.toNat_natCast,List.take_of_length_le]
theorem Sd(h1:0<=b)(h2:b<=l.length):zf k (some (.sl t k (l.map e))) (some none) (some (some b))=some [.sl t k ((l.take b.toNat).map e)]:=by
 rw[rc (lo:=none) (hi:=some b) (by simp) h1 h2];simp
theorem OR(h1:0<=a)(h2:a<=b)(h3:b<=s.size):vm (some (.sc (.string s))) (some (some a)) (some (some b))=some [.sc (.string (s.extract a.toNat b.toNat))]:=Fd h1 h2 h3
theorem RZ(h1:0<=a)(h2:a<=s.size):vm (some (.sc (.string s))) (some (some a)) (some none)=some [.sc (.string (s.extract a.toNat s.size))]:=by
 rw[Fd (lo:=some a) (hi:=none) h1 h2 (by simp)];simp
theorem SM(h1:0<=b)(h2:b<=s.size):vm (some (.sc (.string s))) (some none) (some (some b))=some [.sc (.string (s.extract 0 b.toNat))]:=by
 rw[Fd (lo:=none) (hi:=some b) (by simp) h1 h2];simp
end
def Vg:Option DV->Option Int
 |some (.sc (.int _ z))=>some z
 |_=>none
theorem Un{i:Nat}:gI ρ i=Vg ρ[i]?:=by rfl
theorem HX:Vg (some (.sc (.int kd z)))=some z:=rfl
theorem Lo:zA ρ none=some none:=rfl
theorem Kp{i:Nat}:zA ρ (some i)=(gI ρ i).map some:=rfl
def xQ(el k b:Nat):Option DV->Option DV->Option (List DV)
 |some (.sl t1 k1 es),some (.sl _ k2 fs)=>if t1=el/\k1=k/\k2=k/\es.length+fs.length<=9223372036854775807/\(es.length+fs.length)*b<=140737488355328 then some [.sl el k (es++fs)]else none
 |_,_=>none
theorem Qs{el b x y:Nat}:aA ρ (.app el k b x y)=xQ el k b ρ[x]? ρ[y]?:=by rfl
theorem Gs{el b:Nat}(h:es.length+fs.length<=1000000000000)(hb:b<=140):xQ el k b (some (.sl el k es)) (some (.sl t k fs))=some [.sl el k (es++fs)]:=by
 have h1:(es.length+fs.length)*b<=1000000000000*140:=Nat.mul_le_mul h hb;have h2:(es.length+fs.length)*b<=140737488355328:=by omega
 have h3:es.length+fs.length<=9223372036854775807:=by omega
 grind[xQ]
theorem OF{α:Type}{e:α->List DV}{l:List α}{el b:Nat}{x:List DV}(h:l.length<=100000000000)(hb:b<=140):xQ el k b (some (.sl el k (l.map e))) (some (.sl t k [x]))=some [.sl el k (l.map e++[x])]:=Gs (by grind) hb
theorem OK{α:Type}{e:α->List DV}{l m:List α}{el b:Nat}(h:l.length<=100000000000)(h':m.length<=100000000000)(hb:b<=140):xQ el k b (some (.sl el k (l.map e))) (some (.sl t k (m.map e)))=some [.sl el k ((l++m).map e)]:=by
 rw[Gs (by grind) hb,List.map_append]
theorem Ox{α:Type}{e:α->List DV}{m:List α}{el b:Nat}(h':m.length<=100000000000)(hb:b<=140):xQ el k b (some (.sl el k [])) (some (.sl t k (m.map e)))=some [.sl el k (m.map e)]:=by
 rw[Gs (by grind) hb];rfl
theorem Mf{el b:Nat}{x:List DV}(hb:b<=140):xQ el k b (some (.sl el k [])) (some (.sl t k [x]))=some [.sl el k [x]]:=by
 rw[Gs (by simp) hb];rfl
def Vi(el k:Nat):Option (List (List DV))->Option (List DV)
 |some es=>if es.all (λe=>e.length==k)then some [.sl el k es]else none
 |none=>none
theorem Sp{el:Nat}{rows:List (List Nat)}:aA ρ (.mk el k rows)=Vi el k (CZ ρ rows):=by rfl
def Ky(el k b:Nat)(zz:List DV):Option DV->Option (List DV)
 |some (.sc (.int .i64 n))=>if 0<=n/\b*n.toNat<=281474976710656/\n.toNat<=9223372036854775807 then some [.sl el k (List.replicate n.toNat zz)]else none
 |_=>none
theorem ME{el b n:Nat}{zz:List DV}:aA ρ (.make el k b zz n)=Ky el k b zz ρ[n]?:=by rfl
theorem Qd{el b:Nat}{zz:List DV}(h0:0<=z)(h1:z<=1000000000000)(hb:b<=140):Ky el k b zz (some (.sc (.int .i64 z)))=some [.sl el k (List.replicate z.toNat zz)]:=by
 have h2:b*z.toNat<=140*1000000000000:=Nat.mul_le_mul hb (by omega);have h3:b*z.toNat<=281474976710656:=by omega
 have h4:z.toNat<=9223372036854775807:=by omega
 grind[Ky]
def zv(k off:Nat):Option DV->Option DV->Option (List DV)->Option (List DV)
 |some (.sl t k' es),some (.sc (.int _ z)),some ds=>if k'=k/\0<=z/\off+ds.length<=k then(match es[z.toNat]? with|some e=>some [.sl t k (es.set z.toNat (plug off ds e))]|none=>none)else none
 |_,_,_=>none
theorem Qy{x j off:Nat}{vs:List Nat}:aA ρ (.set k x j off vs)=zv k off ρ[x]? ρ[j]? (gL ρ vs):=by rfl
theorem Sz{off:Nat}{ds e:List DV}(h0:0<=z)(hl:off+ds.length<=k)(he:es[z.toNat]? =some e):zv k off (some (.sl t k es)) (some (.sc (.int kd z))) (some ds)=some [.sl t k (es.set z.toNat (plug off ds e))]:=by
 grind[zv]
theorem gl{α:Type}{e:α->List DV}{l:List α}{ds:List DV}(hk:∀x,(e x).length=k)(h0:0<=z)(h1:z<l.length)(hl:ds.length=k):
 zv k 0 (some (.sl t k (l.map e))) (some (.sc (.int kd z))) (some ds)=some [.sl t k ((l.map e).set z.toNat ds)]:=by
 have hz:z.toNat<l.length:=by omega
 rw[Sz h0 (by omega) (e:=e l[z.toNat]) (by rw[List.getElem?_map,List.getElem?_eq_getElem hz];rfl)]
 have:plug 0 ds (e l[z.toNat])=ds:=by
  simp_all[plug,List.take_zero,List.nil_append,Nat.zero_add,List.drop_of_length_le,Nat.le_refl,List.append_nil]
 rw[this]
def To(mx:Bool):Option DV->Option DV->Option (List DV)
 |some (.sc (.int k a)),some (.sc (.int k' b))=>if k=k' then some [.sc (.int k (P8 mx a b))]else none
 |_,_=>none
theorem RU{mx:Bool}{x y:Nat}:aA ρ (.mm mx x y)=To mx ρ[x]? ρ[y]?:=by rfl
theorem R9{a b:Int}:To true (some (.sc (.int kd a))) (some (.sc (.int kd b)))=some [.sc (.int kd (max a b))]:=by simp[To,P8]
theorem TS{a b:Int}:To false (some (.sc (.int kd a))) (some (.sc (.int kd b)))=some [.sc (.int kd (min a b))]:=by simp[To,P8]
def HJ(neg:Bool)(ks:List Kd):Option (List DV)->Option (List DV)->Option (List DV)
 |some ds,some es=>(match zy ks ds es with|some b=>some [.sc (.bool (if neg then !b else b))]|none=>none)
 |_,_=>none
theorem PV{neg:Bool}{ks:List Kd}{xs ys:List Nat}:aA ρ (.eqS neg ks xs ys)=HJ neg ks (gL ρ xs) (gL ρ ys):=by rfl
theorem ST{ks:List Kd}{ds es:List DV}{b:Bool}(h:zy ks ds es=some b):HJ false ks (some ds) (some es)=some [.sc (.bool b)]:=by simp[HJ,h]
theorem Lq{ks:List Kd}{ds es:List DV}{b:Bool}(h:zy ks ds es=some b):HJ true ks (some ds) (some es)=some [.sc (.bool (!b))]:=by simp[HJ,h]
def yY:Option DV->Option (Option Int)->Option (Option Int)->Option (List DV)
 |some (.sl _ _ es),some l,some h=>(match mv l h es.length with|some (a,b)=>some [.sc (.int .i64 a),.sc (.int .i64 ((b-a:Nat):Int))]|none=>none)
 |_,_,_=>none
theorem LY{x:Nat}{lo hi:Option Nat}:aA ρ (.cutI x lo hi)=yY ρ[x]? (zA ρ lo) (zA ρ hi):=by rfl
theorem Ut{a b:Int}(h1:0<=a)(h2:a<=b)(h3:b<=es.length):yY (some (.sl t k es)) (some (some a)) (some (some b))=some [.sc (.int .i64 a),.sc (.int .i64 (b-a))]:=by
 simp only[yY,mv,Option.getD_some];rw[if_pos ⟨h1,h2,h3⟩]
 grind
theorem Sq{a:Int}(h1:0<=a)(h2:a<=es.length):yY (some (.sl t k es)) (some (some a)) (some none)=some [.sc (.int .i64 a),.sc (.int .i64 (es.length-a))]:=by
 simp only[yY,mv,Option.getD_some,Option.getD_none];rw[if_pos ⟨h1,h2,Int.le_refl _⟩]
 grind
theorem SU{b:Int}(h1:0<=b)(h2:b<=es.length):yY (some (.sl t k es)) (some none) (some (some b))=some [.sc (.int .i64 0),.sc (.int .i64 b)]:=by
 simp only[yY,mv,Option.getD_some,Option.getD_none];rw[if_pos ⟨Int.le_refl _,h1,h2⟩]
 grind
def O5:Option DV->Option DV->Option DV->Option (List DV)
 |some (.sc (.int .i64 u)),some (.sc (.int .i64 v)),some (.sc (.int _ j))=>if 0<=u/\0<=j/\j<v then some [.sc (.int .i64 (u+j))]else none
 |_,_,_=>none
theorem QB{x y i:Nat}:aA ρ (.atJ x y i)=O5 ρ[x]? ρ[y]? ρ[i]?:=by rfl
theorem TD{u v j:Int}(h1:0<=u)(h2:0<=j)(h3:j<v):O5 (some (.sc (.int .i64 u))) (some (.sc (.int .i64 v))) (some (.sc (.int kd j)))=some [.sc (.int .i64 (u+j))]:=by grind[O5]
def ya:Option DV->Option DV->Option DV->Option (List DV)
 |some (.sl t k es),some (.sc (.int .i64 u)),some (.sc (.int .i64 v))=>some [.sl t k ((es.drop u.toNat).take v.toNat)]
 |_,_,_=>none
theorem Kv{x y i:Nat}:aA ρ (.viewD x y i)=ya ρ[x]? ρ[y]? ρ[i]?:=by rfl
theorem Mv{u v:Int}:ya (some (.sl t k es)) (some (.sc (.int .i64 u))) (some (.sc (.int .i64 v)))=some [.sl t k ((es.drop u.toNat).take v.toNat)]:=rfl
theorem Bh{α:Type}{e:α->List DV}{l:List α}{u v:Int}:ya (some (.sl t k (l.map e))) (some (.sc (.int .i64 u))) (some (.sc (.int .i64 v)))=some [.sl t k (((l.drop u.toNat).take v.toNat).map e)]:=by
 rw[Mv,List.map_take,List.map_drop]
def Dd:Option DV->Option DV->Option DV->Option (List DV)
 |some (.sl t k es),some (.sc (.int .i64 u)),some (.sc (.int .i64 v))=>if u=0/\v.toNat<=es.length then some [.sl t k (es.take v.toNat)]else none
 |_,_,_=>none
theorem MU{x y i:Nat}:aA ρ (.cutP x y i)=Dd ρ[x]? ρ[y]? ρ[i]?:=by rfl
theorem EM{α:Type}{e:α->List DV}{l:List α}{v:Int}(h:v<=l.length):Dd (some (.sl t k (l.map e))) (some (.sc (.int .i64 0))) (some (.sc (.int .i64 v)))=some [.sl t k ((l.take v.toNat).map e)]:=by
 have:v.toNat<=(l.map e).length:=by rw[List.length_map];omega
 simp_all[Dd,true_and,if_true,List.map_take]
def HT:Option DV->Option (List DV)
 |some (.sl _ _ es)=>some [.sc (.bool es.isEmpty)]
 |_=>none
theorem Rg{x:Nat}:aA ρ (.emp x)=HT ρ[x]?:=by rfl
theorem Sk{α:Type}{e:α->List DV}{l:List α}:HT (some (.sl t k (l.map e)))=some [.sc (.bool l.isEmpty)]:=by simp[HT]
def RW(n:Nat):Option DV->Option (List DV)
 |some (.sl _ 0 [[x],cs])=>if cs.length+1=n then some (x::cs)else none
 |_=>none
theorem Qf{z n:Nat}:aA ρ (.unc z n)=RW n ρ[z]?:=by rfl
def Jj(off:Nat):Option DV->Option DV->Option (List DV)
 |some (.sl t 0 [[x],cs]),some (.sc u)=>if pB u=true/\0<off/\off-1<cs.length then some [.sl t 0 [[x],cs.set (off-1) (.sc u)]]else none
 |_,_=>none
theorem Q8{z off v:Nat}:aA ρ (.cuS z off v)=Jj off ρ[z]? ρ[v]?:=by rfl
theorem NX{ty off:Nat}{x:DV}{cs:List DV}{u:Value}(h:pB u=true)(ho:off<cs.length):Jj (off+1) (some (iP ty x cs)) (some (.sc u))=some [iP ty x (cs.set off (.sc u))]:=by grind[Jj,iP]
def UO(k:Nat):Option DV->Option DV->Option DV->Option DV->Option DV->Option (List DV)
 |some (.sl t k' es),some (.sc (.int .i64 a)),some (.sc (.int .i64 m)),some (.sc (.int .i64 b)),some (.sc (.int .i64 m'))=>
  if k'=k/\es.flatten.all mK=true then some [.sl t k (Se es a.toNat m.toNat b.toNat m'.toNat),.sc (.int .i64 ((min m'.toNat m.toNat:Nat):Int))]else none
 |_,_,_,_,_=>none
theorem OO{k x lo n lo' n':Nat}:aA ρ (.cpy k x lo n lo' n')=UO k ρ[x]? ρ[lo]? ρ[n]? ρ[lo']? ρ[n']?:=by rfl
theorem Ff{n:Nat}:(n:Int)+1=((n+1:Nat):Int):=rfl
end
theorem aq:(∀(α:Type) (l:List α) (n:Nat),(l.take n).length=min n l.length)/\(∀(α:Type) (l:List α) (n:Nat),(l.drop n).length=l.length-n)/\(∀(α:Type) (l m:List α),(l++m).length=l.length+m.length)/\
 (∀(α β:Type) (f:α->β) (x:α) (l:List α),(x::l).map f=f x::l.map f)/\(∀(α β:Type) (f:α->β),([]:List α).map f=[])/\(∀(α β:Type) (f:α->β) (l:List α),(l.map f).length=l.length)/\
 (∀(α:Type) (x:α) (l:List α),(x::l).length=l.length+1)/\(∀α:Type,([]:List α).length=0)/\(∀(α:Type) (l:List α) (n:Nat) (x:α),(l.set n x).length=l.length)/\(∀(α:Type) (n:Nat) (x:α),(List.replicate n x).length=n):=
 ⟨λ_ _ _=>List.length_take,λ_ _ _=>List.length_drop,λ_ _ _=>List.length_append,λ_ _ _ _ _=>rfl,λ_ _ _=>rfl,λ_ _ _ _=>List.length_map _,λ_ _ _=>rfl,λ_=>rfl,λ_ _ _ _=>List.length_set,λ_ _ _=>List.length_replicate⟩
theorem ap:(∀(α:Type) (x:α) (l:List α),(x::l).length=l.length+1)/\(∀α:Type,([]:List α).length=0)/\(∀n:Nat,0+n=n):=⟨λ_ _ _=>rfl,λ_=>rfl,Nat.zero_add⟩
attribute[go_sem] IT L4 UL U6 RY BI yu Rc MK RR Ns Dz LP UE Uu Rb
attribute[go_sem] Sn RF R6 Sj Su SI TH R8 TA TN S8 TI Tu S5 R1 R0
attribute[go_sem] Ss Sw gr Q4 RS SW Tk Tv TC TE TF Pe LD OX M3 Qa SB
attribute[go_sem] PM TM OM MJ ON Mz Pw Pn QW P9 PI aY MI OR RZ SM
attribute[go_sem] LG Uo Sx Sd Un HX Lo Kp Qs OF OK Ox Mf Sp Vi ME
attribute[go_sem] LY Ut Sq SU QB TD Kv Bh MU EM Rg Sk Qf Q8 OO
attribute[go_sem] Qd Qy PV RU R9 TS Aj Sm TJ jZ d5 ca gL CZ dc List.getElem?_cons_zero
attribute[go_sem] List.getElem?_cons_succ List.getElem?_nil List.map_cons List.map_nil List.length_map List.length_cons List.length_nil List.nil_append List.cons_append Option.map_some Option.getD_some Option.getD_none Int.toNat_natCast Int.natCast_zero if_true Bool.not_true
attribute[go_sem] Bool.not_false not_false_eq_true not_true_eq_false true_implies false_implies implies_true and_true true_and Nat.add_sub_cancel_left decide_true decide_false List.all_cons List.all_nil Bool.and_true beq_self_eq_true Bool.and_self
attribute[go_sem] Ff
attribute[go_sem_proc] Nat.reduceAdd Int.reduceNeg Int.reduceAdd Int.reduceSub Int.reduceMul Int.reduceLT Int.reduceLE Int.reduceEq Int.reduceToNat Nat.reduceBEq
attribute[go_sem_proc ↓] reduceIte
end Go.Proofs.Ytgdbmcoamemmaaa
namespace Go.Proofs.Ytgdbmcoamemmaaa
open Go.RowKit
def DW:UP->List Nat->Bool
 |.po _ k,A=>DW k A
 |.cl _ _ _ k,A=>DW k A
 |.mk _ _ _ _ k,A=>DW k A
 |.ite _ a b,A=>DW a A&&DW b A
 |.jump l xs,A=>decide (A[l]? =some xs.length)
 |.join n rest k,A=>DW rest A&&DW k (A++[n])
 |.loop xs body,A=>DW body (A++[xs.length])
 |.ret _,A=>true
 |.sel _ k,A=>DW k A
section
variable {P:Program}
abbrev OutU:=Sum (List (Bool×List DV)) (Nat×List DV)
def Fy(o:OutU)(n:Nat):Lbl:=(List.range n).map λl vs=>o=.inr (l,vs)
theorem Dh{o:OutU}{n:Nat}:Fy o (n+1)=Fy o n++[λvs=>o=.inr (n,vs)]:=by grind[Fy,List.range_succ]
theorem Fr{o:OutU}{n l:Nat}(h:l<n):(Fy o n)[l]? =some λvs=>o=.inr (l,vs):=by grind[Fy,List.getElem?_range]
theorem mt{o:OutU}{n:Nat}:(Fy o n).length=n:=by simp[Fy]
theorem DT{o:OutU}{n:Nat}{J:List DV->Prop}:(Fy o n++[J])[n]? =some J:=by have:=List.getElem?_concat_length (l:=Fy o n) (a:=J);rwa [mt]at this
theorem rL:∀(up:UP) {R R':List (Bool×List DV)->Prop} {L L':Lbl} {ρ:List DV},(∀r,R r->R' r)->M7 L L'->L.length=L'.length->V P R up L ρ->V P R' up L' ρ:=by
 intro up
 induction up with
 |po o k ih=>intro R R' L L' ρ hR h hl hv;rw[IT]at hv ⊢;cases he:aA ρ o with
  |none=>rw[he]at hv;exact hv
  |some out=>rw[he]at hv;exact ih hR h hl hv
 |cl f ar sh k ih=>intro R R' L L' ρ hR h hl hv;obtain⟨ys,res,h1,h2,h3,h4⟩:=hv;exact⟨ys,res,h1,h2,h3,ih hR h hl h4⟩
 |mk f b xs j k ih=>intro R R' L L' ρ hR h hl hv;obtain⟨ds,ds',n,n',h1,h2,h3,h4,h5⟩:=hv;exact⟨ds,ds',n,n',h1,h2,h3,h4,ih hR h hl h5⟩
 |ite x a b iha ihb=>
  grind[V]
 |jump l xs=>intro R R' L L' ρ hR h hl hv;obtain⟨J,vs,h1,h2,h3⟩:=hv;obtain⟨J',h4,h5⟩:=h l J h1;exact⟨J',vs,h4,h2,h5 vs h3⟩
 |join n rest k ihr ihk=>intro R R' L L' ρ hR h hl hv;obtain⟨J,h1,h2⟩:=hv;exact⟨J,λvs a b=>ihr hR h hl (h1 vs a b),ihk hR (h.snoc hl λ_ h=>h) (by grind) h2⟩
 |loop xs body ih=>intro R R' L L' ρ hR h hl hv;obtain⟨I,m,vs,h1,h2,h3⟩:=hv;exact⟨I,m,vs,h1,h2,λvs m a b=>ih hR (h.snoc hl λ_ h=>h) (by grind) (h3 vs m a b)⟩
 |ret xs=>intro R R' L L' ρ hR h hl hv;obtain⟨vs,h1,h2⟩:=hv;exact⟨vs,h1,hR _ h2⟩
 |sel xs k ih=>intro R R' L L' ρ hR h hl hv;rw[Dz]at hv ⊢;cases he:gL ρ xs with
  |none=>rw[he]at hv;exact hv
  |some out=>rw[he]at hv;exact ih hR h hl hv
theorem Kr{o:OutU}{n:Nat}{L:Lbl}(hl:L.length=n)(h:∀l vs,o=.inr (l,vs)->l<n->∃J,L[l]? =some J/\J vs):M7 (Fy o n) L:=by
 intro l J hJ;have hlt:l<n:=by have:=(List.getElem?_eq_some_iff.1 hJ).1;rw[mt]at this;omega
 rw[Fr hlt]at hJ
 grind
def Rr(R:List (Bool×List DV)->Prop)(L:Lbl)(A:List Nat):OutU->Prop
 |.inl r=>R r
 |.inr (l,vs)=>A[l]? =some vs.length/\∃J,L[l]? =some J/\J vs
theorem EZ:∀{ρ:List DV} {xs:List Nat} {vs:List DV},gL ρ xs=some vs->vs.length=xs.length
 |ρ,[],vs,h=>by grind[gL]
 |ρ,x::xs,vs,h=>by
  simp only[gL]at h;split at h
  ·rename_i a b h1 h2;injection h with h;subst h;simp only[List.length_cons,EZ h2]
  grind
theorem SE:∀(up:UP) {R:List (Bool×List DV)->Prop} {L:Lbl} {A:List Nat} {ρ:List DV},DW up A=true->A.length=L.length->V P R up L ρ->∃o,Rr R L A o/\V P (λr=>o=.inl r) up (Fy o L.length) ρ:=by
 intro up
 induction up with
 |po o k ih=>
  intro R L A ρ hw hA hv;rw[IT]at hv
  cases he:aA ρ o with
  |none=>rw[he]at hv;exact hv.elim
  |some out=>
   rw[he]at hv;obtain⟨q,h1,h2⟩:=ih hw hA hv
   exact⟨q,h1,by rw[IT,he];exact h2⟩
 |cl f ar sh k ih=>
  intro R L A ρ hw hA hv;obtain⟨ys,res,h1,h2,h3,h4⟩:=hv;obtain⟨q,g1,g2⟩:=ih hw hA h4
  exact⟨q,g1,ys,res,h1,h2,h3,g2⟩
 |mk f b xs j k ih=>
  intro R L A ρ hw hA hv;obtain⟨ds,ds',n,n',h1,h2,h3,h4,h5⟩:=hv;obtain⟨q,g1,g2⟩:=ih hw hA h5
  exact⟨q,g1,ds,ds',n,n',h1,h2,h3,h4,g2⟩
 |ite x a b iha ihb=>
  intro R L A ρ hw hA hv;simp only[DW,Bool.and_eq_true]at hw;simp only[V]at hv ⊢
  grind
 |jump l xs=>
  intro R L A ρ hw hA hv;obtain⟨J,vs,h1,h2,h3⟩:=hv;simp only[DW,decide_eq_true_eq]at hw
  exact⟨.inr (l,vs),⟨by rw[hw,EZ h2],J,h1,h3⟩,_,vs,Fr (List.getElem?_eq_some_iff.1 h1).1,h2,rfl⟩
 |join n rest k ihr ihk=>
  intro R L A ρ hw hA hv;simp only[DW,Bool.and_eq_true]at hw;obtain⟨J,h1,h2⟩:=hv;obtain⟨o1,g1,g2⟩:=ihk hw.2 (by grind) h2;simp only[List.length_append,List.length_singleton]at g2
  have other:(∀vs,o1≠.inr (L.length,vs))->Rr R L A o1->∃o,Rr R L A o/\V P (λr=>o=.inl r) (.join n rest k) (Fy o L.length) ρ:=λhne hok=>
   ⟨o1,hok,λvs=>o1=.inr (L.length,vs),λvs _ he=>absurd he (hne vs),by rw[<-Dh];exact g2⟩
  cases o1 with
  |inl r=>exact other (λvs h=>by cases h) g1
  |inr p=>
   obtain⟨l,vs⟩:=p;obtain⟨q1,J',q2,q3⟩:=g1;have hl:l<L.length+1:=by have:=(List.getElem?_eq_some_iff.1 q2).1;grind
   rcases Nat.lt_or_ge l L.length with hlt|hge
   ·rw[List.getElem?_append_left (by omega)]at q1;rw[List.getElem?_append_left hlt]at q2;exact other (λvs' h=>by grind) ⟨q1,J',q2,q3⟩
   ·obtain rfl:l=L.length:=by omega
    rw[<-hA,List.getElem?_concat_length]at q1;injection q1 with q1;rw[List.getElem?_concat_length]at q2;injection q2 with q2;subst q2;obtain⟨o2,p1,p2⟩:=ihr hw.1 hA (h1 vs q1.symm q3)
    refine⟨o2,p1,(· =vs),λvs' _ he=>he▸p2,rL k (λr h=>by cases h) (Kr (by simp[mt]) λl' vs' h hlt=>?_) (by simp[mt]) g2⟩
    injection h with h;injection h with h h';subst h h'
    exact⟨_,DT,rfl⟩
 |loop xs body ih=>
  intro R L A ρ hw hA hv;simp only[DW]at hw;obtain⟨I,m,vs,h1,h2,h3⟩:=hv
  have key:∀m vs,vs.length=xs.length->I vs m->∃o,Rr R L A o/\∃I':List DV->Nat->Prop,I' vs m/\∀vs' m',vs'.length=xs.length->I' vs' m'->V P (λr=>o=.inl r) body (Fy o L.length++[λv=>∃m'',m''<m'/\I' v m'']) (jZ vs' ρ):=by
   intro m
   induction m using Nat.strongRecOn with
   |ind m ihm=>
    intro vs hlen hI;obtain⟨o1,g1,g2⟩:=ih hw (by grind) (h3 vs m hlen hI);simp only[List.length_append,List.length_singleton]at g2
    have other:(∀vs,o1≠.inr (L.length,vs))->Rr R L A o1->∃o,Rr R L A o/\∃I':List DV->Nat->Prop,I' vs m/\∀vs' m',vs'.length=xs.length->I' vs' m'->V P (λr=>o=.inl r) body (Fy o L.length++[λv=>∃m'',m''<m'/\I' v m'']) (jZ vs' ρ):=λhne hok=>by
     refine⟨o1,hok,λv k=>v=vs/\k=m,⟨rfl,rfl⟩,?_⟩;rintro _ _ _ ⟨rfl,rfl⟩;refine rL body (λr h=>h) ?_ (by simp[mt]) g2;rw[Dh];exact M7.snoc (λl J h=>⟨J,h,λ_ h=>h⟩) rfl (λv he=>absurd he (hne v))
    cases o1 with
    |inl r=>exact other (λvs h=>by cases h) g1
    |inr p=>
     obtain⟨l,vs1⟩:=p;obtain⟨q1,J',q2,q3⟩:=g1;have hl:l<L.length+1:=by have:=(List.getElem?_eq_some_iff.1 q2).1;grind
     rcases Nat.lt_or_ge l L.length with hlt|hge
     ·rw[List.getElem?_append_left (by omega)]at q1;rw[List.getElem?_append_left hlt]at q2;exact other (λvs' h=>by grind) ⟨q1,J',q2,q3⟩
     ·obtain rfl:l=L.length:=by omega
      rw[<-hA,List.getElem?_concat_length]at q1;injection q1 with q1;rw[List.getElem?_concat_length]at q2;injection q2 with q2;subst q2;obtain⟨m1,k1,k2⟩:=q3;obtain⟨o,r1,I1,r2,r3⟩:=ihm m1 k1 vs1 q1.symm k2;refine⟨o,r1,λv k=>(v=vs/\k=m)\/(k<m/\I1 v k),.inl ⟨rfl,rfl⟩,?_⟩;rintro v k hv (⟨rfl,rfl⟩|⟨hk,hI1⟩)
      ·refine rL body (λr h=>by cases h) (Kr (by simp[mt]) λl' vs' h hlt=>?_) (by simp[mt]) g2
       grind[DT]
      ·refine rL body (λr h=>h) (M7.snoc (λl J h=>⟨J,h,λ_ h=>h⟩) rfl ?_) (by simp) (r3 v k hv hI1)
       grind
  obtain⟨o,r1,I',r2,r3⟩:=key m vs (EZ h1) h2
  exact⟨o,r1,I',m,vs,h1,r2,r3⟩
 |ret xs=>
  intro R L A ρ hw hA hv;obtain⟨vs,h1,h2⟩:=hv
  exact⟨.inl vs,h2,vs,h1,rfl⟩
 |sel xs k ih=>
  intro R L A ρ hw hA hv;rw[Dz]at hv
  cases he:gL ρ xs with
  |none=>rw[he]at hv;exact hv.elim
  |some out=>
   rw[he]at hv;obtain⟨q,h1,h2⟩:=ih hw hA hv;exact⟨q,h1,by rw[Dz,he];exact h2⟩
theorem NT{α:Type}{up:UP}{ρ:List DV}{R:α->List (Bool×List DV)->Prop}{Q:α->Prop}(hw:DW up []=true)(h:V P (λvs=>∃a,Q a/\R a vs) up [] ρ):∃a,Q a/\V P (R a) up [] ρ:=by
 obtain⟨o,h1,h2⟩:=SE up hw rfl h
 cases o with
 |inl r=>
  obtain⟨a,q1,q2⟩:=h1
  exact⟨a,q1,rL up (λr' he=>by grind) (λl J h=>by grind) rfl h2⟩
 |inr p=>obtain⟨_,J,hJ,_⟩:=h1;grind
theorem CS{α:Type}{ow:fM}{hs:List aP}{dn:List (Nat×Nat×Bool×List Nat)}{f:FuncId}{fn:Func}{args:List (Bool×List DV)}{res:α->List Rs}{Q:α->Prop}{sh:List (Bool×Nat)}{up:UP}
 (hf:P.funcs[f]? =some fn) (hg:aR P f fn ow hs dn=some (sh,up)) (hsh:Bp args=sh) (hwf:DW up []=true) (hw:V P (λvs=>∃a,Q a/\mW (res a) vs) up [] (jZ (d5 args) [])):∃a,Q a/\aI P f args (res a):=by
 obtain⟨a,h1,h2⟩:=NT hwf hw
 grind[ah]
theorem ff{α:Type}{ow:fM}{hs:List aP}{dn:List (Nat×Nat×Bool×List Nat)}{f:FuncId}{fn:Func}{t:Nat}{x:DV}{cs:List DV}{cs':α->List DV}{rest:List (Bool×List DV)}{res:α->List Rs}{Q:α->Prop}{sh:List (Bool×Nat)}{up:UP}
 (hf:P.funcs[f]? =some fn) (hg:eJ P f fn ow hs dn t=some (sh,up)) (hsh:Bp rest=sh) (hdp:∀a,∀r∈res a,r.2.2=true) (hwf:DW up []=true) (hw:V P (λvs=>∃a,Q a/\Uc t (res a) (cs' a) vs) up [] (jZ (d5 ((false,[iP t x cs])::rest)) [])):∃a,Q a/\cG P f t x cs rest (res a) (cs' a):=by
 obtain⟨a,h1,h2⟩:=NT hwf hw
 grind[ge]
end
end Go.Proofs.Ytgdbmcoamemmaaa
namespace Go.Proofs.Ytgdbmcoamemmaaa
open Go.RowKit
set_option maxRecDepth 100000
def cV:fM:=⟨λg=>!([]:List FuncId).contains g,false,[],[],[47,48,49,50,76,77,78,79,80,82,83,93,94],[(46,85)],[(32,1),(33,1),(34,1),(41,1),(52,1),(74,1)],[]⟩
def tL:List aP:=[⟨2000005,1,⟨[aa 186 92,aa 166 91,aa 17 89,aa 123 87,aa 99 84,aa 13 81,aa 12 82,aa 95 78,bi 10 30 30,aa 56 64,aa 9 56,al 8 29 29 0,aa 7 44,al 6 23 23 0,al 5 17 17 0,al 4 16 16 0,al 3 15 15 0,aa 23 2,aa 2 1,aa 0 0],[(15,.var 15 28 [.d 3,.own 0 0,.own 1 1,.own 2 2,.own 3 3,.own 4 4,.d 9,.d 10]),(4,.row 4 9 1 8),(3,.row 3 9 1 7),(2,.row 2 9 1 6),(1,.row 1 28 8 5),(0,.row 0 42 3 4),(16,.var 16 28 [.d 11,.own 5 5,.own 6 6,.own 7 7,.own 8 8,.own 9 9,.d 17,.d 18]),(9,.row 9 9 1 16),(8,.row 8 9 1 15),(7,.row 7 9 1 14),(6,.row 6 28 8 13),(5,.row 5 42 3 12),(17,.var 17 28 [.d 19,.own 10 10,.own 11 11,.own 12 12,.own 13 13,.own 14 14,.d 25,.d 26]),(14,.row 14 9 1 24),(13,.row 13 9 1 23),(12,.row 12 9 1 22),(11,.row 11 28 8 21),(10,.row 10 42 3 20),(23,.var 23 28 [.d 36,.own 18 18,.own 19 19,.own 20 20,.own 21 21,.own 22 22,.d 42,.d 43]),(22,.row 22 9 1 41),(21,.row 21 9 1 40),(20,.row 20 9 1 39),(19,.row 19 28 8 38),(18,.row 18 42 3 37),(29,.var 29 28 [.d 48,.own 24 24,.own 25 25,.own 26 26,.own 27 27,.own 28 28,.d 54,.d 55]),(28,.row 28 9 1 53),(27,.row 27 9 1 52),(26,.row 26 9 1 51),(25,.row 25 28 8 50),(24,.row 24 42 3 49),(30,.row 30 3 1 66)],31,31,93,[(91,true),(84,false),(79,true),(78,false),(75,false),(72,false),(70,false),(68,false),(64,false),(62,false),(60,false),(2,false),(1,false)]⟩,[]⟩,⟨3000028,1,⟨[aa 17 89,aa 123 87,aa 99 84,aa 13 81,aa 12 82,aa 95 78,bi 10 30 30,aa 56 64,aa 9 56,al 8 29 29 0,aa 7 44,al 6 23 23 0,al 5 17 17 0,al 4 16 16 0,al 3 15 15 0,aa 23 2,aa 2 1,aa 0 0],[(15,.var 15 28 [.d 3,.own 0 0,.own 1 1,.own 2 2,.own 3 3,.own 4 4,.d 9,.d 10]),(4,.row 4 9 1 8),(3,.row 3 9 1 7),(2,.row 2 9 1 6),(1,.row 1 28 8 5),(0,.row 0 42 3 4),(16,.var 16 28 [.d 11,.own 5 5,.own 6 6,.own 7 7,.own 8 8,.own 9 9,.d 17,.d 18]),(9,.row 9 9 1 16),(8,.row 8 9 1 15),(7,.row 7 9 1 14),(6,.row 6 28 8 13),(5,.row 5 42 3 12),(17,.var 17 28 [.d 19,.own 10 10,.own 11 11,.own 12 12,.own 13 13,.own 14 14,.d 25,.d 26]),(14,.row 14 9 1 24),(13,.row 13 9 1 23),(12,.row 12 9 1 22),(11,.row 11 28 8 21),(10,.row 10 42 3 20),(23,.var 23 28 [.d 36,.own 18 18,.own 19 19,.own 20 20,.own 21 21,.own 22 22,.d 42,.d 43]),(22,.row 22 9 1 41),(21,.row 21 9 1 40),(20,.row 20 9 1 39),(19,.row 19 28 8 38),(18,.row 18 42 3 37),(29,.var 29 28 [.d 48,.own 24 24,.own 25 25,.own 26 26,.own 27 27,.own 28 28,.d 54,.d 55]),(28,.row 28 9 1 53),(27,.row 27 9 1 52),(26,.row 26 9 1 51),(25,.row 25 28 8 50),(24,.row 24 42 3 49),(30,.row 30 3 1 66)],31,31,90,[(84,false),(79,true),(78,false),(75,false),(72,false),(70,false),(68,false),(64,false),(62,false),(60,false),(2,false),(1,false)]⟩,[]⟩,⟨1000019,0,⟨[aa 123 87,aa 99 84,aa 13 81,aa 12 82,aa 95 78,bi 10 30 30,aa 56 64,aa 9 56,al 8 29 29 0,aa 7 44,al 6 23 23 0,al 5 17 17 0,al 4 16 16 0,al 3 15 15 0,aa 23 2,aa 2 1,aa 0 0],[(15,.var 15 28 [.d 3,.own 0 0,.own 1 1,.own 2 2,.own 3 3,.own 4 4,.d 9,.d 10]),(4,.row 4 9 1 8),(3,.row 3 9 1 7),(2,.row 2 9 1 6),(1,.row 1 28 8 5),(0,.row 0 42 3 4),(16,.var 16 28 [.d 11,.own 5 5,.own 6 6,.own 7 7,.own 8 8,.own 9 9,.d 17,.d 18]),(9,.row 9 9 1 16),(8,.row 8 9 1 15),(7,.row 7 9 1 14),(6,.row 6 28 8 13),(5,.row 5 42 3 12),(17,.var 17 28 [.d 19,.own 10 10,.own 11 11,.own 12 12,.own 13 13,.own 14 14,.d 25,.d 26]),(14,.row 14 9 1 24),(13,.row 13 9 1 23),(12,.row 12 9 1 22),(11,.row 11 28 8 21),(10,.row 10 42 3 20),(23,.var 23 28 [.d 36,.own 18 18,.own 19 19,.own 20 20,.own 21 21,.own 22 22,.d 42,.d 43]),(22,.row 22 9 1 41),(21,.row 21 9 1 40),(20,.row 20 9 1 39),(19,.row 19 28 8 38),(18,.row 18 42 3 37),(29,.var 29 28 [.d 48,.own 24 24,.own 25 25,.own 26 26,.own 27 27,.own 28 28,.d 54,.d 55]),(28,.row 28 9 1 53),(27,.row 27 9 1 52),(26,.row 26 9 1 51),(25,.row 25 28 8 50),(24,.row 24 42 3 49),(30,.row 30 3 1 66)],31,31,88,[(84,false),(79,true),(78,false),(75,false),(72,false),(70,false),(68,false),(64,false),(62,false),(60,false),(2,false),(1,false)]⟩,[]⟩,⟨3000023,1,⟨[aa 16 114,aa 140 112,aa 15 104,al 14 36 36 0,aa 123 87,aa 99 84,aa 13 81,aa 12 82,aa 95 78,bi 10 30 30,aa 56 64,aa 9 56,al 8 29 29 0,aa 7 44,al 6 23 23 0,al 5 17 17 0,al 4 16 16 0,al 3 15 15 0,aa 23 2,aa 2 1,aa 0 0],[(15,.var 15 28 [.d 3,.own 0 0,.own 1 1,.own 2 2,.own 3 3,.own 4 4,.d 9,.d 10]),(4,.row 4 9 1 8),(3,.row 3 9 1 7),(2,.row 2 9 1 6),(1,.row 1 28 8 5),(0,.row 0 42 3 4),(16,.var 16 28 [.d 11,.own 5 5,.own 6 6,.own 7 7,.own 8 8,.own 9 9,.d 17,.d 18]),(9,.row 9 9 1 16),(8,.row 8 9 1 15),(7,.row 7 9 1 14),(6,.row 6 28 8 13),(5,.row 5 42 3 12),(17,.var 17 28 [.d 19,.own 10 10,.own 11 11,.own 12 12,.own 13 13,.own 14 14,.d 25,.d 26]),(14,.row 14 9 1 24),(13,.row 13 9 1 23),(12,.row 12 9 1 22),(11,.row 11 28 8 21),(10,.row 10 42 3 20),(23,.var 23 28 [.d 36,.own 18 18,.own 19 19,.own 20 20,.own 21 21,.own 22 22,.d 42,.d 43]),(22,.row 22 9 1 41),(21,.row 21 9 1 40),(20,.row 20 9 1 39),(19,.row 19 28 8 38),(18,.row 18 42 3 37),(29,.var 29 28 [.d 48,.own 24 24,.own 25 25,.own 26 26,.own 27 27,.own 28 28,.d 54,.d 55]),(28,.row 28 9 1 53),(27,.row 27 9 1 52),(26,.row 26 9 1 51),(25,.row 25 28 8 50),(24,.row 24 42 3 49),(30,.row 30 3 1 66),(36,.var 36 28 [.d 96,.own 31 31,.own 32 32,.own 33 33,.own 34 34,.own 35 35,.d 102,.d 103]),(35,.row 35 9 1 101),(34,.row 34 9 1 100),(33,.row 33 9 1 99),(32,.row 32 28 8 98),(31,.row 31 42 3 97)],37,37,115,[(112,false),(109,false),(87,true),(84,false),(79,true),(78,false),(75,false),(72,false),(70,false),(68,false),(64,false),(62,false),(60,false),(2,false),(1,false)]⟩,[]⟩,⟨3000013,2,⟨[aa 13 81,aa 12 82,aa 95 78,bi 10 30 30,aa 56 64,aa 9 56,al 8 29 29 0,aa 7 44,al 6 23 23 0,al 5 17 17 0,al 4 16 16 0,al 3 15 15 0,aa 23 2,aa 2 1,aa 0 0],[(15,.var 15 28 [.d 3,.own 0 0,.own 1 1,.own 2 2,.own 3 3,.own 4 4,.d 9,.d 10]),(4,.row 4 9 1 8),(3,.row 3 9 1 7),(2,.row 2 9 1 6),(1,.row 1 28 8 5),(0,.row 0 42 3 4),(16,.var 16 28 [.d 11,.own 5 5,.own 6 6,.own 7 7,.own 8 8,.own 9 9,.d 17,.d 18]),(9,.row 9 9 1 16),(8,.row 8 9 1 15),(7,.row 7 9 1 14),(6,.row 6 28 8 13),(5,.row 5 42 3 12),(17,.var 17 28 [.d 19,.own 10 10,.own 11 11,.own 12 12,.own 13 13,.own 14 14,.d 25,.d 26]),(14,.row 14 9 1 24),(13,.row 13 9 1 23),(12,.row 12 9 1 22),(11,.row 11 28 8 21),(10,.row 10 42 3 20),(23,.var 23 28 [.d 36,.own 18 18,.own 19 19,.own 20 20,.own 21 21,.own 22 22,.d 42,.d 43]),(22,.row 22 9 1 41),(21,.row 21 9 1 40),(20,.row 20 9 1 39),(19,.row 19 28 8 38),(18,.row 18 42 3 37),(29,.var 29 28 [.d 48,.own 24 24,.own 25 25,.own 26 26,.own 27 27,.own 28 28,.d 54,.d 55]),(28,.row 28 9 1 53),(27,.row 27 9 1 52),(26,.row 26 9 1 51),(25,.row 25 28 8 50),(24,.row 24 42 3 49),(30,.row 30 3 1 66)],31,31,83,[(79,true),(78,false),(75,false),(72,false),(70,false),(68,false),(64,false),(62,false),(60,false),(2,false),(1,false)]⟩,[]⟩]
def rA:List (Nat×Nat×Bool×List Nat):=[(30,18,false,[]),(25,15,false,[]),(19,8,false,[6]),(17,11,false,[]),(15,8,false,[]),(8,11,false,[])]
def jH:UP:=.l 3<|.b .lss 1 0<|.ite 0 (.z 2<|.po (.chk 3 4 2)<|.x 3 4 2<|.c 2<|.c 1<|.c 0<|.l 9<|.c 0<|.b .rem 6 0<|.c 0<|.z 0<|.po (.chk 3 11 0)<|.x 3 11 0<|.c 2<|.c 1<|.c 0<|.po (.eqS true [.i,.i,.s] [7,6,5] [2,1,0])<|.c 0<|.ite 0 (.f<|.c 0<|.r 0)<|.i 1<|.a 12 0<|.jump 2 [0])<|.jump 1 []
def eZ:UP:=.i 1<|.a 2 0<|.jump 1 [0]
def ji:UP:=.l 19<|.b .lss 1 0<|.ite 0 (.sel [2,5,6,21]<|.join 1 eZ<|.i 1<|.a 1 0<|.c 0<|.cl 11 [(false,[3]),(false,[0])] aD<|.n 0<|.c 0<|.ite 0 (.z 4<|.po (.chk 3 6 4)<|.x 3 6 4<|.c 2<|.c 1<|.c 0<|.z 7<|.po (.chk 3 10 7)<|.x 3 10 7<|.c 2<|.c 1<|.c 0<|.po (.eqS true [.i,.i,.s] [5,4,3] [2,1,0])<|.c 0<|.c 0<|.ite 0 (.f<|.c 0<|.r 0)<|.jump 2 [0])<|.f<|.c 0<|.ite 0 (.f<|.c 0<|.r 0)<|.jump 2 [0])<|.sel [4,7,8,9,10,11,12,13,14,15,16,17,18,19,20,21,22]<|.cl 14 [(true,[16,15,14,13,12,11,10,9]),(true,[8,7,6,5,4,3,2,1])] fX<|.i 0<|.i 0<|.i 0<|.sel [4,5,6,7,8,9,10,11,12,13,14,15,16,17,18,19,20,21,22,23,24,25,26,27,28]<|.cl 6 [(true,[24,23,22,21,20,19,18,17]),(true,[16,15,14,13,12,11,10,9]),(true,[7,6,5,4,3,2,1,0])] fX<|.i 0<|.i 0<|.i 0<|.n 20<|.ite 0 (.t<|.c 0<|.r 0)<|.s #[]<|.e 5 0<|.ite 0 (.sel [7,8,9,10,11,12,13,14,32,33,34,35,36,37,38,39]<|.cl 8 [(true,[7,6,5,4,3,2,1,0]),(true,[15,14,13,12,11,10,9,8])] aD<|.c 0<|.r 0)<|.f<|.c 0<|.r 0
def jt:UP:=.i 0<|.sel [0,2,3,12,14,15,16,17,18,19,20,21,22,23,24,25,26,27,28,29]<|.loop [0] ji
def i8:UP:=.l 4<|.b .lss 2 0<|.ite 0 (.po (.cutI 6 none (some 3))<|.z 5<|.po (.chk 1 8 5)<|.x 1 8 5<|.c 0<|.po (.viewD 9 2 1)<|.sel [0,1,6,7,10,35]<|.cl 11 [(false,[0]),(false,[1])] aD<|.ite 0 (.t<|.c 0<|.r 0)<|.ite 3 (.z 4<|.po (.chk 1 5 4)<|.x 1 5 4<|.c 0<|.l 7<|.c 0<|.b .leq 1 0<|.c 0<|.c 0<|.i 1<|.a 8 0<|.jump 0 [0,2])<|.f<|.c 0<|.i 1<|.a 6 0<|.jump 0 [0,2])<|.l 6<|.i 0<|.b .gtr 1 0<|.sel [0,5,9,10,11,12,13,14,15,16,17,18,19,20,21,22,23,24,25,26,27,28,29,30,31,32,33,34,35]<|.join 0 jt<|.ite 0 (.c 10<|.c 4<|.c 3<|.sel [2,3,4,5,6,7,8,9,10,12]<|.cl 13 [(false,[0])] cb<|.cl 12 [(true,[16,15,14,13,12,11,10,9]),(true,[7,6,5,4,3,2,1,0])] fX<|.i 0<|.i 0<|.i 0<|.s #[]<|.b .neq 4 0<|.ite 0 (.t<|.f<|.c 0<|.r 0)<|.l 12<|.l 23<|.b .neq 1 0<|.ite 0 (.f<|.c 0<|.r 0)<|.i 0<|.sel [0,16,26,35]<|.loop [0] jH)<|.jump 1 []
def cw:UP:=.f<|.cl 4 [(false,[1])] aD<|.ite 0 (.t<|.c 0<|.r 0)<|.cl 5 [(false,[2])] [(true,[none,some (42,3),some (28,8),some (9,1),some (9,1),some (9,1),none,none],true),(true,[none,some (42,3),some (28,8),some (9,1),some (9,1),some (9,1),none,none],true),(true,[none,some (42,3),some (28,8),some (9,1),some (9,1),some (9,1),none,none],true)]<|.i 0<|.i 0<|.i 0<|.i 0<|.i 0<|.i 0<|.i 0<|.i 0<|.i 0<|.sel [9,10,11,12,13,14,15,16,17,18,19,20,21,22,23,24,25,26,27,28,29,30,31,32]<|.cl 6 [(true,[23,22,21,20,19,18,17,16]),(true,[15,14,13,12,11,10,9,8]),(true,[7,6,5,4,3,2,1,0])] fX<|.i 0<|.i 0<|.i 0<|.cl 7 [(true,[35,34,33,32,31,30,29,28]),(true,[27,26,25,24,23,22,21,20]),(true,[19,18,17,16,15,14,13,12])] fX<|.i 0<|.i 0<|.i 0<|.b .neq 15 3<|.ite 0 (.t<|.t<|.e 18 6<|.c 0<|.r 0)<|.sel [4,5,6,7,8,9,10,11,12,16,17,18,19,20,21,22,23,24,27,31,32,33,34,35,36,37,38,39,40,41,42,43,44,45,46,47,48]<|.cl 8 [(true,[17,16,15,14,13,12,11,10]),(true,[8,7,6,5,4,3,2,1])] aD<|.n 0<|.ite 0 (.t<|.e 12 3<|.c 0<|.r 0)<|.s #[]<|.b .neq 3 0<|.ite 0 (.e 13 4<|.c 0<|.r 0)<|.c 40<|.c 34<|.c 33<|.sel [5,6,7,8,9,10,11,12,20,22,23,24,25,26,27,28,29,30,31,32,33,34,35,36,37,38,39,40]<|.cl 10 [(true,[27,26,25,24,23,22,21,20])] aD<|.c 20<|.c 14<|.c 13<|.cl 9 [(false,[0]),(false,[25]),(true,[20,19,18,17,16,15,14,13])] rV<|.c 0<|.b .neq 30 14<|.ite 0 (.t<|.t<|.t<|.t<|.t<|.c 0<|.r 0)<|.i 1<|.b .lss 32 0<|.ite 0 (.t<|.t<|.t<|.t<|.c 0<|.r 0)<|.i 3<|.b .gtr 34 0<|.ite 0 (.t<|.t<|.t<|.c 0<|.r 0)<|.l 30<|.i 0<|.b .gtr 1 0<|.ite 0 (.t<|.t<|.c 0<|.r 0)<|.l 20<|.i 0<|.b .gtr 1 0<|.ite 0 (.t<|.c 0<|.r 0)<|.t<|.i 0<|.sel [0,1,14,16,17,18,19,20,21,22,23,24,26,28,29,30,31,32,33,34,35,36,37,38,39,40,41,42,43]<|.loop [0,1] i8
theorem cX:aR Try.prog 3 Try.f3 cV tL rA=some ([(false,1)],cw):=by kernel_rfl
def Ce:List aP:=[]
def BA:List (Nat×Nat×Bool×List Nat):=[]
def sa:UP:=.f<|.l 1<|.i 1048576<|.b .gtr 1 0<|.c 0<|.r 0
theorem Bn:aR Try.prog 4 Try.f4 cV Ce BA=some ([(false,1)],sa):=by kernel_rfl
def BJ:List aP:=[⟨3000002,1,⟨[aa 5 4,aa 4 2,aa 0 0,aa 1 1],[],0,0,5,[(2,false)]⟩,[]⟩]
def BD:List (Nat×Nat×Bool×List Nat):=[]
def pQ:UP:=.l 4<|.b .lss 1 0<|.ite 0 (.z 2<|.x 1 6 2<|.e 0 6<|.ite 0 (.t<|.c 0<|.r 0)<|.i 1<|.a 5 0<|.jump 0 [0])<|.f<|.c 0<|.r 0
def tS:UP:=.f<|.i 0<|.loop [0] pQ
theorem BZ:aR Try.prog 11 Try.f11 cV BJ BD=some ([(false,1),(false,1)],tS):=by kernel_rfl
def nz:List aP:=[]
def nC:List (Nat×Nat×Bool×List Nat):=[]
def gc:UP:=.f<|.cl 24 [(true,[16,15,14,13,12,11,10,9])] aD<|.ite 0 (.cl 24 [(true,[9,8,7,6,5,4,3,2])] aD<|.ite 0 (.cl 35 [(true,[18,17,16,15,14,13,12,11]),(true,[10,9,8,7,6,5,4,3])] aD<|.c 0<|.r 0)<|.f<|.c 0<|.r 0)<|.f<|.f<|.c 0<|.r 0
theorem nr:aR Try.prog 8 Try.f8 cV nz nC=some ([(true,8),(true,8)],gc):=by kernel_rfl
def sq:List aP:=[]
def tW:List (Nat×Nat×Bool×List Nat):=[]
def kA:UP:=.i 0<|.cl 24 [(true,[8,7,6,5,4,3,2,1])] aD<|.n 0<|.ite 0 (.i 0<|.c 0<|.r 0)<|.cl 26 [(true,[10,9,8,7,6,5,4,3])] aD<|.c 0<|.r 0
theorem sK:aR Try.prog 10 Try.f10 cV sq tW=some ([(true,8)],kA):=by kernel_rfl
def vZ:List aP:=[⟨3000009,1,⟨[aa 6 37,aa 72 35,aa 5 33,aa 67 31,aa 4 16,al 3 1 1 0,al 2 0 0 0,(0,.p true [.d 0,.d 1,.d 2,.d 3,.d 4,.d 5,.d 6,.d 7]),(1,.p true [.d 8,.d 9,.d 10,.d 11,.d 12,.d 13,.d 14,.d 15])],[(0,.var 0 28 [.d 0,.d 1,.d 2,.d 3,.d 4,.d 5,.d 6,.d 7]),(1,.var 1 28 [.d 8,.d 9,.d 10,.d 11,.d 12,.d 13,.d 14,.d 15])],2,2,38,[(35,false),(31,false),(29,false),(27,false),(25,false),(24,false),(23,false),(20,false),(17,false),(16,false)]⟩,[]⟩,⟨3000004,1,⟨[aa 5 33,aa 67 31,aa 4 16,al 3 1 1 0,al 2 0 0 0,(0,.p true [.d 0,.d 1,.d 2,.d 3,.d 4,.d 5,.d 6,.d 7]),(1,.p true [.d 8,.d 9,.d 10,.d 11,.d 12,.d 13,.d 14,.d 15])],[(0,.var 0 28 [.d 0,.d 1,.d 2,.d 3,.d 4,.d 5,.d 6,.d 7]),(1,.var 1 28 [.d 8,.d 9,.d 10,.d 11,.d 12,.d 13,.d 14,.d 15])],2,2,34,[(31,false),(29,false),(27,false),(25,false),(24,false),(23,false),(20,false),(17,false),(16,false)]⟩,[]⟩]
def vM:List (Nat×Nat×Bool×List Nat):=[(11,12,false,[]),(6,11,false,[])]
def ly:UP:=.l 3<|.b .lss 1 0<|.ite 0 (.z 2<|.x 8 5 2<|.z 10<|.x 8 12 10<|.sel [0,1,2,3,4,5,6,7,8,9,10,11,12,13,14,15,18]<|.cl 35 [(true,[15,14,13,12,11,10,9,8]),(true,[7,6,5,4,3,2,1,0])] aD<|.n 0<|.c 0<|.ite 0 (.f<|.c 0<|.r 0)<|.i 1<|.a 19 0<|.jump 1 [0])<|.t<|.c 0<|.r 0
def lg:UP:=.l 5<|.b .lss 1 0<|.ite 0 (.z 2<|.x 3 7 2<|.c 2<|.c 1<|.c 0<|.z 5<|.x 3 8 5<|.c 2<|.c 1<|.c 0<|.po (.eqS true [.i,.i,.s] [5,4,3] [2,1,0])<|.c 0<|.ite 0 (.f<|.c 0<|.r 0)<|.i 1<|.a 10 0<|.jump 0 [0])<|.i 0<|.sel [0,5,7]<|.loop [0] ly
def mU:UP:=.f<|.b .neq 16 8<|.ite 0 (.t<|.t<|.t<|.t<|.t<|.t<|.t<|.f<|.c 0<|.r 0)<|.l 16<|.l 9<|.b .neq 1 0<|.ite 0 (.t<|.t<|.t<|.t<|.t<|.t<|.f<|.c 0<|.r 0)<|.l 18<|.l 11<|.b .neq 1 0<|.ite 0 (.t<|.t<|.t<|.t<|.t<|.f<|.c 0<|.r 0)<|.b .neq 17 9<|.ite 0 (.t<|.t<|.t<|.t<|.f<|.c 0<|.r 0)<|.b .neq 17 9<|.ite 0 (.t<|.t<|.t<|.f<|.c 0<|.r 0)<|.sel [12,13,14,15,16,20,21,22,23,24]<|.cl 67 [(false,[7]),(false,[2])] aD<|.n 0<|.ite 0 (.t<|.t<|.f<|.c 0<|.r 0)<|.sel [2,3,5,6,7,8,10,11]<|.cl 67 [(false,[5]),(false,[1])] aD<|.n 0<|.ite 0 (.t<|.f<|.c 0<|.r 0)<|.sel [2,4,5,6,8,9]<|.cl 67 [(false,[3]),(false,[0])] aD<|.n 0<|.ite 0 (.f<|.c 0<|.r 0)<|.i 0<|.sel [0,4,5,7,8]<|.loop [0] lg
theorem wy:aR Try.prog 35 Try.f35 cV vZ vM=some ([(true,8),(true,8)],mU):=by kernel_rfl
def qG:List aP:=[⟨3000004,1,⟨[aa 5 7,aa 10 5,aa 4 2,aa 0 0,aa 1 1],[],0,0,8,[(5,false),(2,false)]⟩,[]⟩]
def rp:List (Nat×Nat×Bool×List Nat):=[(6,9,false,[])]
def iw:UP:=.l 3<|.b .lss 1 0<|.ite 0 (.z 2<|.x 1 5 2<|.c 0<|.z 3<|.x 1 5 3<|.c 0<|.b .neq 1 0<|.c 0<|.ite 0 (.f<|.c 0<|.r 0)<|.i 1<|.a 6 0<|.jump 0 [0])<|.t<|.c 0<|.r 0
def i6:UP:=.f<|.l 2<|.l 2<|.b .neq 1 0<|.ite 0 (.f<|.c 0<|.r 0)<|.i 0<|.sel [0,5,6]<|.loop [0] iw
theorem qE:aR Try.prog 67 Try.f67 cV qG rp=some ([(false,1),(false,1)],i6):=by kernel_rfl
def ri:List aP:=[⟨2000001,5,⟨[aa 20 17,aa 12 18,aa 8 16,al 4 6 4 0,al 2 5 3 0,aa 1 8],[(5,.var 3 28 [.d 0,.own 0 0,.own 1 6,.own 2 5,.own 3 1,.own 4 2,.d 6,.d 7]),(4,.row 2 9 1 5),(3,.row 1 9 1 4),(2,.row 5 9 1 19),(1,.row 6 28 8 20),(0,.row 0 42 3 21),(6,.var 4 28 [.d 9,.nil,.nil,.nil,.nil,.nil,.d 10,.d 11])],7,7,22,[(16,true)]⟩,[]⟩,⟨1000003,1,⟨[aa 12 19,aa 8 16,al 4 6 5 0,al 2 5 4 0,aa 1 8],[(5,.var 4 28 [.d 0,.own 0 0,.own 1 1,.own 2 6,.own 3 2,.own 4 3,.d 6,.d 7]),(4,.row 3 9 1 5),(3,.row 2 9 1 4),(2,.row 6 9 1 20),(1,.row 1 28 8 13),(0,.row 0 42 3 14),(6,.var 5 28 [.d 9,.nil,.nil,.nil,.nil,.nil,.d 10,.d 11])],7,7,21,[(16,true)]⟩,[]⟩,⟨3000001,3,⟨[al 4 6 6 0,al 2 5 5 0,aa 1 8],[(5,.var 5 28 [.d 0,.own 0 0,.own 1 1,.own 2 2,.own 3 3,.own 4 4,.d 6,.d 7]),(4,.row 4 9 1 5),(3,.row 3 9 1 4),(2,.row 2 9 1 12),(1,.row 1 28 8 13),(0,.row 0 42 3 14),(6,.var 6 28 [.d 9,.nil,.nil,.nil,.nil,.nil,.d 10,.d 11])],7,7,15,[]⟩,[]⟩]
def qy:List (Nat×Nat×Bool×List Nat):=[]
def cK:UP:=.i 4<|.e 8 0<|.ite 0 (.i 0<|.i 0<|.i 0<|.c 2<|.po (.e 42 3)<|.po (.e 28 8)<|.po (.e 9 1)<|.po (.e 9 1)<|.po (.e 9 1)<|.c 6<|.c 5<|.po (.mk 28 8 [[7,4,3,2,1,0,6,5]])<|.po (.app 28 8 144 16 0)<|.jump 1 [10,13,12,0,16])<|.i 0<|.i 0<|.s #[]<|.c 2<|.c 1<|.c 0<|.po (.mk 42 3 [[2,1,0]])<|.po (.flat 0)<|.po (.app 42 3 32 10 0)<|.jump 1 [5,8,7,12,0]
def cL:UP:=.jump 0 [2,1,0]
def eG:UP:=.sel [0,1,2,6,7,8,9,10,14]<|.cl 26 [(true,[8,0,1,2,7,6,5,4])] aD<|.b .lss 0 4<|.ite 0 (.sel [2,3,4,10]<|.join 5 cL<|.l 2<|.i 0<|.b .gtr 1 0<|.join 1 cK<|.ite 0 (.s #[]<|.c 0<|.po (.mk 9 1 [[0]])<|.po (.flat 0)<|.po (.app 9 1 16 7 0)<|.jump 2 [0])<|.jump 2 [5])<|.c 10<|.c 7<|.c 6<|.ret [(true,[10,2,3,4,9,8,7,6])]
def eU:UP:=.i 0<|.i 0<|.i 0<|.loop [8,9,10] eG
theorem jm:nO Try.prog 32 Try.f32 cV ri qy [(true,[none,some (42,3),some (28,8),some (9,1),some (9,1),some (9,1),none,none],true),(false,[none],false)]=some eU:=by kernel_rfl
def sT:List aP:=[]
def rX:List (Nat×Nat×Bool×List Nat):=[(5,11,false,[])]
def cr:UP:=.i 0<|.i 0<|.i 0<|.s #[]<|.sel [4,5,6,7,8,9,10,11,12,13,14,15,16,17,18,19]<|.cl 39 [(true,[15,14,13,12,11,10,9,8])] aD<|.n 0<|.ite 0 (.i 0<|.i 0<|.i 0<|.s #[105,110,118,97,108,105,100,32,118,101,99,116,111,114]<|.c 3<|.po (.e 42 3)<|.po (.e 28 8)<|.po (.e 9 1)<|.po (.e 9 1)<|.po (.e 9 1)<|.c 7<|.c 6<|.c 5<|.ret [(true,[8,4,3,2,1,0,7,6]),(false,[5])])<|.i 5<|.e 18 0<|.ite 0 (.i 0<|.i 0<|.i 0<|.s #[110,111,116,32,97,32,118,101,99,116,111,114,32,111,102,32,101,108,101,109,101,110,116,115]<|.c 3<|.po (.e 42 3)<|.po (.e 28 8)<|.po (.e 9 1)<|.po (.e 9 1)<|.po (.e 9 1)<|.c 7<|.c 6<|.c 5<|.ret [(true,[8,4,3,2,1,0,7,6]),(false,[5])])<|.sel [4,5,6,7,8,9,10,11,12,13,14,15,16,17,18,19]<|.cl 19 [(true,[15,14,13,12,11,10,9,8])] aD<|.cl 40 [(false,[0]),(false,[13]),(true,[8,7,6,5,4,3,2,1])] rV<|.c 0<|.s #[]<|.b .neq 1 0<|.ite 0 (.i 0<|.i 0<|.i 0<|.c 2<|.po (.e 42 3)<|.po (.e 28 8)<|.po (.e 9 1)<|.po (.e 9 1)<|.po (.e 9 1)<|.c 6<|.c 5<|.c 10<|.ret [(true,[7,4,3,2,1,0,6,5]),(false,[10])])<|.i 0<|.e 21 0<|.ite 0 (.i 0<|.i 0<|.i 0<|.s #[]<|.c 3<|.po (.e 42 3)<|.po (.e 28 8)<|.po (.e 9 1)<|.po (.e 9 1)<|.po (.e 9 1)<|.c 7<|.c 6<|.c 5<|.ret [(true,[8,4,3,2,1,0,7,6]),(false,[5])])<|.sel [5,15,16,17,18,19,20,21,22]<|.cl 42 [(true,[8,7,6,5,4,3,2,1]),(false,[0])] cb<|.c 7<|.c 1<|.c 0<|.sel [0,1,2,3,4,5,6,7]<|.cl 5000041 [(true,[7,6,5,4,3,2,1,0])] fX<|.c 8<|.c 2<|.c 1<|.c 0<|.ret [(true,[8,7,6,5,4,3,2,1]),(false,[0])]
theorem cZ:aR Try.prog 12 Try.f12 cV sT rX=some ([(true,8),(true,8)],cr):=by kernel_rfl
def zH:List aP:=[]
def zp:List (Nat×Nat×Bool×List Nat):=[]
def kQ:UP:=.i 0<|.i 0<|.i 0<|.s #[]<|.sel [4,5,6,7,8,9,10,11]<|.cl 39 [(true,[7,6,5,4,3,2,1,0])] aD<|.n 0<|.ite 0 (.i 0<|.i 0<|.i 0<|.s #[114,101,115,117,108,116,32,105,115,32,116,111,111,32,108,97,114,103,101]<|.c 3<|.po (.e 42 3)<|.po (.e 28 8)<|.po (.e 9 1)<|.po (.e 9 1)<|.po (.e 9 1)<|.c 7<|.c 6<|.c 5<|.ret [(true,[8,4,3,2,1,0,7,6]),(false,[5])])<|.s #[]<|.c 10<|.c 4<|.c 3<|.c 0<|.ret [(true,[10,9,8,7,6,5,4,3]),(false,[0])]
theorem pV:nO Try.prog 41 Try.f41 cV zH zp [(true,[none,some (42,3),some (28,8),some (9,1),some (9,1),some (9,1),none,none],true)]=some kQ:=by kernel_rfl
def sE:List aP:=[]
def sX:List (Nat×Nat×Bool×List Nat):=[(5,11,false,[])]
def ct:UP:=.i 0<|.i 0<|.i 0<|.s #[]<|.sel [4,5,6,7,8,9,10,11,12,13,14,15,16,17,18,19]<|.cl 24 [(true,[15,14,13,12,11,10,9,8])] aD<|.n 0<|.ite 0 (.sel []<|.cl 25 [] fX<|.c 8<|.c 2<|.c 1<|.c 0<|.ret [(true,[8,7,6,5,4,3,2,1]),(false,[0])])<|.i 5<|.e 18 0<|.ite 0 (.i 0<|.i 0<|.i 0<|.s #[110,111,116,32,97,32,118,101,99,116,111,114,32,111,102,32,101,108,101,109,101,110,116,115]<|.c 3<|.po (.e 42 3)<|.po (.e 28 8)<|.po (.e 9 1)<|.po (.e 9 1)<|.po (.e 9 1)<|.c 7<|.c 6<|.c 5<|.ret [(true,[8,4,3,2,1,0,7,6]),(false,[5])])<|.sel [4,5,6,7,8,9,10,11,12,13,14,15,16,17,18,19]<|.cl 26 [(true,[15,14,13,12,11,10,9,8])] aD<|.cl 9 [(false,[0]),(false,[13]),(true,[8,7,6,5,4,3,2,1])] rV<|.c 0<|.s #[]<|.b .neq 1 0<|.ite 0 (.t<|.i 0<|.i 0<|.i 0<|.c 2<|.po (.e 42 3)<|.po (.e 28 8)<|.po (.e 9 1)<|.po (.e 9 1)<|.po (.e 9 1)<|.c 6<|.c 5<|.c 11<|.ret [(true,[7,4,3,2,1,0,6,5]),(false,[11])])<|.i 0<|.e 21 0<|.ite 0 (.i 0<|.i 0<|.i 0<|.c 2<|.po (.e 42 3)<|.po (.e 28 8)<|.po (.e 9 1)<|.po (.e 9 1)<|.po (.e 9 1)<|.c 6<|.c 5<|.c 12<|.ret [(true,[7,4,3,2,1,0,6,5]),(false,[12])])<|.sel [5,15,16,17,18,19,20,21,22]<|.cl 44 [(true,[8,7,6,5,4,3,2,1]),(false,[0])] cb<|.c 7<|.c 1<|.c 0<|.sel [0,1,2,3,4,5,6,7]<|.cl 5000033 [(true,[7,6,5,4,3,2,1,0])] fX<|.i 0<|.i 0<|.i 0<|.c 11<|.c 5<|.c 4<|.c 3<|.ret [(true,[11,10,9,8,7,6,5,4]),(false,[3])]
theorem c8:aR Try.prog 14 Try.f14 cV sE sX=some ([(true,8),(true,8)],ct):=by kernel_rfl
def y9:List aP:=[]
def yB:List (Nat×Nat×Bool×List Nat):=[]
def nV:UP:=.i 0<|.i 0<|.i 0<|.s #[]<|.i 0<|.i 0<|.i 0<|.s #[105,110,118,97,108,105,100,32,118,101,99,116,111,114]<|.c 3<|.po (.e 42 3)<|.po (.e 28 8)<|.po (.e 9 1)<|.po (.e 9 1)<|.po (.e 9 1)<|.c 7<|.c 6<|.c 5<|.ret [(true,[8,4,3,2,1,0,7,6]),(false,[5])]
theorem xf:aR Try.prog 25 Try.f25 cV y9 yB=some ([],nV):=by kernel_rfl
def xa:List aP:=[]
def yH:List (Nat×Nat×Bool×List Nat):=[]
def jO:UP:=.i 0<|.i 0<|.i 0<|.s #[]<|.sel [4,5,6,7,8,9,10,11]<|.cl 24 [(true,[7,6,5,4,3,2,1,0])] aD<|.n 0<|.ite 0 (.i 0<|.i 0<|.i 0<|.s #[114,101,115,117,108,116,32,105,115,32,116,111,111,32,108,97,114,103,101]<|.c 3<|.po (.e 42 3)<|.po (.e 28 8)<|.po (.e 9 1)<|.po (.e 9 1)<|.po (.e 9 1)<|.c 7<|.c 6<|.c 5<|.ret [(true,[8,4,3,2,1,0,7,6]),(false,[5])])<|.s #[]<|.c 10<|.c 4<|.c 3<|.c 0<|.ret [(true,[10,9,8,7,6,5,4,3]),(false,[0])]
theorem nI:nO Try.prog 33 Try.f33 cV xa yH [(true,[none,some (42,3),some (28,8),some (9,1),some (9,1),some (9,1),none,none],true)]=some jO:=by kernel_rfl
def tD:List aP:=[⟨2000003,11,⟨[aa 45 37,aa 9 33,al 10 7 7 0,aa 37 36,aa 36 33,aa 35 29,aa 34 2,aa 22 28,aa 21 26,aa 20 24,aa 19 8,bi 6 4 4,al 5 3 3 0,al 4 1 1 0,al 2 0 0 0,(0,.p true [.d 0,.d 1,.d 2,.d 3,.d 4,.d 5,.d 6,.d 7]),aa 1 8],[(0,.var 0 28 [.d 0,.d 1,.d 2,.d 3,.d 4,.d 5,.d 6,.d 7]),(1,.var 1 28 [.d 9,.nil,.nil,.nil,.nil,.nil,.d 10,.d 11]),(3,.var 3 28 [.d 16,.nil,.own 5 5,.own 6 6,.own 2 2,.nil,.d 14,.d 15]),(2,.row 2 9 1 12),(6,.row 6 9 1 38),(5,.row 5 28 8 39),(4,.row 4 4 1 27),(7,.var 7 28 [.d 40,.d 41,.d 42,.d 43,.d 44,.d 45,.d 46,.d 47])],8,8,48,[(36,true),(28,false)]⟩,[⟨false,3,2,28,8⟩,⟨false,3,3,9,1⟩]⟩,⟨3000010,3,⟨[aa 36 33,aa 35 29,aa 34 2,aa 22 28,aa 21 26,aa 20 24,aa 19 8,bi 6 4 4,al 5 3 3 0,al 4 1 1 0,al 2 0 0 0,(0,.p true [.d 0,.d 1,.d 2,.d 3,.d 4,.d 5,.d 6,.d 7]),aa 1 8],[(0,.var 0 28 [.d 0,.d 1,.d 2,.d 3,.d 4,.d 5,.d 6,.d 7]),(1,.var 1 28 [.d 9,.nil,.nil,.nil,.nil,.nil,.d 10,.d 11]),(3,.var 3 28 [.d 16,.nil,.own 5 5,.own 6 6,.own 2 2,.nil,.d 14,.d 15]),(2,.row 2 9 1 12),(6,.row 6 9 1 34),(5,.row 5 28 8 35),(4,.row 4 4 1 27)],7,7,36,[(28,false)]⟩,[⟨false,3,2,28,8⟩,⟨false,3,3,9,1⟩]⟩,⟨2000001,3,⟨[aa 28 29,aa 8 30,aa 22 28,aa 21 26,aa 20 24,aa 19 8,bi 6 4 4,al 5 3 3 0,al 4 1 1 0,al 2 0 0 0,(0,.p true [.d 0,.d 1,.d 2,.d 3,.d 4,.d 5,.d 6,.d 7]),aa 1 8],[(0,.var 0 28 [.d 0,.d 1,.d 2,.d 3,.d 4,.d 5,.d 6,.d 7]),(1,.var 1 28 [.d 9,.nil,.nil,.nil,.nil,.nil,.d 10,.d 11]),(3,.var 3 28 [.d 16,.nil,.nil,.nil,.own 2 2,.nil,.d 14,.d 15]),(2,.row 2 9 1 12),(4,.row 4 4 1 31)],5,5,32,[(28,true)]⟩,[]⟩,⟨3000004,2,⟨[aa 21 26,aa 20 24,aa 19 8,bi 6 4 4,al 5 3 3 0,al 4 1 1 0,al 2 0 0 0,(0,.p true [.d 0,.d 1,.d 2,.d 3,.d 4,.d 5,.d 6,.d 7]),aa 1 8],[(0,.var 0 28 [.d 0,.d 1,.d 2,.d 3,.d 4,.d 5,.d 6,.d 7]),(1,.var 1 28 [.d 9,.nil,.nil,.nil,.nil,.nil,.d 10,.d 11]),(3,.var 3 28 [.d 16,.nil,.nil,.nil,.own 2 2,.nil,.d 14,.d 15]),(2,.row 2 9 1 12),(4,.row 4 4 1 27)],5,5,28,[]⟩,[]⟩]
def rN:List (Nat×Nat×Bool×List Nat):=[(15,8,false,[]),(13,5,false,[])]
def eS:UP:=.i 1<|.a 5 0<|.jump 0 [0,2]
def dz:UP:=.i 1<|.a 14 0<|.jump 1 [0,11,10]
def jx:UP:=.b .lss 2 6<|.ite 0 (.sel [1,2,3,8,13,14]<|.join 11 dz<|.z 2<|.x 8 5 2<|.i 0<|.i 0<|.i 0<|.i 1<|.a 14 0<|.z 0<|.po (.chk 1 16 0)<|.x 1 16 0<|.ite 0 (.jump 2 [0,15,14,13,12,11,10,9,8,7,6])<|.sel [0,6,7,8,9,10,11,12,13,14,15,16,18]<|.cl 18 [(true,[8,7,6,5,4,3,2,1])] cb<|.po (.mk 28 8 [[7,6,5,4,3,2,1,0]])<|.c 8<|.c 2<|.c 1<|.po (.mk 28 8 [[8,7,6,5,4,3,2,1]])<|.po (.app 28 8 144 19 0)<|.l 23<|.i 0<|.b .gtr 1 0<|.ite 0 (.z 25<|.x 1 26 25<|.c 0<|.po (.mk 9 1 [[0]])<|.c 1<|.po (.mk 9 1 [[1]])<|.po (.flat 0)<|.po (.app 9 1 16 27 0)<|.jump 2 [18,0,7,26,25,24,23,22,21,20,19])<|.jump 2 [14,24,3,22,21,20,19,18,17,16,15])<|.c 9<|.po (.e 42 3)<|.po (.e 9 1)<|.c 13<|.c 12<|.sel [0,1,3,4,11,12,13,14]<|.cl 5000052 [(true,[4,1,2,3,7,0,6,5])] cb<|.c 7<|.c 1<|.c 0<|.ret [(true,[7,6,5,4,3,2,1,0])]
def jc:UP:=.b .lss 1 3<|.ite 0 (.sel [1,2,13,14,15,16,17,18,19,20,21]<|.join 3 eS<|.z 1<|.x 1 2 1<|.cl 19 [(true,[11,10,9,8,7,6,5,4])] aD<|.b .leq 1 0<|.ite 0 (.z 2<|.po (.chk 1 3 2)<|.t<|.c 0<|.po (.set 1 4 3 0 [0])<|.jump 1 [2,4,0])<|.jump 1 [0,2,3])<|.l 19<|.i 0<|.po (.e 28 8)<|.po (.e 9 1)<|.sel [0,1,2,3,5,13,14,15,16,22,23]<|.loop [2,0,1] jx
def kf:UP:=.i 0<|.i 0<|.i 0<|.cl 51 [(false,[7])] tK<|.i 0<|.i 0<|.i 0<|.i 4<|.i 0<|.i 0<|.i 0<|.sel [3,4,5,7,11,12,13,14,15,16,17,18,19]<|.cl 19 [(true,[12,11,10,9,8,7,6,5])] aD<|.i 1<|.a 1 0<|.po (.make 4 1 1 [.sc (.bool false)] 0)<|.l 8<|.i 0<|.loop [0,2] jc
theorem tF:aR Try.prog 17 Try.f17 cV tD rN=some ([(true,8),(false,1)],kf):=by kernel_rfl
def ql:List aP:=[⟨2000001,4,⟨[bi 5 2 2,aa 32 18,aa 20 19,aa 8 20,aa 7 18,aa 14 17,aa 6 14,al 4 1 1 0,al 2 0 0 0,(0,.p true [.d 0,.d 1,.d 2,.d 3,.d 4,.d 5,.d 6,.d 7]),aa 1 8],[(0,.var 0 28 [.d 0,.d 1,.d 2,.d 3,.d 4,.d 5,.d 6,.d 7]),(1,.var 1 28 [.d 9,.nil,.nil,.nil,.nil,.nil,.d 10,.d 11]),(2,.row 2 3 1 21)],3,3,22,[(17,true)]⟩,[]⟩,⟨3000007,2,⟨[aa 8 20,aa 7 21,aa 14 17,aa 6 14,bi 5 2 2,al 4 1 1 0,al 2 0 0 0,(0,.p true [.d 0,.d 1,.d 2,.d 3,.d 4,.d 5,.d 6,.d 7]),aa 1 8],[(0,.var 0 28 [.d 0,.d 1,.d 2,.d 3,.d 4,.d 5,.d 6,.d 7]),(1,.var 1 28 [.d 9,.nil,.nil,.nil,.nil,.nil,.d 10,.d 11]),(2,.row 2 3 1 15)],3,3,22,[(18,true),(17,true)]⟩,[]⟩,⟨3000003,2,⟨[aa 6 14,bi 5 2 2,al 4 1 1 0,al 2 0 0 0,(0,.p true [.d 0,.d 1,.d 2,.d 3,.d 4,.d 5,.d 6,.d 7]),aa 1 8],[(0,.var 0 28 [.d 0,.d 1,.d 2,.d 3,.d 4,.d 5,.d 6,.d 7]),(1,.var 1 28 [.d 9,.nil,.nil,.nil,.nil,.nil,.d 10,.d 11]),(2,.row 2 3 1 15)],3,3,16,[]⟩,[]⟩]
def rm:List (Nat×Nat×Bool×List Nat):=[]
def ij:UP:=.l 6<|.b .lss 2 0<|.ite 0 (.ite 2 (.z 3<|.x 1 8 3<|.b .neq 0 8<|.i 1<|.a 6 0<|.jump 2 [0,2])<|.f<|.i 1<|.a 5 0<|.jump 2 [0,2])<|.ite 2 (.c 7<|.po (.mk 3 1 [[7]])<|.po (.flat 0)<|.po (.app 3 1 8 7 0)<|.jump 1 [4,2,5,0])<|.jump 1 [2,0,3,6]
def b8:UP:=.i 1<|.a 6 0<|.jump 0 [0,2]
def iK:UP:=.sel [0,1,7,8,9,10,11,12,13,14,15]<|.cl 26 [(true,[10,9,8,7,6,5,4,3])] aD<|.b .leq 2 0<|.ite 0 (.sel [2,3,4]<|.join 4 b8<|.t<|.i 0<|.loop [0,1] ij)<|.sel [2,5,6,7,8,9,10,11,12]<|.cl 44 [(true,[8,7,6,5,4,3,2,1]),(false,[0])] cb<|.i 0<|.i 0<|.i 0<|.po (.mk 9 1 [])<|.po (.flat 16)<|.po (.app 9 1 16 0 16)<|.c 12<|.c 6<|.c 5<|.ret [(true,[12,11,10,9,0,7,6,5])]
def jg:UP:=.i 0<|.i 0<|.i 0<|.po (.mk 3 1 [])<|.i 1<|.loop [0,1] iK
theorem rh:aR Try.prog 27 Try.f27 cV ql rm=some ([(true,8),(false,1)],jg):=by kernel_rfl
end Go.Proofs.Ytgdbmcoamemmaaa
