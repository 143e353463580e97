/- Proved: for every input the law 'FnGraft' returns true and its arguments read behind the call as before: part 3 of its proof. No condition. -/
import Derived.WalkKit
import Derived.Lib.Hide
import Derived.WalkSpells
import Derived.Laws.OwnMore
import Derived.Deep.AppendLies
import Derived.Deep.Draws
import Derived.Maps.AppendAt
import Derived.RegionTactic
import Derived.OwnWalk
import Derived.Below
import Derived.Laws.AppendOwnNone
import Derived.Deep.QuietTactic
import Derived.BigQuiet
import Derived.StillTailTactics
import Derived.Laws.Cells
import Derived.Laws.IdiomCopy
import Derived.ChangeKeysEq
import Derived.Laws.BytesArg
import Derived.Laws.StructEq
import Derived.Laws.Tables
import Derived.Great.BuildSlice
import Derived.StillTail
import Derived.OrdersHeld
import Derived.Test.YtngaddcgmnonbaaFnGraftQ2
set_option linter.unusedVariables false
set_option linter.unusedSimpArgs false
namespace Go.Proofs.Ytngaddcgmnonbaa
open Go.RowKit
inductive Pg where
 |nd (n:Nd) (k:Pg)
 |ite (x:Nat) (a b:Pg)
 |jump (l:Nat) (xs:List Nat)
 |join (n:Nat) (rest k:Pg)
 |loop (xs:List Nat) (body:Pg)
 |ret (xs:List (Bool×List Nat))
abbrev Lbl:=List (List DV->Prop)
def W(P:Program)(R:List (Bool×List DV)->Prop):Pg->Lbl->List DV->Prop
 |.nd (.po o) k,L,ρ=>(match av ρ o with|some out=>W P R k L (ρ++out)|none=>False)
 |.nd (.mark f b xs j) k,L,ρ=>∃ds ds' n n',gL ρ (xs.map (·.1))=some ds/\ρ[j]? =some (.sc (.int .i64 n))/\Fg P f b ds n ds' n'/\wd xs ds ds'/\W P R k L (ρ++(ds'++[.sc (.int .i64 n')]))
 |.nd (.call f a sh) k,L,ρ=>∃ys res,cV ρ a=some ys/\dZ P f ys res/\cM sh res=true/\W P R k L (ρ++bP res)
 |.ite x a b,L,ρ=>(match ρ[x]? with|some (.sc (.bool c))=>(match c with|true=>W P R a L ρ|false=>W P R b L ρ)|_=>False)
 |.jump l xs,L,ρ=>∃J vs,L[l]? =some J/\gL ρ xs=some vs/\J vs
 |.join n rest k,L,ρ=>∃J:List DV->Prop,(∀vs,vs.length=n->J vs->W P R rest L (ρ++vs))/\W P R k (L++[J]) ρ
 |.loop xs body,L,ρ=>∃(I:List DV->Nat->Prop) (m:Nat) (vs:List DV),gL ρ xs=some vs/\I vs m/\∀vs m,vs.length=xs.length->I vs m->W P R body (L++[λvs'=>∃m',m'<m/\I vs' m']) (ρ++vs)
 |.ret xs,L,ρ=>∃vs,cV ρ xs=some vs/\R vs
def dl:List Nd->Pg->Pg
 |[],k=>k
 |n::r,k=>.nd n (dl r k)
theorem ei{P:Program}{R:List (Bool×List DV)->Prop}{k:Pg}{L:Lbl}:∀{l:List Nd} {ρ:List DV},W P R (dl l k) L ρ->WN P l (λρ'=>W P R k L ρ'/\aN ρ ρ') ρ:=by
 have key:∀{l:List Nd} {ρ ρ0:List DV},aN ρ0 ρ->W P R (dl l k) L ρ->WN P l (λρ'=>W P R k L ρ'/\aN ρ0 ρ') ρ:=by
  intro l
  induction l with
  |nil=>intro ρ ρ0 hp h;exact⟨h,hp⟩
  |cons n r ih=>
   intro ρ ρ0 hp h
   cases n with
   |po o=>
    simp only[dl,W,WN]at h ⊢;split
    ·rename_i out ho;rw[ho]at h;exact ih (hp.trans (aN.app _ _)) h
    ·rename_i ho;rw[ho]at h;exact h
   |call f a sh=>
    simp only[dl,W,WN]at h ⊢;obtain⟨ys,res,h1,h2,h3,h4⟩:=h
    exact⟨ys,res,h1,h2,h3,ih (hp.trans (aN.app _ _)) h4⟩
   |mark f b xs j=>
    simp only[dl,W,WN]at h ⊢;obtain⟨ds,ds',n,n',h1,h2,h3,h4,h5⟩:=h;exact⟨ds,ds',n,n',h1,h2,h3,h4,ih (hp.trans (aN.app _ _)) h5⟩
 intro l ρ h;exact key (aN.refl _) h
section
variable (base:Nat)(π ψ φ:List Nat)
def mD(p i:Nat):Bool:=if p<base then decide (p=i)else decide (π[p-base]? =some i)
def Qd:List Nat->List Nat->Bool
 |[],[]=>true
 |p::ps,i::is=>mD base π p i&&Qd ps is
 |_,_=>false
def mC:SC->SC->Bool
 |.d p,.d i=>mD base π p i
 |.nil,.nil=>true
 |.own i st,.own i' st'=>decide (φ[i]? =some i'/\ψ[st]? =some st')
 |.ptr i st off,.ptr i' st' off'=>decide (φ[i]? =some i'/\ψ[st]? =some st'/\off'=off)
 |.elt i st k j off,.elt i' st' k' j' off'=>decide (φ[i]? =some i'/\ψ[st]? =some st'/\k'=k/\off'=off)&&mD base π j j'
 |.sub i st k z m,.sub i' st' k' z' m'=>decide (φ[i]? =some i'/\ψ[st]? =some st'/\k'=k)&&(mD base π z z'&&mD base π m m')
 |.emp,.emp=>true
 |.rd ps,.rd is=>Qd base π ps is
 |_,_=>false
def Ko:List SC->List SC->Bool
 |[],[]=>true
 |x::xs,y::ys=>mC base π ψ φ x y&&Ko xs ys
 |_,_=>false
def mT:List (Bool×List SC)->List (Bool×List SC)->Bool
 |[],[]=>true
 |x::xs,y::ys=>decide (x.1=y.1)&&(Ko base π ψ φ x.2 y.2&&mT xs ys)
 |_,_=>false
def mV:SV->SV->Bool
 |.p b cs,.p b' cs'=>decide (b=b')&&Ko base π ψ φ cs cs'
 |.tup xs,.tup ys=>mT base π ψ φ xs ys
 |_,_=>false
def mH:Option (Nat×Nat×Nat×Nat)->Option (Nat×Nat×Nat×Nat)->Bool
 |none,none=>true
 |some (j,off,n,sn),some (j',off',n',sn')=>decide (φ[n]? =some n'/\ψ[sn]? =some sn'/\off=off')&&mD base π j j'
 |_,_=>false
def mO:SO->SO->Bool
 |.var st t cs,.var st' t' cs'=>decide (ψ[st]? =some st'/\t=t')&&Ko base π ψ φ cs cs'
 |.row st t k x,.row st' t' k' x'=>decide (ψ[st]? =some st'/\t=t'/\k=k')&&mD base π x x'
 |.frz st x,.frz st' x'=>decide (ψ[st]? =some st')&&mD base π x x'
 |.dx st x,.dx st' x'=>decide (ψ[st]? =some st')&&mD base π x x'
 |.cur st id t z,.cur st' id' t' z'=>decide (ψ[st]? =some st'/\id=id'/\t=t')&&mD base π z z'
 |.pvr st t cs,.pvr st' t' cs'=>decide (ψ[st]? =some st'/\t=t')&&Ko base π ψ φ cs cs'
 |.shr st t k x,.shr st' t' k' x'=>decide (ψ[st]? =some st'/\t=t'/\k=k')&&mD base π x x'
 |.opn st k x q,.opn st' k' x' q'=>decide (ψ[st]? =some st'/\k=k')&&(mD base π x x'&&mH base π ψ φ q q')
 |_,_=>false
def Oy(H S:Sy):Bool:=
 (H.sl.all λp=>match aG S.sl p.1 with|some v=>mV base π ψ φ p.2 v|none=>false)&&
 ((H.ob.all λp=>decide (p.1<H.n)&&(match p.2 with|.dead=>true|o=>match φ[p.1]? with|some i=>(match aG S.ob i with|some o'=>mO base π ψ φ o o'|none=>false)|none=>false))&&
 ((H.kn.all λp=>decide (p.1<base/\aG S.kn p.1=some p.2))&&
 (decide (φ.length=H.n/\φ.Nodup/\ψ.length=H.c/\H.m=base+π.length)&&φ.all λi=>decide (i<S.n))))
end
section
variable {base:Nat}{π ψ φ:List Nat}{ρ ρ' vs:List DV}{σ:List Nat}{H S:Sy}{s:AS}
def fφ(φ:List Nat)(i:Nat):Nat:=(φ[i]?).getD 0
def sψ(ψ σ:List Nat):List Nat:=ψ.map λst=>(σ[st]?).getD 0
theorem fK{st st' x:Nat}(h:ψ[st]? =some st')(hx:σ[st']? =some x):(sψ ψ σ)[st]? =some x:=by
 unfold sψ;rw[List.getElem?_map,h];simp[hx]
theorem ma{i i':Nat}(h:φ[i]? =some i'):fφ φ i=i':=by unfold fφ;rw[h];rfl
structure zW(base:Nat)(π:List Nat)(ρ ρ' vs:List DV):Prop where
 len:ρ.length=base
 pre:aN ρ ρ'
 vs:RD ρ' π vs
theorem RD.at:∀{xs:List Nat} {ds:List DV} {i j:Nat},RD ρ xs ds->xs[i]? =some j->∃x,ds[i]? =some x/\ρ[j]? =some x
 |x::xs,d::ds,0,j,h,hi=>by simp at hi;subst hi;exact⟨d,rfl,h.1⟩
 |x::xs,d::ds,i+1,j,h,hi=>by obtain⟨y,h1,h2⟩:=RD.at (i:=i) h.2 (by simpa using hi);exact⟨y,by simpa using h1,h2⟩
 |[],[],i,j,h,hi=>by simp at hi
 |[],_::_,_,_,h,_=>h.elim
 |_::_,[],_,_,h,_=>h.elim
theorem mu(M:zW base π ρ ρ' vs){p i:Nat}{x:DV}(h:mD base π p i=true)(hx:ρ'[i]? =some x):(ρ++vs)[p]? =some x:=by
 unfold mD at h;split at h
 ·rename_i hp;obtain rfl:=of_decide_eq_true h;obtain⟨e,rfl⟩:=M.pre;rw[List.getElem?_append_left (by rw[M.len];exact hp)]at hx ⊢;exact hx
 ·rename_i hp;obtain⟨y,y1,y2⟩:=M.vs.at (of_decide_eq_true h);rw[hx]at y2;injection y2 with y2;subst y2;rw[List.getElem?_append_right (by rw[M.len];omega),M.len];exact y1
theorem H5(M:zW base π ρ ρ' vs):∀{ps is:List Nat} {xs:List DV},Qd base π ps is=true->RD ρ' is xs->RD (ρ++vs) ps xs
 |[],[],[],_,_=>trivial
 |p::ps,i::is,x::xs,h,hx=>by
  simp only[Qd,Bool.and_eq_true]at h
  exact⟨mu M h.1 hx.1,H5 M h.2 hx.2⟩
 |[],[],_::_,_,hx=>hx.elim
 |_::_,_::_,[],_,hx=>hx.elim
 |[],_::_,_,h,_=>by simp[Qd]at h
 |_::_,[],_,h,_=>by simp[Qd]at h
theorem SG(M:zW base π ρ ρ' vs){c c':SC}{y:AC}(h:mC base π ψ φ c c'=true)(hy:RC ρ' σ c' y):∃z,RC (ρ++vs) (sψ ψ σ) c z/\pt (fφ φ) z=y:=by
 cases c<;>cases c'<;>first|(simp[mC]at h;done)|skip
 ·obtain⟨x,rfl,hx⟩:=nk hy;exact⟨.d x,mu M h hx,rfl⟩
 ·cases y<;>first|exact hy.elim|exact⟨.nil,trivial,rfl⟩
 ·cases y<;>first|exact hy.elim|skip
  rename_i i st i' st' a b;simp only[mC,decide_eq_true_eq]at h;obtain⟨rfl,h1⟩:=hy;exact⟨.own i b,⟨rfl,fK h.2 h1⟩,by simp[pt,ma h.1]⟩
 ·cases y<;>first|exact hy.elim|skip
  rename_i i st off i' st' off' a b d;simp only[mC,decide_eq_true_eq]at h;obtain⟨rfl,h1,rfl⟩:=hy;obtain⟨g1,g2,rfl⟩:=h;exact⟨.ptr i b d,⟨rfl,fK g2 h1,rfl⟩,by simp[pt,ma g1]⟩
 ·cases y<;>first|exact hy.elim|skip
  rename_i i st k j off i' st' k' j' off' a b kk jj d;simp only[mC,Bool.and_eq_true,decide_eq_true_eq]at h;obtain⟨rfl,h1,rfl,⟨kd,z,z1,z2,rfl⟩,rfl⟩:=hy;obtain⟨⟨g1,g2,rfl,rfl⟩,g3⟩:=h;exact⟨.elt i b kk z.toNat d,⟨rfl,fK g2 h1,rfl,⟨kd,z,mu M g3 z1,z2,rfl⟩,rfl⟩,by simp[pt,ma g1]⟩
 ·cases y<;>first|exact hy.elim|skip
  exact⟨.rd _,H5 M h hy,rfl⟩
 ·cases y<;>first|exact hy.elim|skip
  rename_i i st k z m i' st' k' z' m' a b kk lo n;simp only[mC,Bool.and_eq_true,decide_eq_true_eq]at h;obtain⟨rfl,h1,rfl,⟨u,u1,u2,rfl⟩,⟨v,v1,v2,rfl⟩⟩:=hy;obtain⟨⟨g1,g2,rfl⟩,g3,g4⟩:=h;exact⟨.sub i b kk u.toNat v.toNat,⟨rfl,fK g2 h1,rfl,⟨u,mu M g3 u1,u2,rfl⟩,⟨v,mu M g4 v1,v2,rfl⟩⟩,by simp[pt,ma g1]⟩
 ·cases y<;>first|exact hy.elim|exact⟨.emp,trivial,rfl⟩
theorem wM(M:zW base π ρ ρ' vs):∀{cs cs':List SC} {ys:List AC},Ko base π ψ φ cs cs'=true->cj ρ' σ cs' ys->∃zs,cj (ρ++vs) (sψ ψ σ) cs zs/\zs.map (pt (fφ φ))=ys
 |[],[],[],_,_=>⟨[],trivial,rfl⟩
 |c::cs,c'::cs',y::ys,h,hy=>by
  simp only[Ko,Bool.and_eq_true]at h;obtain⟨z,z1,z2⟩:=SG M h.1 hy.1;obtain⟨zs,w1,w2⟩:=wM M h.2 hy.2
  exact⟨z::zs,⟨z1,w1⟩,by simp[z2,w2]⟩
 |[],[],_::_,_,hy=>hy.elim
 |_::_,_::_,[],_,hy=>hy.elim
 |[],_::_,_,h,_=>by simp[Ko]at h
 |_::_,[],_,h,_=>by simp[Ko]at h
theorem Mt(M:zW base π ρ ρ' vs):∀{xs xs':List (Bool×List SC)} {ys:List (Bool×List AC)},mT base π ψ φ xs xs'=true->RT ρ' σ xs' ys->∃zs,RT (ρ++vs) (sψ ψ σ) xs zs/\(zs.map λx=>(x.1,x.2.map (pt (fφ φ))))=ys
 |[],[],[],_,_=>⟨[],trivial,rfl⟩
 |x::xs,x'::xs',y::ys,h,hy=>by
  simp only[mT,Bool.and_eq_true,decide_eq_true_eq]at h;obtain⟨z,z1,z2⟩:=wM M h.2.1 hy.1.2;obtain⟨zs,w1,w2⟩:=Mt M h.2.2 hy.2;refine⟨(x.1,z)::zs,⟨⟨rfl,z1⟩,w1⟩,?_⟩
  simp only[List.map_cons,z2,w2,h.1,<-hy.1.1]
 |[],[],_::_,_,hy=>hy.elim
 |_::_,_::_,[],_,hy=>hy.elim
 |[],_::_,_,h,_=>by simp[mT]at h
 |_::_,[],_,h,_=>by simp[mT]at h
theorem Rb(M:zW base π ρ ρ' vs){v v':SV}{y:AV}(h:mV base π ψ φ v v'=true)(hy:RV ρ' σ v' y):∃z,RV (ρ++vs) (sψ ψ σ) v z/\Gk (fφ φ) z=y:=by
 cases v<;>cases v'<;>first|(simp[mV]at h;done)|skip
 ·cases y<;>first|exact hy.elim|skip
  simp only[mV,Bool.and_eq_true,decide_eq_true_eq]at h;obtain⟨rfl,h1⟩:=hy;obtain⟨zs,z1,z2⟩:=wM M h.2 h1;obtain⟨rfl,-⟩:=h;exact⟨.p _ zs,⟨rfl,z1⟩,by simp[Gk,z2]⟩
 ·cases y<;>first|exact hy.elim|skip
  obtain⟨zs,z1,z2⟩:=Mt M h hy;exact⟨.tup zs,z1,by simp only[Gk];rw[z2]⟩
theorem QS(M:zW base π ρ ρ' vs){q q' y:Option (Nat×Nat×Nat×Nat)}(h:mH base π ψ φ q q'=true)(hy:RH ρ' σ q' y):∃z,RH (ρ++vs) (sψ ψ σ) q z/\(z.map λq=>(q.1,q.2.1,fφ φ q.2.2.1,q.2.2.2))=y:=by
 cases q<;>cases q'<;>first|(simp[mH]at h;done)|skip
 ·cases y<;>first|exact hy.elim|exact⟨none,trivial,rfl⟩
 ·cases y<;>first|exact hy.elim|skip
  rename_i q q' y;obtain⟨j,off,n,sn⟩:=q;obtain⟨j',off',n',sn'⟩:=q';obtain⟨a,b,c,d⟩:=y;simp only[mH,Bool.and_eq_true,decide_eq_true_eq]at h;obtain⟨⟨kd,z,z1,z2,rfl⟩,rfl,rfl,h3⟩:=hy;obtain⟨⟨g1,g2,rfl⟩,g3⟩:=h;exact⟨some (z.toNat,_,n,d),⟨⟨kd,z,mu M g3 z1,z2,rfl⟩,rfl,rfl,fK g2 h3⟩,by simp[ma g1]⟩
theorem QZ(M:zW base π ρ ρ' vs){o o':SO}{y:Ob}(h:mO base π ψ φ o o'=true)(hy:RO ρ' σ o' y):∃z,RO (ρ++vs) (sψ ψ σ) o z/\B3 (fφ φ) z=y:=by
 cases o<;>cases o'<;>first|(simp[mO]at h;done)|skip
 ·cases y<;>first|exact hy.elim|skip
  simp only[mO,Bool.and_eq_true,decide_eq_true_eq]at h;obtain⟨h1,rfl,h2⟩:=hy;obtain⟨⟨g1,rfl⟩,g2⟩:=h;obtain⟨zs,z1,z2⟩:=wM M g2 h2;exact⟨.var _ _ zs,⟨fK g1 h1,rfl,z1⟩,by simp[B3,z2]⟩
 ·cases y<;>first|exact hy.elim|skip
  simp only[mO,Bool.and_eq_true,decide_eq_true_eq]at h;obtain⟨h1,rfl,rfl,rfl,h2⟩:=hy;obtain⟨⟨g1,rfl,rfl⟩,g2⟩:=h;exact⟨.row _ _ _ _ true,⟨fK g1 h1,rfl,rfl,rfl,mu M g2 h2⟩,rfl⟩
 ·cases y<;>first|exact hy.elim|skip
  simp only[mO,Bool.and_eq_true,decide_eq_true_eq]at h;obtain⟨h1,h2⟩:=hy;exact⟨.frz _ _,⟨fK h.1 h1,mu M h.2 h2⟩,rfl⟩
 ·cases y<;>first|exact hy.elim|skip
  simp only[mO,Bool.and_eq_true,decide_eq_true_eq]at h;obtain⟨h1,h2⟩:=hy;exact⟨.dx _ _,⟨fK h.1 h1,mu M h.2 h2⟩,rfl⟩
 ·cases y<;>first|exact hy.elim|skip
  simp only[mO,Bool.and_eq_true,decide_eq_true_eq]at h;obtain⟨h1,rfl,rfl,h2⟩:=hy;obtain⟨⟨g1,rfl,rfl⟩,g2⟩:=h;exact⟨.cur _ _ _ _ _,⟨fK g1 h1,rfl,rfl,mu M g2 h2⟩,rfl⟩
 ·cases y<;>first|exact hy.elim|skip
  simp only[mO,Bool.and_eq_true,decide_eq_true_eq]at h;obtain⟨h1,rfl,h2,h3⟩:=hy;obtain⟨⟨g1,rfl⟩,g2,g3⟩:=h;obtain⟨z,z1,z2⟩:=QS M g3 h3;exact⟨.opn _ _ _ _ z,⟨fK g1 h1,rfl,mu M g2 h2,z1⟩,by simp only[B3,z2]⟩
 ·cases y<;>first|exact hy.elim|skip
  simp only[mO,Bool.and_eq_true,decide_eq_true_eq]at h;obtain⟨h1,rfl,h2⟩:=hy;obtain⟨⟨g1,rfl⟩,g2⟩:=h;obtain⟨zs,z1,z2⟩:=wM M g2 h2;exact⟨.pvr _ _ zs,⟨fK g1 h1,rfl,z1⟩,by simp[B3,z2]⟩
 ·cases y<;>first|exact hy.elim|skip
  simp only[mO,Bool.and_eq_true,decide_eq_true_eq]at h;obtain⟨h1,rfl,rfl,rfl,h2⟩:=hy;obtain⟨⟨g1,rfl,rfl⟩,g2⟩:=h;exact⟨.row _ _ _ _ false,⟨fK g1 h1,rfl,rfl,rfl,mu M g2 h2⟩,rfl⟩
theorem oA{α:Type}:∀{l:List (Nat×α)} {i:Nat} {x:α},aG l i=some x->(i,x)∈l
 |(j,y)::r,i,x,h=>by
  simp only[aG]at h;split at h
  ·rename_i e;injection h with h;subst e h;exact List.mem_cons_self ..
  ·exact List.mem_cons_of_mem _ (oA h)
 |[],i,x,h=>by simp[aG]at h
theorem LP(h:Oy base π ψ φ H S=true)(hr:aO S ρ' σ s)(M:zW base π ρ ρ' vs):∃s',Re s s'/\aO H (ρ++vs) (sψ ψ σ) s':=by
 simp only[Oy,Bool.and_eq_true,decide_eq_true_eq]at h;obtain⟨h1,h2,h3,⟨h4,h5,h6,h7⟩,h8⟩:=h
 have hsl:∀t,∃y:AV,(∀v,aG H.sl t=some v->RV (ρ++vs) (sψ ψ σ) v y/\Gk (fφ φ) y=s.sl t)/\(aG H.sl t=none->y=.und):=by
  intro t
  cases ht:aG H.sl t with
  |none=>exact⟨.und,by simp,λ_=>rfl⟩
  |some v=>
   have:=List.all_eq_true.1 h1 _ (oA ht);simp only at this;split at this
   ·rename_i v' hv';obtain⟨z,z1,z2⟩:=Rb M this (hr.sl t v' hv');exact⟨z,λw hw=>by injection hw with hw;subst hw;exact⟨z1,z2⟩,by simp⟩
   ·cases this
 have hob:∀i,∃y:Ob,(∀o,aG H.ob i=some o->i<H.n/\RO (ρ++vs) (sψ ψ σ) o y)/\(y=.dead\/B3 (fφ φ) y=s.ob (fφ φ i)):=by
  intro i
  cases hi:aG H.ob i with
  |none=>exact⟨.dead,by simp,.inl rfl⟩
  |some o=>
   have:=List.all_eq_true.1 h2 _ (oA hi);simp only[Bool.and_eq_true,decide_eq_true_eq]at this;obtain⟨hlt,this⟩:=this;split at this
   ·exact⟨.dead,λw hw=>by injection hw with hw;subst hw;exact⟨hlt,by simp_all[RO]⟩,.inl rfl⟩
   ·split at this
    ·rename_i i' hi';split at this
     ·rename_i o' ho';obtain⟨z,z1,z2⟩:=QZ M this (hr.ob i' o' ho').2;exact⟨z,λw hw=>by injection hw with hw;subst hw;exact⟨hlt,z1⟩,.inr (by rw[ma hi'];exact z2)⟩
     ·cases this
    ·cases this
 obtain⟨f,hf⟩:=Classical.axiomOfChoice hsl;obtain⟨g,hg⟩:=Classical.axiomOfChoice hob;have hφ:∀i,i<H.n->∃i',φ[i]? =some i':=λi hi=>⟨_,List.getElem?_eq_getElem (by omega)⟩
 refine⟨⟨f,g,H.n,s.c⟩,Re.reindex (φ:=fφ φ) ?_ ?_ (Nat.le_refl _) (λi hi=>(hg i).2) (λt=>?_),rfl,?_,?_,λt v hv=>((hf t).1 v hv).1,λi o ho=>(hg i).1 o ho,λi b hb=>?_⟩
 ·intro i hi;obtain⟨i',hi'⟩:=hφ i hi;rw[ma hi',hr.n];exact of_decide_eq_true (List.all_eq_true.1 h8 i' (List.mem_of_getElem? hi'))
 ·intro i j hi hj e;obtain⟨i',hi'⟩:=hφ i hi;obtain⟨j',hj'⟩:=hφ j hj;rw[ma hi',ma hj']at e;subst e;exact(List.getElem?_inj (by rw[h4];exact hi) h5).1 (hi'.trans hj'.symm)
 ·cases ht:aG H.sl t with
  |none=>exact .inl ((hf t).2 ht)
  |some v=>exact .inr ((hf t).1 v ht).2
 ·simp[sψ,h6]
 ·rw[h7,List.length_append,M.len,<-M.vs.len]
 ·have:=List.all_eq_true.1 h3 _ (oA hb);simp only[decide_eq_true_eq]at this;have hk:=hr.kn i b this.2;obtain⟨e,rfl⟩:=M.pre;rw[List.getElem?_append_left (by rw[M.len];exact this.1)]at hk ⊢;exact hk
end
end Go.Proofs.Ytngaddcgmnonbaa
namespace Go.Proofs.Ytngaddcgmnonbaa
open Go.RowKit
theorem B9{α:Type}{off:Nat}{d:α}{e:List α}(h:off<e.length):plug off [d] e=e.set off d:=by
 unfold plug;rw[List.set_eq_take_append_cons_drop,if_pos h];simp
section
variable {P:Program}{N:Nat}{o:Oper}{ρ ρ':List DV}{σ σ':List Nat}{S S':Sy}{s s':AS}{ps:List PO}{K:List DV->Prop}
def Kv(S:Sy)(i st k x:Nat)(q:Nat×Nat×Nat×Nat):Option (List PO×Sy):=
 match S.own q.2.2.1 q.2.2.2 with
 |some (.row _ _ _ y)=>if q.2.2.1≠i then some ([.flat y,.set k x q.1 q.2.1 [y]],{S.bind 1 with ob:=(i,.opn st k S.m none)::(q.2.2.1,.dead)::S.ob})else none
 |_=>none
theorem BJ{k x j off y:Nat}{out:List DV}(h:av ρ (.set k x j off [y])=some out):∃t es kd z e d,ρ[x]? =some (.sl t k es)/\ρ[j]? =some (.sc (.int kd z))/\0<=z/\es[z.toNat]? =some e/\ρ[y]? =some d/\out=[.sl t k (es.set z.toNat (plug off [d] e))]:=by
 simp only[av,gL]at h;split at h
 ·rename_i t k' es kd z ds h1 h2 h3;split at h
  ·rename_i hc;obtain⟨rfl,h0,-⟩:=hc;split at h
   ·rename_i e he;injection h with h;subst h
    cases hy:ρ[y]? with
    |none=>simp[hy]at h3
    |some d=>simp[hy]at h3;subst h3;exact⟨t,es,kd,z,e,d,h1,h2,h0,he,rfl,rfl⟩
   ·cases h
  ·cases h
 ·cases h
theorem Er{i st st' k x:Nat}{q:Nat×Nat×Nat×Nat}(h:Kv S i st k x q=some (ps,S'))(he:aq ps ρ=some ρ')(hr:aO S ρ σ s){a0:Nat}(ho:S.own i st=some (.opn a0 k x (some q)))(hst:σ[st]? =some st'):
 ∃s',Fz s s'/\aO S' ρ' σ s'/\S'.own i st=some (.opn st k S.m none)/\s'.sl=s.sl:=by
 unfold Kv at h;split at h
 ·rename_i a t' k' y hn;split at h
  ·rename_i hne;injection h with h;injection h with e1 e2;subst e1 e2;obtain⟨ρ1,a1,a2⟩:=ac (ps:=[.flat y]) (qs:=[.set k x q.1 q.2.1 [y]]) he;obtain⟨rfl,hfl⟩:=ig a1;obtain⟨out,o1,rfl⟩:=au a2;obtain⟨t,es,kd,z,e,d,b1,b2,b3,b4,b5,rfl⟩:=BJ o1;have b:=0
   ·obtain⟨o',k1,k2,k3,k4⟩:=hr.own ho hst;cases o'<;>first|exact k2.elim|skip
    rename_i b' ty kk es' q';obtain⟨c1,rfl,c3,c4⟩:=k2;obtain rfl:=aT k1 rfl;obtain⟨j,off,n,sn⟩:=q
    cases q' with
    |none=>exact c4.elim
    |some q'=>
     obtain⟨j',off',n',sn'⟩:=q';obtain⟨⟨kd',z',d1,d2,rfl⟩,rfl,rfl,d5⟩:=c4;simp only at b2 hn hne;rw[b2]at d1;injection d1 with d1;injection d1 with d1;injection d1 with _ d1;subst d1;rw[b1]at c3;injection c3 with c3;injection c3 with f1 f2 f3;subst f1 f3;obtain⟨on,n1,n2,n3,n4⟩:=hr.own hn d5;cases on<;>first|exact n2.elim|skip
     rename_i sb tb kb esb dpb;obtain⟨m1,rfl,rfl,rfl,m5⟩:=n2;obtain rfl:=aT n1 rfl;rw[m5]at b5;injection b5 with b5;subst b5;refine⟨{s with ob:=upd (upd s.ob n' .dead) i (.opn b' t kk (es.set z.toNat (plug off' [DV.sl tb kb esb] e)) none)},λw0 N a w E h=>?_,?_,?_,rfl⟩;rotate_left
     ·have hb:=hr.bind (out:=[DV.sl t kk (es.set z.toNat (plug off' [DV.sl tb kb esb] e))]) (k:=1) rfl;have h1:=hb.upd (s':={s with ob:=upd s.ob n' .dead}) (i:=n') (n':=S.n) (c':=S.c) (so:=.dead) (aN.refl _) hb.c hb.n (Nat.le_refl _) n4 rfl (λj hj=>az _ _ hj) trivial
      exact h1.upd (s':={s with ob:=upd (upd s.ob n' .dead) i (.opn b' t kk (es.set z.toNat (plug off' [DV.sl tb kb esb] e)) none)}) (i:=i) (n':=S.n) (c':=S.c) (so:=.opn st kk S.m none) (aN.refl _) h1.c h1.n (Nat.le_refl _) k4 rfl (λj hj=>az _ _ hj)
       (by simp only[ab];exact⟨hst,rfl,by rw[<-hr.m];simp,trivial⟩)
     ·unfold Sy.own;simp[aG,SO.st]
     ·have hek:e.length=kk:=by
       obtain⟨hin,hob,_⟩:=af k1;have:=h.obj i hin;rw[hob]at this;obtain⟨_,_,_,_,_,h3,_⟩:=this;exact h3 e (List.mem_of_getElem? b4)
      have hof:off'<kk:=by
       obtain⟨hin,hob,_⟩:=af k1;have:=h.obj i hin;rw[hob]at this;obtain⟨_,_,_,_,_,_,_,_,_,_,h8⟩:=this;exact(h8 _ rfl).2.1
      rw[B9 (by omega)];exact RG h k1 n1 b4 (hfl _ _ _ m5)
  ·cases h
 ·cases h
theorem J0{t k x:Nat}{out:List DV}(h:av ρ (.isL t k x)=some out):out=[]/\∃es,ρ[x]? =some (.sl t k es)/\jl es.flatten:=by
 simp only[av]at h;split at h
 ·rename_i t' k' es hx;split at h
  ·rename_i hc;obtain⟨rfl,rfl,hf⟩:=hc;injection h with h;subst h;refine⟨rfl,es,hx,λd hd=>?_⟩;exact nR (List.all_eq_true.1 hf d hd)
  ·cases h
 ·cases h
def Jw(P:Program)(S:Sy)(t:TypeId)(x y:Operand):Option (List PO×SV×Sy):=
 match iO S y with
 |some (p,v,S1)=>(match zo v with
  |some ix=>(match iO S1 x with
   |some (p2,.p false [.own i st],S2)=>(match S2.own i st,(fh P t).map (·.2)with
    |some (.dx _ x),some k=>some (p++(p2++[.isI ix,.chk k x ix]),.p false [.elt i st k ix 0],{S2 with ob:=(i,.opn st k x none)::S2.ob})
    |some (.opn _ k' x q),some k=>if k'=k then some (p++(p2++[.isI ix,.chk k x ix]),.p false [.elt i st k ix 0],S2)else none
    |_,_=>none)
   |_=>none)
  |none=>none)
 |none=>none
theorem AO{k x i:Nat}(h:aq [.isI i,.chk k x i] ρ=some ρ'):ρ'=ρ/\∃t es kd z,ρ[x]? =some (.sl t k es)/\ρ[i]? =some (.sc (.int kd z))/\0<=z/\z.toNat<es.length:=by
 obtain⟨ρ1,a1,a2⟩:=ac (ps:=[.isI i]) (qs:=[.chk k x i]) h;obtain⟨out,o1,rfl⟩:=au a1;obtain⟨out2,o2,rfl⟩:=au a2;simp only[av]at o1;split at o1
 ·injection o1 with o1;subst o1;rw[List.append_nil]at o2 ⊢;simp only[av]at o2;split at o2
  ·rename_i t k' es kd z h1 h2;split at o2
   ·rename_i hc;obtain⟨rfl,c2,c3⟩:=hc;injection o2 with o2;subst o2;exact⟨by simp,t,es,kd,z,h1,h2,c2,c3⟩
   ·cases o2
  ·cases o2
 ·cases o1
theorem G4{t:TypeId}{x y:Operand}{v:SV}(ho:o.op=.indexAddr t x y)(h:Jw P S t x y=some (ps,v,S'))(hd:dB N o.dst=true)(hr:aO S ρ σ s)(hw:WN P (ps.map .po) K ρ):fC P N o s (S'.put o.dst v) K:=by
 obtain⟨ρ',he,hK⟩:=bn hw;unfold Jw at h;split at h
 ·rename_i p v1 S1 hv;split at h
  ·rename_i ix hix;split at h
   ·rename_i p2 i st S2 hu;split at h
    ·rename_i a x' k hown htl;injection h with h;injection h with e1 h;injection h with e2 e3;subst e1 e2 e3;obtain⟨ρ1,a1,a2⟩:=ac he;obtain⟨ρ2,b1,b2⟩:=ac a2;obtain⟨k1,k2⟩:=aQ hv a1 hr;obtain⟨m1,m2⟩:=aQ hu b1 k2;obtain⟨rfl,t',es,kd,z,c1,c2,c3,c4⟩:=AO b2;obtain⟨yv,y1,y2⟩:=cS hix (k1.mono (ai b1) (aN.refl _));rw[c2]at y2;injection y2 with y2;subst y2;obtain⟨zz,z1,z2⟩:=bg (c:=.own i st) rfl m1;cases zz<;>first|exact z2.elim|skip
     rename_i i' st';obtain⟨rfl,hst⟩:=z2;obtain⟨o',n1,n2,n3,n4⟩:=m2.own hown hst;cases o'<;>first|exact n2.elim|skip
     rename_i b d;obtain⟨n5,n6⟩:=n2;obtain rfl:=aT n1 rfl;rw[c1]at n6;injection n6 with n6;subst n6
     have hs1:AS.own? {s with ob:=upd s.ob i' (.opn b t' k es none)} i' b=some (.opn b t' k es none):=by
      have:=(af n1).1;unfold AS.own?;simp only[ab];rw[if_pos this];simp[Ob.st]
     have hrel:=m2.upd (s':={s with ob:=upd s.ob i' (.opn b t' k es none)}) (i:=i') (n':=S2.n) (c':=S2.c) (so:=.opn st k x' none) (aN.refl _) m2.c m2.n (Nat.le_refl _) n4 rfl (λj hj=>az _ _ hj) (by simp only[ab];exact⟨hst,rfl,c1,trivial⟩);refine l6 (s1:={s with ob:=upd s.ob i' (.opn b t' k es none)}) (λw0 N a w E h=>⟨E,h.see n1 rfl λL hx=>EC hx⟩) ?_;exact⟨ρ',σ,_,(Mv (x:=0) (ix:=0) (s:={s with ob:=upd s.ob i' (.opn b t' k es none)}) ho z1 y1 hs1 htl c3 c4).toO (eb hd),hrel.put ⟨rfl,⟨rfl,hst,rfl,⟨kd,z,c2,c3,rfl⟩,rfl⟩,trivial⟩,hK⟩
    ·rename_i a k' x' q k hown htl;split at h
     ·rename_i hk;subst hk;injection h with h;injection h with e1 h;injection h with e2 e3;subst e1 e2 e3;obtain⟨ρ1,a1,a2⟩:=ac he;obtain⟨ρ2,b1,b2⟩:=ac a2;obtain⟨k1,k2⟩:=aQ hv a1 hr;obtain⟨m1,m2⟩:=aQ hu b1 k2;obtain⟨rfl,t',es,kd,z,c1,c2,c3,c4⟩:=AO b2;obtain⟨yv,y1,y2⟩:=cS hix (k1.mono (ai b1) (aN.refl _));rw[c2]at y2;injection y2 with y2;subst y2;obtain⟨zz,z1,z2⟩:=bg (c:=.own i st) rfl m1;cases zz<;>first|exact z2.elim|skip
      rename_i i' st';obtain⟨rfl,hst⟩:=z2;obtain⟨o',n1,n2,n3,n4⟩:=m2.own hown hst;cases o'<;>first|exact n2.elim|skip
      rename_i b ty kk es' q';obtain⟨n5,rfl,n6,n7⟩:=n2;obtain rfl:=aT n1 rfl;rw[c1]at n6;injection n6 with n6;injection n6 with g1 g2 g3;subst g1 g3;exact⟨ρ',σ,_,(Mv (x:=0) (ix:=0) ho z1 y1 n1 htl c3 c4).toO (eb hd),m2.put ⟨rfl,⟨rfl,hst,rfl,⟨kd,z,c2,c3,rfl⟩,rfl⟩,trivial⟩,hK⟩
     ·cases h
    ·cases h
   ·cases h
  ·cases h
 ·cases h
def Nc(P:Program)(S:Sy)(t:TypeId)(i st k j off:Nat)(v:SV):Option Sy:=match one v with
 |some (.own n sn')=>(match S.own i st,S.own n sn' with
  |some (.opn _ k' x (some (j0,off0,n0,_))),some (.row _ _ _ _)=>if k'=k/\j0=j/\off0=off/\n0=n/\lw P t=some 1 then some {S with ob:=(i,.opn st k x (some (j,off,n,sn')))::S.ob}else none
  |_,_=>none)
 |_=>none
theorem Hs{t:TypeId}{x y:Operand}{i st k j off:Nat}{v:SV}(ho:o.op=.store t x y)(hdn:o.dst=none)(h:Nc P S t i st k j off v=some S')(hr:aO S ρ σ s)(hx:RV ρ σ (.p false [.elt i st k j off]) (s.ev x))(hy:RV ρ σ v (s.ev y)):∃s',dd P N o s s'/\aO S' ρ σ s':=by
 unfold Nc at h;split at h
 ·rename_i n sn' h1;split at h
  ·rename_i a k' x' j0 off0 n0 sn0 a2 t2 k2 x2 hO hK;split at h
   ·rename_i hc;obtain⟨rfl,rfl,rfl,rfl,hsz⟩:=hc;injection h with h;subst h;obtain⟨zz,zz1,zz2⟩:=bg (c:=.elt i st k' j0 off0) rfl hx;cases zz<;>first|exact zz2.elim|skip
    rename_i i' st' kk' j' off';obtain⟨rfl,hst,rfl,⟨kd2,z2,s1,s2,rfl⟩,rfl⟩:=zz2;obtain⟨yy,yy1,yy2⟩:=bg h1 hy;cases yy<;>first|exact yy2.elim|skip
    rename_i n' sn2;obtain⟨rfl,hsn⟩:=yy2;obtain⟨o',n1,n2,n3,n4⟩:=hr.own hO hst;cases o'<;>first|exact n2.elim|skip
    rename_i b ty kk es' q';obtain⟨n5,rfl,n6,n7⟩:=n2;obtain rfl:=aT n1 rfl;obtain⟨o2,m1,m2,m3,m4⟩:=hr.own hK hsn;cases o2<;>first|exact m2.elim|skip
    rename_i b2 ty2 kk2 es2 dp2;obtain rfl:=aT m1 rfl
    cases q' with
    |none=>exact n7.elim
    |some q'=>
     obtain⟨ja,oa,na,sa⟩:=q';obtain⟨⟨kd3,z3,w1,w2,rfl⟩,rfl,rfl,w3⟩:=n7;rw[s1]at w1;injection w1 with w1;injection w1 with w1;injection w1 with _ w1;subst w1;refine⟨_,Qy ho hdn zz1 n1 yy1 m1 hsz,?_⟩;refine hr.upd (s':={s with ob:=upd s.ob i' (.opn b ty kk es' (some (z2.toNat,oa,na,b2)))}) (i:=i') (n':=S.n) (c':=S.c) (so:=.opn st kk x' (some (j0,oa,na,sn'))) (aN.refl _) hr.c hr.n (Nat.le_refl _) n4 rfl (λj hj=>az _ _ hj) ?_;simp only[ab];exact⟨hst,rfl,n6,⟨kd2,z2,s1,s2,rfl⟩,rfl,rfl,hsn⟩
   ·cases h
  ·cases h
 ·cases h
def Oe(P:Program)(S:Sy)(t:TypeId)(x y:Operand):Option (List PO×Sy):=
 match iO S x with
 |some (p,.p false [.elt i st k j off],S1)=>(match iO S1 y with
  |some (p2,v,S2)=>(match S2.own i st,zo v with
   |some (.opn _ k' x q),some v=>if k'=k/\off<k/\lw P t=some 1 then some (p++(p2++([.idx k x j]++([.sc (S2.m+off)]++([.sc v]++[.set k x j off [v]])))),{ (S2.bind k).bind 1 with ob:=(i,.opn st k (S2.m+k) q)::S2.ob})else none
   |_,_=>(match Nc P S2 t i st k j off v with|some S3=>some (p++p2,S3)|none=>none))
  |none=>none)
 |_=>none
theorem zO{i:Nat}(h:aq [.sc i] ρ=some ρ'):ρ'=ρ/\∃v,ρ[i]? =some (.sc v):=by
 obtain⟨out,o1,rfl⟩:=au h;simp only[av]at o1;split at o1
 ·rename_i d hd;split at o1
  ·rename_i hs;injection o1 with o1;subst o1;obtain⟨v,rfl⟩:=nR hs;exact⟨by simp,v,hd⟩
  ·cases o1
 ·cases o1
theorem Fe{out:List DV}{k off:Nat}(hm:ρ.length=S.m)(hk:out.length=k)(ho:off<k){d:DV}(h:(ρ++out)[S.m+off]? =some d):out[off]? =some d:=by
 rw[List.getElem?_append_right (by omega),hm]at h;simpa using h
theorem HI{t:TypeId}{x y:Operand}(ho:o.op=.store t x y)(hdn:o.dst=none)(h:Oe P S t x y=some (ps,S'))(hr:aO S ρ σ s)(hw:WN P (ps.map .po) K ρ):fC P N o s S' K:=by
 obtain⟨ρ',he,hK⟩:=bn hw;unfold Oe at h;split at h
 ·rename_i p i st k j off S1 hv;split at h
  ·rename_i p2 v S2 hu;split at h
   ·rename_i a k' x' q v' hown hdat;split at h
    ·rename_i hc;obtain⟨rfl,hoff,hsz⟩:=hc;injection h with h;injection h with e1 e2;subst e1 e2;obtain⟨ρ1,a1,a2⟩:=ac he;obtain⟨ρ2,b1,b2⟩:=ac a2;obtain⟨k1,k2⟩:=aQ hv a1 hr;obtain⟨m1,m2⟩:=aQ hu b1 k2;obtain⟨ρ3,c1,c2⟩:=ac (ps:=[PO.idx k' x' j]) b2;obtain⟨ρ4,d1,d2⟩:=ac (ps:=[PO.sc (S2.m+off)]) c2;obtain⟨ρ5,f1,f2⟩:=ac (ps:=[PO.sc v']) d2;obtain⟨out,g1,rfl⟩:=au c1;obtain⟨rfl,u0,hu0⟩:=zO d1;obtain⟨rfl,u1,hu1⟩:=zO f1;obtain⟨out2,l1,rfl⟩:=au f2;obtain⟨t0,es,kd,z,i1,i2,i3,i4,i5⟩:=iV g1;obtain⟨t1,es1,kd1,z1,e,d,q1,q2,q3,q4,q5,rfl⟩:=BJ l1;have hp2:aN ρ2 (ρ2++out):=aN.app _ _;rw[hp2.get i1]at q1;injection q1 with q1;injection q1 with r1 r2 r3;subst r1 r3;rw[hp2.get i2]at q2;injection q2 with q2;injection q2 with q2;injection q2 with _ q2;subst q2;rw[i4]at q4;injection q4 with q4;subst q4;rw[hu1]at q5;injection q5 with q5;subst q5;obtain⟨zz,zz1,zz2⟩:=bg (c:=.elt i st k' j off) rfl (k1.mono (ai b1) (aN.refl _));cases zz<;>first|exact zz2.elim|skip
     rename_i i' st' kk' j' off';obtain⟨rfl,hst,rfl,⟨kd2,z2,s1,s2,rfl⟩,rfl⟩:=zz2;rw[i2]at s1;injection s1 with s1;injection s1 with s1;injection s1 with _ s1;subst s1;obtain⟨yv,y1,y2⟩:=cS hdat (m1.mono hp2 (aN.refl _));rw[hu1]at y2;injection y2 with y2;subst y2;obtain⟨o',n1,n2,n3,n4⟩:=m2.own hown hst;cases o'<;>first|exact n2.elim|skip
     rename_i b ty kk es' q';obtain⟨n5,rfl,n6,n7⟩:=n2;obtain rfl:=aT n1 rfl;rw[i1]at n6;injection n6 with n6;injection n6 with g1' g2' g3';subst g1' g3';have hold:=Fe m2.m i5 hoff hu0;refine⟨_,σ,_,Tr ho hdn zz1 n1 i4 hold y1 hsz,?_,hK⟩;have hb:=(m2.bind i5).bind (out:=[DV.sl t0 kk (es.set z.toNat (plug off' [DV.sc u1] out))]) (k:=1) rfl;have hm:=(m2.bind i5).m;refine hb.upd (s':={s with ob:=upd s.ob i' (.opn b t0 kk (es.set z.toNat (out.set off' (.sc u1))) q')}) (i:=i') (n':=S2.n) (c':=S2.c) (so:=.opn st kk (S2.m+kk) q) (aN.refl _) hb.c hb.n (Nat.le_refl _) n4 rfl (λj hj=>az _ _ hj) ?_;simp only[ab];refine⟨hst,rfl,?_,RH.mono ((aN.app _ _).trans (aN.app _ _)) (aN.refl _) n7⟩;rw[<-B9 (e:=out) (by rw[i5];exact hoff)];have:S2.m+kk=(ρ2++out).length:=by rw[hm];rfl
     rw[this];simp
    ·cases h
   ·split at h
    ·rename_i S3 hS;injection h with h;injection h with e1 e2;subst e1 e2;obtain⟨ρ1,a1,a2⟩:=ac he;obtain⟨k1,k2⟩:=aQ hv a1 hr;obtain⟨m1,m2⟩:=aQ hu a2 k2;obtain⟨s',g1,g2⟩:=Hs ho hdn hS m2 (k1.mono (ai a2) (aN.refl _)) m1;exact⟨_,σ,s',g1,g2,hK⟩
    ·cases h
  ·cases h
 ·cases h
def Qt(P:Program)(t r:Nat):Option (Nat×Nat):=match P.underlying t with
 |some (.slice _)=>fh P t
 |some (.struct fs)=>(fs.toList.find? λf=>f.offset==r).bind λf=>fh P f.type
 |_=>none
def FZ(S:Sy)(i st k j x off el k':Nat):List PO×Sy:=
 ([.idx k x j,.isL el k' (S.m+off)],{ (S.bind k).push (.row S.c el k' (S.m+off))with ob:=(i,.opn st k x (some (j,off,S.n,S.c)))::((S.bind k).push (.row S.c el k' (S.m+off))).ob})
theorem KX{i st st' k j x off el k':Nat}(hk:off<k)(he:aq (FZ S i st k j x off el k').1 ρ=some ρ')(hr:aO S ρ σ s){a0:Nat}(ho:S.own i st=some (.opn a0 k x none))(hst:σ[st]? =some st'):
 ∃s',Fz s s'/\aO (FZ S i st k j x off el k').2 ρ' (σ++[s.c]) s'/\s'.sl=s.sl:=by
 simp only[FZ]at he ⊢;obtain⟨ρ1,a1,a2⟩:=ac (ps:=[PO.idx k x j]) (qs:=[PO.isL el k' (S.m+off)]) he;obtain⟨out,o1,rfl⟩:=au a1;obtain⟨out2,o2,rfl⟩:=au a2;obtain⟨rfl,xs,hx,hf⟩:=J0 o2;rw[List.append_nil];obtain⟨t0,es,kd,z,i1,i2,i3,i4,i5⟩:=iV o1;obtain⟨o',n1,n2,n3,n4⟩:=hr.own ho hst;cases o'<;>first|exact n2.elim|skip
 rename_i b ty kk es' q';obtain⟨n5,rfl,n6,n7⟩:=n2;obtain rfl:=aT n1 rfl
 cases q' with
 |some=>exact n7.elim
 |none=>
  rw[i1]at n6;injection n6 with n6;injection n6 with g1 g2 g3;subst g1 g3;have hof:=Fe hr.m i5 hk hx;have hne:i≠S.n:=by omega
  have hb:=((hr.bind i5).push (so:=.row S.c el k' (S.m+off)) (ob:=.row s.c el k' xs true) ⟨hr.last _,rfl,rfl,rfl,hx⟩);refine⟨{s.push (.row s.c el k' xs true)with ob:=upd (upd s.ob s.n (.row s.c el k' xs true)) i (.opn b t0 kk es (some (z.toNat,off,s.n,s.c)))},λw0 N a w E h=>Nn h n1 i4 hof hf,?_,rfl⟩;refine hb.upd (s':={s.push (.row s.c el k' xs true)with ob:=upd (upd s.ob s.n (.row s.c el k' xs true)) i (.opn b t0 kk es (some (z.toNat,off,s.n,s.c)))}) (i:=i) (n':=((S.bind kk).push (.row S.c el k' (S.m+off))).n) (c':=((S.bind kk).push (.row S.c el k' (S.m+off))).c) (so:=.opn st kk x (some (j,off,S.n,S.c))) (aN.refl _) hb.c hb.n (Nat.le_refl _) (by simp only[Sy.push,Sy.bind];omega) rfl (λj hj=>by simp only[AS.push];rw[az _ _ hj]) ?_;simp only[ab];exact⟨(aN.app _ _).get hst,rfl,(aN.app _ _).get i1,⟨kd,z,(aN.app _ _).get i2,i3,rfl⟩,rfl,hr.n,hr.last _⟩
abbrev SHole:=Option (Nat×Nat×Nat×Nat)
def Ac(S:Sy)(i st k j x off:Nat)(el:Option (Nat×Nat)):Option (List PO×Sy×Nat×SHole):=
 match el with
 |some (el,k')=>if off<k then some ((FZ S i st k j x off el k').1,(FZ S i st k j x off el k').2,x,some (j,off,S.n,S.c))else none
 |none=>none
def HP(S:Sy)(i st k j x off:Nat)(q:SHole)(el:Option (Nat×Nat)):Option (List PO×Sy×Nat×SHole):=
 match q with
 |none=>Ac S i st k j x off el
 |some (j',off',n,sn)=>if j'=j/\off'=off/\(S.own n sn).isSome then some ([],S,x,q)else(match Kv S i st k x (j',off',n,sn)with
  |some (p,S1)=>(match Ac S1 i st k j S.m off el with|some (p2,S2,x2,q2)=>some (p++p2,S2,x2,q2)|none=>none)
  |none=>none)
theorem yW{i st st' k j x off x':Nat}{q':SHole}{el:Option (Nat×Nat)}(h:Ac S i st k j x off el=some (ps,S',x',q'))(he:aq ps ρ=some ρ')(hr:aO S ρ σ s){a0:Nat}(ho:S.own i st=some (.opn a0 k x none))(hst:σ[st]? =some st'):
 ∃σ' s',Fz s s'/\aO S' ρ' σ' s'/\aN σ σ'/\(∃a,S'.own i st=some (.opn a k x' q'))/\s'.sl=s.sl:=by
 unfold Ac at h;split at h
 ·split at h
  ·rename_i hk;injection h with h;injection h with e1 h;injection h with e2 h;injection h with e3 e4;subst e1 e2 e3 e4;obtain⟨s',f1,f2,f3⟩:=KX hk he hr ho hst;exact⟨_,s',f1,f2,aN.app _ _,⟨st,by unfold Sy.own;simp[FZ,aG,SO.st]⟩,f3⟩
  ·cases h
 ·cases h
theorem Jd{i st st' k j x off x':Nat}{q q':SHole}{el:Option (Nat×Nat)}(h:HP S i st k j x off q el=some (ps,S',x',q'))(he:aq ps ρ=some ρ')(hr:aO S ρ σ s){a0:Nat}(ho:S.own i st=some (.opn a0 k x q))(hst:σ[st]? =some st'):
 ∃σ' s',Fz s s'/\aO S' ρ' σ' s'/\aN σ σ'/\(∃a,S'.own i st=some (.opn a k x' q'))/\s'.sl=s.sl:=by
 unfold HP at h;split at h
 ·exact yW h he hr ho hst
 ·split at h
  ·injection h with h;injection h with e1 h;injection h with e2 h;injection h with e3 e4;subst e1 e2 e3 e4;simp only[aq]at he;injection he with he;subst he;exact⟨σ,s,λ_ _ _ _ E h=>⟨E,h⟩,hr,aN.refl _,⟨a0,ho⟩,rfl⟩
  ·split at h
   ·rename_i p S1 hp;split at h
    ·rename_i p2 S2 x2 q2 h1;injection h with h;injection h with e1 h;injection h with e2 h;injection h with e3 e4;subst e1 e2 e3 e4;obtain⟨ρ1,a1,a2⟩:=ac he;obtain⟨s1,f1,f2,f3,f4⟩:=Er hp a1 hr ho hst;obtain⟨σ2,s2,g1,g2,g3,g4,g5⟩:=yW h1 a2 f2 f3 hst;exact⟨σ2,s2,f1.trans g1,g2,g3,g4,g5.trans f4⟩
    ·cases h
   ·cases h
def Rm(q:SHole)(j m:Nat):Nat->List Value->Option (List PO×List SC)
 |_,[]=>some ([],[])
 |p,v::vs=>(match Rm q j m (p+1) vs with
  |some (l,cs)=>if lz v then some (.sc (m+p)::l,.d (m+p)::cs)else(match q with
   |some (j',off,n,sn)=>if j'=j/\off=p then some (.flat (m+p)::l,.own n sn::cs)else none
   |none=>none)
  |none=>none)
theorem O6{q q':SHole}{j m k:Nat}{out:List DV}{kd:IntKind}{z:Int}(hq:RH ρ σ q q')(hj:ρ[j]? =some (.sc (.int kd z)))(hm:ρ.length=m)(hl:out.length=k):
 ∀{vs:List Value} {p:Nat} {l:List PO} {cs:List SC} {ρ':List DV},Rm q j m p vs=some (l,cs)->aq l (ρ++out)=some ρ'->p+vs.length<=k->ρ'=ρ++out/\∃ys,lQ q' z.toNat p ((out.drop p).take vs.length)=some ys/\cj (ρ++out) σ cs ys:=by
 intro vs
 induction vs with
 |nil=>
  intro p l cs ρ' h he hp;simp only[Rm]at h;injection h with h;injection h with e1 e2;subst e1 e2;simp only[aq]at he;injection he with he;subst he
  exact⟨rfl,[],by simp[lQ],trivial⟩
 |cons v vs ih=>
  intro p l cs ρ' h he hp;simp only[List.length_cons]at hp;have hpo:p<out.length:=by omega
  have hget:∀d,(ρ++out)[m+p]? =some d->out[p]=d:=λd hd=>by
   rw[List.getElem?_append_right (by omega),hm]at hd;simpa[List.getElem?_eq_getElem hpo]using hd
  simp only[Rm]at h;split at h
  ·rename_i l1 cs1 h1;rw[List.length_cons,List.drop_eq_getElem_cons hpo,List.take_succ_cons];split at h
   ·injection h with h;injection h with e1 e2;subst e1 e2;obtain⟨ρ1,a1,a2⟩:=ac (ps:=[PO.sc (m+p)]) he;obtain⟨rfl,u,hu⟩:=zO a1;obtain⟨i1,ys,i2,i3⟩:=ih h1 a2 (by omega);refine⟨i1,.d (.sc u)::ys,?_,hu,i3⟩;rw[hget _ hu];simp only[lQ,A5,i2]
   ·split at h
    ·rename_i j' off n sn;split at h
     ·rename_i hc;obtain⟨rfl,rfl⟩:=hc;injection h with h;injection h with e1 e2;subst e1 e2;obtain⟨ρ1,a1,a2⟩:=ac (ps:=[PO.flat (m+off)]) he;obtain⟨sJ,o1,rfl⟩:=au a1;simp only[av]at o1;split at o1
      ·rename_i t1 k1 es1 hu;split at o1
       ·injection o1 with o1;subst o1;rw[List.append_nil]at a2;obtain⟨i1,ys,i2,i3⟩:=ih h1 a2 (by omega)
        cases q' with
        |none=>exact hq.elim
        |some q'=>
         obtain⟨j2,off2,n2,sn2⟩:=q';obtain⟨⟨kd2,z2,q1,q2,rfl⟩,rfl,rfl,q5⟩:=hq;rw[hj]at q1;injection q1 with q1;injection q1 with q1;injection q1 with _ q1;subst q1;refine⟨i1,.own n2 sn2::ys,?_,⟨rfl,q5⟩,i3⟩;rw[hget _ hu];simp only[lQ,A5,i2,and_self,if_true]
       ·cases o1
      ·cases o1
     ·cases h
    ·cases h
  ·cases h
def OM(P:Program)(S:Sy)(t:TypeId)(X:Operand):Option (List PO×SV×Sy):=
 match iO S X with
 |some (p,.p false [.elt i st k j off],S1)=>(match S1.own i st,ci P t,pI P t with
  |some (.opn _ k' x q),some zs,some ag=>if k'=k/\off+zs.length<=k/\lw P t=some zs.length/\(ag=false->zs.length=1)then
   (match(if zs.all lz then some ([],S1,x,q)else HP S1 i st k j x (off+zs.findIdx λv=>!lz v) q (Qt P t (zs.findIdx λv=>!lz v)))with
   |some (p2,S2,x2,q2)=>(match Rm q2 j S2.m off zs with|some (l,cs)=>some (p++(p2++([.idx k x2 j]++l)),.p ag cs,S2.bind k)|none=>none)
   |none=>none)else none
  |_,_,_=>none)
 |_=>none
theorem Ht{t:TypeId}{X:Operand}{v:SV}(ho:o.op=.load t X)(h:OM P S t X=some (ps,v,S'))(hd:dB N o.dst=true)(hr:aO S ρ σ s)(hw:WN P (ps.map .po) K ρ):fC P N o s (S'.put o.dst v) K:=by
 obtain⟨ρ',he,hK⟩:=bn hw;unfold OM at h;split at h
 ·rename_i p i st k j off S1 hv;split at h
  ·rename_i a k' x q zs ag hown htz hag;split at h
   ·rename_i hc;obtain⟨rfl,hlen,hsz,hm1⟩:=hc;split at h
    ·rename_i p2 S2 x2 q2 hh;split at h
     ·rename_i l cs hsc;injection h with h;injection h with e1 h;injection h with e2 e3;subst e1 e2 e3;obtain⟨ρ1,a1,a2⟩:=ac he;obtain⟨ρ2,b1,b2⟩:=ac a2;obtain⟨ρ3,c1,c2⟩:=ac (ps:=[PO.idx k' x2 j]) b2;obtain⟨k1,k2⟩:=aQ hv a1 hr;obtain⟨zz,zz1,zz2⟩:=bg (c:=.elt i st k' j off) rfl k1;cases zz<;>first|exact zz2.elim|skip
      rename_i i' st' kk' j' off';obtain⟨rfl,hst,hkk,⟨kd,z,s1,s2,hjj⟩,hoff⟩:=zz2;subst hkk hjj hoff
      have hx:∃σ' s',Fz s s'/\aO S2 ρ2 σ' s'/\aN σ σ'/\(∃a,S2.own i' st=some (.opn a kk' x2 q2))/\s'.sl=s.sl:=by
       split at hh
       ·injection hh with hh;injection hh with e1 hh;injection hh with e2 hh;injection hh with e3 e4;subst e1 e2 e3 e4;simp only[aq]at b1;injection b1 with b1;subst b1;exact⟨σ,s,λ_ _ _ _ E h=>⟨E,h⟩,k2,aN.refl _,⟨a,hown⟩,rfl⟩
       ·exact Jd hh b1 k2 hown hst
      obtain⟨σ',s',f1,f2,f3,⟨a',f4⟩,f5⟩:=hx;obtain⟨out,g1,rfl⟩:=au c1;obtain⟨t0,es,kd1,z1,i1,i2,i3,i4,i5⟩:=iV g1;have s1':=(ai b1).get s1;rw[s1']at i2;injection i2 with i2;injection i2 with i2;injection i2 with _ i2;subst i2;obtain⟨o',n1,n2,n3,n4⟩:=f2.own f4 (f3.get hst);cases o'<;>first|exact n2.elim|skip
      rename_i b ty kk es' q';obtain⟨n5,hkk,n6,n7⟩:=n2;subst hkk;obtain rfl:=aT n1 rfl;rw[i1]at n6;injection n6 with n6;injection n6 with g1' g2' g3';subst g1' g3';obtain⟨rfl,ys,y1,y2⟩:=O6 n7 s1' f2.m i5 hsc c2 hlen
      have hev:s'.ev X=.p false [.elt i' b kk z.toNat off']:=by
       rw[<-zz1];unfold AS.ev;rw[f5]
      refine l6 f1 ⟨_,σ',_,(TS (P:=P) ho hev n1 i4 hag hsz hm1 hlen y1).toO (eb hd),(f2.bind i5).put ⟨rfl,y2⟩,hK⟩
     ·cases h
    ·cases h
   ·cases h
  ·cases h
 ·cases h
def QD(P:Program)(S:Sy)(o:Oper):Option (List PO×Sy):=
 match o.op with
 |.indexAddr t x y=>(match Jw P S t x y with|some (ps,v,S')=>some (ps,S'.put o.dst v)|none=>none)
 |.load t x=>(match OM P S t x with|some (ps,v,S')=>some (ps,S'.put o.dst v)|none=>none)
 |.store t x y=>(match o.dst with|none=>Oe P S t x y|some _=>none)
 |_=>none
def OZ(P:Program)(S:Sy)(o:Oper):Option (List PO×Sy):=match o.op with
 |.slice t (.tmp x) _ _ none=>(match aG S.sl x,fh P t with
  |some (.p false [.own i st]),some (el,k)=>(match S.own i st with
   |some (.dx a y)=>some ([.e el k,.app el k 0 y S.m],{ (S.bind 2)with ob:=(i,.row a el k (S.m+1))::S.ob})
   |_=>none)
  |_,_=>none)
 |_=>none
theorem K9{S1:Sy}{ρ1:List DV}(h:OZ P S o=some (ps,S1))(he:aq ps ρ=some ρ1)(hr:aO S ρ σ s):∃s1,Fz s s1/\aO S1 ρ1 σ s1:=by
 unfold OZ at h;split at h
 ·split at h
  ·rename_i i st el k hx ht;split at h
   ·rename_i a y hown;injection h with h;injection h with e1 e2;subst e1 e2;obtain⟨z,z1,z2⟩:=bg (c:=.own i st) rfl (hr.sl _ _ hx);cases z<;>first|exact z2.elim|skip
    rename_i i' st';obtain⟨rfl,hst⟩:=z2;obtain⟨o',n1,n2,n3,n4⟩:=hr.own hown hst;cases o'<;>first|exact n2.elim|skip
    rename_i b d;obtain⟨n5,n6⟩:=n2;obtain rfl:=aT n1 rfl;obtain⟨ρ2,a1,a2⟩:=ac (ps:=[.e el k]) (qs:=[.app el k 0 y S.m]) he;obtain⟨o1,b1,rfl⟩:=au a1;obtain⟨o2,b2,rfl⟩:=au a2;simp only[av]at b1;injection b1 with b1;subst b1;have hS:(ρ++[DV.sl el k []])[S.m]? =some (.sl el k []):=by rw[<-hr.m];simp
    simp only[av,(aN.app ρ [DV.sl el k []]).get n6,hS]at b2
    cases d with
    |sc=>simp at b2
    |sl t1 k1 es=>
     simp only at b2;split at b2
     ·rename_i hc;obtain⟨rfl,rfl,-,-,-⟩:=hc;injection b2 with b2;subst b2;rw[List.append_nil];have hb:=(hr.bind (out:=[DV.sl t1 k1 []]) (k:=1) rfl).bind (out:=[DV.sl t1 k1 es]) (k:=1) rfl;refine⟨_,λw0 N a w E h=>IX h n1,hb.upd (i:=i') (n':=S.n) (c':=S.c) (so:=.row a t1 k1 (S.m+1)) (aN.refl _) hr.c hb.n (Nat.le_refl _) n4 rfl (λj hj=>az _ _ hj) ?_⟩;simp only[ab];refine⟨n5,rfl,rfl,rfl,?_⟩;rw[<-hr.m];simp
     ·cases b2
   ·cases h
  ·cases h
 ·cases h
def OA(P:Program)(ow:eK)(S:Sy)(o:Oper):Option (List Nd×Sy):=
 match QD P S o with
 |some (ps,S')=>some (ps.map .po,S')
 |none=>(match OZ P S o with
  |some (ps,S1)=>(match SJ P ow S1 o with|some (dl,S')=>some (ps.map .po++dl,S')|none=>none)
  |none=>SJ P ow S o)
theorem KO{ow:eK}{dl:List Nd}(h:OA P ow S o=some (dl,S'))(hd:dB N o.dst=true)(hr:aO S ρ σ s)(hw:WN P dl K ρ):fC P N o s S' K:=by
 unfold OA at h;split at h
 ·rename_i ps S1 hx;injection h with h;injection h with e1 e2;subst e1 e2;unfold QD at hx;split at hx
  ·rename_i t x y ho;split at hx
   ·rename_i hi;injection hx with hx;injection hx with e1 e2;subst e1 e2;exact G4 ho hi hd hr hw
   ·cases hx
  ·rename_i t x ho;split at hx
   ·rename_i hi;injection hx with hx;injection hx with e1 e2;subst e1 e2;exact Ht ho hi hd hr hw
   ·cases hx
  ·rename_i t x y ho;split at hx
   ·rename_i hdn;exact HI ho hdn hx hr hw
   ·cases hx
  ·cases hx
 ·split at h
  ·rename_i ps S1 hx;split at h
   ·rename_i nds2 S2 h2;injection h with h;injection h with e1 e2;subst e1 e2;obtain⟨ρ1,he,hw2⟩:=bn (kw hw);obtain⟨s1,f1,r1⟩:=K9 hx he hr;exact l6 f1 (I8 h2 hd r1 hw2)
   ·cases h
  ·exact I8 h hd hr hw
end
end Go.Proofs.Ytngaddcgmnonbaa
namespace Go.Proofs.Ytngaddcgmnonbaa
open Go.RowKit
theorem G2{s:AS}{el k t:Nat}(hk:0<k)(ht:s.sl t=.p false [.nil]):Re s {s.push (.row s.c el k [] true)with sl:=upd s.sl t (.p false [.own s.n s.c])}:=by
 intro w0 N a w E hr;have h1:=xJ (el:=el) hr hk;refine⟨_,⟨h1.size,h1.defers,h1.bel,h1.obj,λq=>?_,h1.A_lt,h1.A_m,h1.A_o,h1.mm,h1.oo,h1.m_lt,h1.anc,h1.mF,h1.oF⟩⟩;by_cases e:q=t
 ·subst e;simp only[ab];refine aI ⟨by simp[AS.push],λ_=>?_⟩;have:=hr.slot q;rw[ht]at this;obtain h2:a.tmps.getD q undef=.slice none 0 0:=aA this;simp only[ab];exact h2
 ·simp only[az _ _ e];exact h1.slot q
theorem Dy{s:AS}{el k i j st t:Nat}{cs:List AC}(hk:0<k)(hi:s.own? i st=some (.var st t cs))(hj:cs[j]? =some .nil):
 Re s {s.push (.row s.c el k [] true)with ob:=upd (upd s.ob s.n (.row s.c el k [] true)) i (.var st t (cs.set j (.own s.n s.c)))}:=by
 intro w0 N a w E hr;have h1:=xJ (el:=el) hr hk;obtain⟨hin,hob,hlv⟩:=af hi;have hne:i≠s.n:=by omega
 have hlt:i<(s.push (.row s.c el k [] true)).n:=by simp[AS.push];omega
 have hO:=h1.obj i hlt;have hob':(s.push (.row s.c el k [] true)).ob i=.var st t cs:=by simp only[AS.push,az _ _ hne];exact hob
 rw[hob']at hO;obtain⟨g,vals,q0,q1,q2,q3,q4,q5,q6⟩:=hO
 have hlvs:AS.lv {s.push (.row s.c el k [] true)with ob:=upd (upd s.ob s.n (.row s.c el k [] true)) i (.var st t (cs.set j (.own s.n s.c)))}=(s.push (.row s.c el k [] true)).lv:=by
  funext q;unfold AS.lv;by_cases e:q=i
  ·subst e;simp only[AS.push,ab,az _ _ hne,hob,Ob.st]
  ·simp only[AS.push,az _ _ e];rfl
 refine⟨_,⟨h1.size,h1.defers,h1.bel,λq hq=>?_,λq=>?_,h1.A_lt,h1.A_m,h1.A_o,h1.mm,h1.oo,h1.m_lt,h1.anc,h1.mF,h1.oF⟩⟩
 ·rw[hlvs];by_cases e:q=i
  ·subst e;simp only[ab];refine⟨g,vals,q0,q1,q2,q3,q4,q5,by rw[List.length_set];exact q6.1,λm x u hx hu=>?_⟩;rw[List.getElem?_set]at hx;split at hx
   ·rename_i hjm;subst hjm;split at hx
    ·injection hx with hx;subst hx;refine⟨by simp[AS.push],λ_=>?_⟩;obtain h2:u=.slice none 0 0:=q6.2 j _ u hj hu;simp only[ab];exact h2
    ·cases hx
   ·exact q6.2 m x u hx hu
  ·simp only[az _ _ e];exact h1.obj q hq
 ·rw[hlvs];exact h1.slot q
section
variable {P:Program}{N:Nat}{ρ ρ':List DV}{σ σ':List Nat}{S S':Sy}{s s':AS}
structure Nl where
 slot:Bool
 i:Nat
 j:Nat
 el:Nat
 k:Nat
def BM:List (List SC)->Option (List (List Nat))
 |[]=>some []
 |e::r=>match Ct e,BM r with|some x,some xs=>some (x::xs)|_,_=>none
def LA(S:Sy)(x:Nl):List PO×Sy:=
 match aG S.sl x.i with
 |some (.p false [.own i st])=>(match S.own i st with
  |some (.arr a t k es)=>(match BM es with
   |some rows=>(rows.flatten.map .sc++[.mk t k rows],{ (S.bind 1)with ob:=(i,.row a t k S.m)::S.ob})
   |none=>([],S))
  |_=>([],S))
 |some (.p false [.sub i st k z m])=>(match S.own i st with
  |some (.row a t k' y)=>if k'=k then([.cutP y z m],{ (S.bind 1)with ob:=(i,.row S.c t k S.m)::S.ob,c:=S.c+1}.put (some x.i) (.p false [.own i S.c]))else([],S)
  |_=>([],S))
 |_=>([],S)
theorem N3{s:AS}{i st t k n q:Nat}{es:List (List DV)}(hi:s.own? i st=some (.row st t k es true))(hs:s.sl q=.p false [.sub i st k 0 n])(hn:n<=es.length):
 Re s { (s.cut i t k n es)with sl:=upd s.sl q (.p false [.own i s.c])}:=by
 intro w0 N a w E hr;obtain⟨hin,hob,hlv⟩:=af hi;have h0:=hr.slot q;rw[hs]at h0;obtain⟨A,M,cp,B,e2,e3,e4,e5,e6⟩:=(aA h0).2 hlv;obtain rfl:=e5 rfl;obtain⟨o',hp⟩:=Ic hr hi e2 hn;refine⟨_,⟨hp.size,hp.defers,hp.bel,hp.obj,λp=>?_,hp.A_lt,hp.A_m,hp.A_o,hp.mm,hp.oo,hp.m_lt,hp.anc,hp.mF,hp.oF⟩⟩;by_cases e:p=q
 ·subst e;simp only[ab];exact aI ⟨by simp[AS.cut],λ_=>by simp only[ab];rw[e4];rfl⟩
 ·simp only[az _ _ e];exact hp.slot p
theorem Ez:∀{ds:List Nat} {ρ ρ':List DV},aq (ds.map .sc) ρ=some ρ'->ρ'=ρ/\∀i∈ds,∃v,ρ[i]? =some (.sc v)
 |[],ρ,ρ',h=>by simp only[List.map_nil,aq]at h;injection h with h;exact⟨h.symm,by simp⟩
 |i::ds,ρ,ρ',h=>by
  simp only[List.map_cons,aq]at h;split at h
  ·rename_i out ho;simp only[av]at ho;split at ho
   ·rename_i d hd;split at ho
    ·rename_i hs;injection ho with ho;subst ho;rw[List.append_nil]at h;obtain⟨e,ih⟩:=Ez h;refine⟨e,λj hj=>?_⟩;rcases List.mem_cons.1 hj with rfl|hj
     ·cases d with
      |sc v=>exact⟨v,hd⟩
      |sl=>cases hs
     ·exact ih j hj
    ·cases ho
   ·cases ho
  ·cases h
theorem Jn:∀{is:List Nat} {xs:List DV},gL ρ is=some xs->∀d∈xs,∃i∈is,ρ[i]? =some d
 |[],xs,h,d,hd=>by simp only[gL]at h;injection h with h;subst h;cases hd
 |i::is,xs,h,d,hd=>by
  simp only[gL]at h;split at h
  ·rename_i x xs' h1 h2;injection h with h;subst h;rcases List.mem_cons.1 hd with rfl|hd
   ·exact⟨i,List.mem_cons_self ..,h1⟩
   ·obtain⟨j,k1,k2⟩:=Jn h2 d hd;exact⟨j,List.mem_cons_of_mem _ k1,k2⟩
  ·cases h
theorem Fj:∀{is:List (List Nat)} {xs:List (List DV)},AH ρ is=some xs->∀d∈xs.flatten,∃i∈is.flatten,ρ[i]? =some d
 |[],xs,h,d,hd=>by simp only[AH]at h;injection h with h;subst h;cases hd
 |i::is,xs,h,d,hd=>by
  simp only[AH]at h;split at h
  ·rename_i x xs' h1 h2;injection h with h;subst h;rw[List.flatten_cons,List.mem_append]at hd;rw[List.flatten_cons];rcases hd with hd|hd
   ·obtain⟨j,k1,k2⟩:=Jn h1 d hd;exact⟨j,List.mem_append_left _ k1,k2⟩
   ·obtain⟨j,k1,k2⟩:=Fj h2 d hd;exact⟨j,List.mem_append_right _ k1,k2⟩
  ·cases h
theorem B4:∀{es:List (List SC)} {rows:List (List Nat)} {ys:List (List AC)},BM es=some rows->Ah ρ σ es ys->∃ds,ys=ds.map (λe=>e.map .d)/\AH ρ rows=some ds
 |[],rows,ys,h,hl=>by
  simp only[BM]at h;injection h with h;subst h
  cases ys with
  |nil=>exact⟨[],rfl,rfl⟩
  |cons=>exact hl.elim
 |e::r,rows,[],h,hl=>hl.elim
 |e::r,rows,y::ys,h,hl=>by
  simp only[BM]at h;split at h
  ·rename_i x xs h1 h2;injection h with h;subst h;obtain⟨d,rfl,k1⟩:=zT h1 hl.1;obtain⟨ds,rfl,k2⟩:=B4 h2 hl.2;exact⟨d::ds,rfl,by simp only[AH,wi k1,k2]⟩
  ·cases h
theorem L1{x:Nl}(he:aq (LA S x).1 ρ=some ρ')(hr:aO S ρ σ s):∃σ' s',Re s s'/\aO (LA S x).2 ρ' σ' s':=by
 have triv:aq [] ρ=some ρ'->∃σ' s',Re s s'/\aO S ρ' σ' s':=λh=>by
  simp only[aq]at h;injection h with h;subst h;exact⟨σ,s,Re.refl _,hr⟩
 unfold LA at he ⊢;split
 ·rename_i i st hsl;simp only[hsl]at he;split
  ·rename_i a t k es ho;simp only[ho]at he;split
   ·rename_i rows hrw;simp only[hrw]at he;obtain⟨ρ1,a1,a2⟩:=ac he;obtain⟨rfl,hsc⟩:=Ez a1;obtain⟨out,o1,rfl⟩:=au a2;obtain⟨y,y1,y2⟩:=bg (c:=.own i st) rfl (hr.sl _ _ hsl);cases y<;>first|exact y2.elim|skip
    obtain⟨rfl,hst⟩:=y2;obtain⟨o',k1,k2,k3,k4⟩:=hr.own ho hst;cases o'<;>first|exact k2.elim|skip
    rename_i b ty kk ys;obtain⟨k5,rfl,rfl,k6⟩:=k2;obtain rfl:=aT k1 rfl;obtain⟨ds,rfl,hds⟩:=B4 hrw k6;simp only[av,hds]at o1;split at o1
    ·injection o1 with o1;subst o1
     have hfl:jl ds.flatten:=λd hd=>by
      obtain⟨j,j1,j2⟩:=Fj hds d hd;obtain⟨v,hv⟩:=hsc j j1;rw[j2]at hv;injection hv with hv;exact⟨v,hv⟩
     refine⟨σ,{s with ob:=upd s.ob _ (.row b ty kk ds true)},λw0 N a w E h=>⟨_,LU h k1 hfl⟩,?_⟩;have hb:=hr.bind (out:=[DV.sl ty kk ds]) (k:=1) rfl
     exact hb.upd (s':={s with ob:=upd s.ob _ (.row b ty kk ds true)}) (n':=S.n) (c':=S.c) (so:=.row a ty kk S.m) (aN.refl _) hb.c hb.n (Nat.le_refl _) k4 rfl (λj hj=>az _ _ hj)
      (by simp only[ab];exact⟨k5,rfl,rfl,rfl,by rw[<-hr.m];simp⟩)
    ·cases o1
   ·rename_i hrw;simp only[hrw]at he;exact triv he
  ·rename_i hno;split at he
   ·rename_i a t k es ho;exact absurd ho (hno _ _ _ _)
   ·exact triv he
 ·rename_i i st k z m hsl;simp only[hsl]at he;split
  ·rename_i a t k' y ho;simp only[ho]at he;split
   ·rename_i hk;rw[if_pos hk]at he;subst hk;obtain⟨out,o1,rfl⟩:=au he;obtain⟨c,c1,c2⟩:=bg (c:=.sub i st _ z m) rfl (hr.sl _ _ hsl);cases c<;>first|exact c2.elim|skip
    obtain⟨rfl,hst,rfl,⟨u',e1,e2,rfl⟩,⟨v',e3,e4,rfl⟩⟩:=c2;obtain⟨o',k1,k2,k3,k4⟩:=hr.own ho hst;cases o'<;>first|exact k2.elim|skip
    rename_i b ty kk es dp;obtain⟨k5,rfl,rfl,rfl,k6⟩:=k2;obtain rfl:=aT k1 rfl;simp only[av,k6,e1,e3]at o1;split at o1
    ·rename_i hc;obtain⟨hu0,hle⟩:=hc;subst hu0;injection o1 with o1;subst o1;refine⟨σ++[s.c],_,N3 k1 c1 hle,?_⟩;have hb:=hr.bind (out:=[DV.sl ty kk (es.take v'.toNat)]) (k:=1) rfl
     have h2:=hb.upd (s':=s.cut _ ty kk v'.toNat es) (n':=S.n) (c':=S.c+1) (so:=.row S.c ty kk S.m) (aN.app _ [s.c]) (by have:=hr.c;simp at this ⊢;omega) hb.n (Nat.le_refl _) k4 rfl (λj hj=>az _ _ hj)
      (by simp only[AS.cut,ab];exact⟨hr.last _,rfl,rfl,rfl,by rw[<-hr.m];simp⟩)
     exact h2.put (d:=some x.i) (v:=.p false [.own _ S.c]) (x:=.p false [.own _ s.c]) ⟨rfl,⟨rfl,hr.last _⟩,trivial⟩
    ·cases o1
   ·rename_i hk;rw[if_neg hk]at he;exact triv he
  ·rename_i hno;split at he
   ·rename_i a t k' y ho;exact absurd ho (hno _ _ _ _)
   ·exact triv he
 ·rename_i hno hno2;split at he
  ·rename_i i st hsl;exact absurd hsl (hno _ _)
  ·rename_i i st k z m hsl;exact absurd hsl (hno2 _ _ _ _ _)
  ·exact triv he
def KP(S:Sy)(t:Nat):List PO×Sy:=
 match aG S.sl t with
 |some (.p false [.own i st])=>(match S.own i st with
  |some (.opn _ _ x none)=>([],{S with ob:=(i,.dx st x)::S.ob})
  |some (.opn _ k x (some q))=>(match Kv S i st k x q with
   |some (p,S1)=>(p,{S1 with ob:=(i,.dx st S.m)::S1.ob})
   |none=>([],S))
  |_=>([],S))
 |_=>([],S)
theorem Ff{i st a k x st':Nat}(hr:aO S ρ σ s)(ho:S.own i st=some (.opn a k x none))(hst:σ[st]? =some st'):∃s',Re s s'/\aO {S with ob:=(i,.dx st x)::S.ob} ρ σ s':=by
 obtain⟨o',n1,n2,n3,n4⟩:=hr.own ho hst;cases o'<;>first|exact n2.elim|skip
 rename_i b ty kk es q';obtain⟨n5,rfl,n6,n7⟩:=n2;obtain rfl:=aT n1 rfl
 cases q' with
 |some=>exact n7.elim
 |none=>exact⟨{s with ob:=upd s.ob i (.dx b (.sl ty kk es))},λw0 N a w E h=>⟨E,h.see n1 rfl λL hx=>OY hx⟩,
  hr.upd (s':={s with ob:=upd s.ob i (.dx b (.sl ty kk es))}) (i:=i) (n':=S.n) (c':=S.c) (so:=.dx st x) (aN.refl _) hr.c hr.n (Nat.le_refl _) n4 rfl (λj hj=>az _ _ hj) (by simp only[ab];exact⟨hst,n6⟩)⟩
theorem Kp{t:Nat}(he:aq (KP S t).1 ρ=some ρ')(hr:aO S ρ σ s):∃σ' s',Re s s'/\aO (KP S t).2 ρ' σ' s':=by
 have triv:aq [] ρ=some ρ'->∃σ' s',Re s s'/\aO S ρ' σ' s':=λh=>by
  simp only[aq]at h;injection h with h;subst h;exact⟨σ,s,Re.refl _,hr⟩
 have hst:∀{i st},aG S.sl t=some (.p false [.own i st])->∃st',σ[st]? =some st':=λhl=>by
  obtain⟨y,y1,y2⟩:=bg (c:=.own _ _) rfl (hr.sl _ _ hl);cases y<;>first|exact y2.elim|exact⟨_,y2.2⟩
 unfold KP at he ⊢;split
 ·rename_i i st hsl;simp only[hsl]at he;obtain⟨st',hst⟩:=hst hsl;split
  ·rename_i a k x ho;simp only[ho]at he;simp only[aq]at he;injection he with he;subst he;obtain⟨s',h1,h2⟩:=Ff hr ho hst;exact⟨σ,s',h1,h2⟩
  ·rename_i a k x q ho;simp only[ho]at he;split
   ·rename_i p S1 hp;simp only[hp]at he;obtain⟨s1,f1,f2,f3,f4⟩:=Er hp he hr ho hst;obtain⟨s2,h1,h2⟩:=Ff f2 f3 hst;exact⟨σ,s2,λw0 N a w E h=>by obtain⟨E1,r1⟩:=f1 w0 N a w E h;exact h1 w0 N a w E1 r1,h2⟩
   ·rename_i hp;simp only[hp]at he;exact triv he
  ·rename_i hn1 hn2;split at he
   ·rename_i ho;exact absurd ho (hn1 _ _ _)
   ·rename_i ho;exact absurd ho (hn2 _ _ _ _)
   ·exact triv he
 ·rename_i hn;split at he
  ·rename_i hl;exact absurd hl (hn _ _)
  ·exact triv he
def Fp(S:Sy)(x:Nl):List PO×Sy:=match aG S.ob x.i with
 |some o=>(match sV S x.i (o.st.getD 0)with
  |some (pv,T,cs)=>if o.st.getD 0<S.c then(if 1000<=x.j then(if cs[x.j % 1000]? =some .nil then([.e x.el (x.j / 1000)],{ (S.bind 1)with ob:=(x.i,I6 pv (o.st.getD 0) T (cs.set (x.j % 1000) (.d S.m)))::S.ob})else([],S))
   else match wH x.i (o.st.getD 0) pv T cs x.j S with|some (p,_,S')=>(p,S')|none=>([],S))else([],S)
  |none=>([],S))
 |none=>([],S)
theorem JV{x:Nl}(he:aq (Fp S x).1 ρ=some ρ')(hr:aO S ρ σ s):∃σ' s',Re s s'/\aO (Fp S x).2 ρ' σ' s':=by
 have triv:aq [] ρ=some ρ'->∃σ' s',Re s s'/\aO S ρ' σ' s':=λh=>by
  simp only[aq]at h;injection h with h;subst h;exact⟨σ,s,Re.refl _,hr⟩
 unfold Fp at he ⊢;generalize aG S.ob x.i=o at he ⊢
 cases o with
 |none=>exact triv he
 |some o=>
  simp only at he ⊢;generalize hV:sV S x.i (o.st.getD 0)=v at he ⊢
  cases v with
  |none=>exact triv he
  |some v=>
   obtain⟨pv,T,cs⟩:=v;simp only at he ⊢;by_cases hlt:o.st.getD 0<S.c
   ·rw[if_pos hlt]at he ⊢;have hst:∃st',σ[o.st.getD 0]? =some st':=⟨_,List.getElem?_eq_getElem (by rw[hr.c];exact hlt)⟩;obtain⟨st',hst⟩:=hst;by_cases hj:1000<=x.j
    ·rw[if_pos hj]at he ⊢;by_cases hn:cs[x.j % 1000]? =some .nil
     ·rw[if_pos hn]at he ⊢;obtain⟨out,o1,rfl⟩:=au he;simp only[av]at o1;injection o1 with o1;subst o1;obtain⟨acs,k1,k2,k3⟩:=BG hV hr hst;obtain⟨y,hy,hyc⟩:=k2.get hn;cases y<;>first|exact hyc.elim|skip
      have hb:=hr.bind (out:=[DV.sl x.el (x.j / 1000) []]) (k:=1) rfl;have hcs:cj (ρ++[DV.sl x.el (x.j / 1000) []]) σ (cs.set (x.j % 1000) (.d S.m)) (acs.set (x.j % 1000) (.d (.sl x.el (x.j / 1000) []))):=cj.setV (x:=.d S.m) (y:=.d (.sl x.el (x.j / 1000) [])) (by show(ρ++[_])[S.m]? =_;rw[<-hr.m];simp) (k2.mono (aN.app _ _) (aN.refl _));have hu:=hb.upd (s':=s.nilD x.i st' x.el (x.j / 1000) (x.j % 1000) pv T acs) (i:=x.i) (n':=S.n) (c':=S.c) (so:=I6 pv (o.st.getD 0) T (cs.set (x.j % 1000) (.d S.m))) (aN.refl _) hr.c hb.n (Nat.le_refl _) k3 rfl (λq hq=>by simp only[AS.nilD,az _ _ hq]) (by simp only[AS.nilD,ab];exact Ag hst hcs);exact⟨σ,_,λw0 N a w E h=>LG h (by omega) k1 hy,hu⟩
     ·rw[if_neg hn]at he ⊢;exact triv he
    rw[if_neg hj]at he ⊢;generalize hc:wH x.i (o.st.getD 0) pv T cs x.j S=q at he ⊢
    cases q with
    |none=>exact triv he
    |some q=>
     obtain⟨p,cs',S'⟩:=q;obtain⟨acs,k1,k2,-⟩:=BG hV hr hst;obtain⟨s',σ',acs',f1,f2,f3,-⟩:=BD hc he hr hst k1 k2;exact⟨σ',s',f1,f3⟩
   ·rw[if_neg hlt]at he ⊢;exact triv he
def yI(S:Sy)(x:Nl):List PO×Sy:=
 if x.k=0/\x.j=7 then KP S x.i else if 0<x.k then(if x.slot then(match aG S.sl x.i with
  |some (.p false [.nil])=>([.e x.el x.k],((S.bind 1).push (.row S.c x.el x.k S.m)).put (some x.i) (.p false [.own S.n S.c]))
  |_=>([],S))
 else(match aG S.ob x.i with
  |some (.var st t cs)=>(match cs[x.j]? with
   |some .nil=>([.e x.el x.k],{ ((S.bind 1).push (.row S.c x.el x.k S.m))with ob:=(x.i,.var st t (cs.set x.j (.own S.n S.c)))::((S.bind 1).push (.row S.c x.el x.k S.m)).ob})
   |_=>([],S))
  |_=>([],S)))else if x.slot then LA S x else Fp S x
theorem cj.set{cs:List SC}{ys:List AC}{c:SC}{y:AC}(h:cj ρ σ cs ys)(hc:RC ρ σ c y):∀j,cj ρ σ (cs.set j c) (ys.set j y):=by
 intro j
 induction j generalizing cs ys with
 |zero=>match cs,ys,h with
  |[],[],_=>exact trivial
  |x::xs,y'::ys,h=>exact⟨hc,h.2⟩
 |succ j ih=>match cs,ys,h with
  |[],[],_=>exact trivial
  |x::xs,y'::ys,h=>exact⟨h.1,ih h.2⟩
theorem Id{x:Nl}(he:aq (yI S x).1 ρ=some ρ')(hr:aO S ρ σ s):∃σ' s',Re s s'/\aO (yI S x).2 ρ' σ' s':=by
 unfold yI at he ⊢;split
 ·rename_i hk;rw[if_pos hk]at he;exact Kp he hr
 rename_i hk7;rw[if_neg hk7]at he;split
 ·rename_i hk;rw[if_pos hk]at he;split
  ·rename_i hs;rw[if_pos hs]at he;split
   ·rename_i hn;rw[hn]at he;simp only[aq,av]at he;injection he with he;subst he;have h1:=hr.sl _ _ hn
    cases hx:s.sl x.i with
    |p b cs=>
     rw[hx]at h1;obtain⟨rfl,h1⟩:=h1
     match cs,h1 with
     |[c],h1=>
      cases c<;>first|exact h1.1.elim|skip
      refine⟨σ++[s.c],_,G2 (el:=x.el) hk hx,?_⟩;have:=((hr.bind (out:=[DV.sl x.el x.k []]) (k:=1) rfl).push (so:=.row S.c x.el x.k S.m) (ob:=.row s.c x.el x.k [] true) ⟨hr.last _,rfl,rfl,rfl,by rw[<-hr.m];simp⟩).put (d:=some x.i) (v:=.p false [.own S.n S.c]) (x:=.p false [.own s.n s.c]) ⟨rfl,⟨hr.n,hr.last _⟩,trivial⟩
      exact this
    |tup=>rw[hx]at h1;exact h1.elim
    |und=>rw[hx]at h1;exact h1.elim
   ·rename_i hn
    have:aq [] ρ=some ρ':=by
     revert he;split
     ·rename_i h;exact absurd h (by simpa using hn)
     ·exact id
    simp only[aq]at this;injection this with this;subst this;exact⟨σ,s,Re.refl _,hr⟩
  ·rename_i hs;rw[if_neg hs]at he;split
   ·rename_i st t cs ho;rw[ho]at he;simp only at he;split
    ·rename_i hj;rw[hj]at he;simp only[aq,av]at he;injection he with he;subst he;obtain⟨hlt,h1⟩:=hr.ob _ _ ho
     cases hx:s.ob x.i with
     |var st' t' ys=>
      rw[hx]at h1;obtain⟨h2,rfl,h3⟩:=h1;obtain⟨y,y1,y2⟩:=h3.get hj;cases y<;>first|exact y2.elim|skip
      have hown:s.own? x.i st'=some (.var st' t' ys):=by
       unfold AS.own?;rw[hr.n,if_pos hlt,hx];simp[Ob.st]
      refine⟨σ++[s.c],_,Dy (el:=x.el) hk hown y1,?_⟩;have hb:=(hr.bind (out:=[DV.sl x.el x.k []]) (k:=1) rfl).push (so:=.row S.c x.el x.k S.m) (ob:=.row s.c x.el x.k [] true) ⟨hr.last _,rfl,rfl,rfl,by rw[<-hr.m];simp⟩;refine hb.upd (s':={s.push (.row s.c x.el x.k [] true)with ob:=upd (upd s.ob s.n (.row s.c x.el x.k [] true)) x.i (.var st' t' (ys.set x.j (.own s.n s.c)))}) (i:=x.i) (n':=((S.bind 1).push (.row S.c x.el x.k S.m)).n) (c':=((S.bind 1).push (.row S.c x.el x.k S.m)).c) (so:=.var st t' (cs.set x.j (.own S.n S.c))) (aN.refl _) hb.c hb.n (Nat.le_refl _) (by simp only[Sy.push,Sy.bind];omega) rfl (λj hj=>by simp only[AS.push];rw[az _ _ hj]) ?_;simp only[ab]
      exact⟨(aN.app _ _).get h2,rfl,cj.set (c:=.own S.n S.c) (y:=.own s.n s.c) (cj.mono (aN.app _ _) (aN.app _ _) h3) ⟨hr.n,hr.last _⟩ _⟩
     |arr=>rw[hx]at h1;exact h1.elim
     |row=>rw[hx]at h1;exact h1.elim
     |frz=>rw[hx]at h1;exact h1.elim
     |dx=>rw[hx]at h1;exact h1.elim
     |opn=>rw[hx]at h1;exact h1.elim
     |pvr=>rw[hx]at h1;exact h1.elim
     |cur=>rw[hx]at h1;exact h1.elim
     |dead=>rw[hx]at h1;exact h1.elim
    ·rename_i hn
     have:aq [] ρ=some ρ':=by
      revert he;split
      ·rename_i h;exact absurd h (by simpa using hn)
      ·exact id
     simp only[aq]at this;injection this with this;subst this;exact⟨σ,s,Re.refl _,hr⟩
   ·rename_i hn
    have:aq [] ρ=some ρ':=by
     revert he;split
     ·rename_i st t cs h;exact absurd h (hn st t cs)
     ·exact id
    simp only[aq]at this;injection this with this;subst this;exact⟨σ,s,Re.refl _,hr⟩
 ·rename_i hk;rw[if_neg hk]at he;split
  ·rename_i hs;rw[if_pos hs]at he;exact L1 he hr
  ·rename_i hs;rw[if_neg hs]at he;exact JV he hr
def vo:List Nl->Sy->List PO×Sy
 |[],S=>([],S)
 |x::r,S=>((yI S x).1++(vo r (yI S x).2).1,(vo r (yI S x).2).2)
theorem zp:∀{l:List Nl} {S:Sy} {ρ ρ':List DV} {σ:List Nat} {s:AS},aq (vo l S).1 ρ=some ρ'->aO S ρ σ s->∃σ' s',Re s s'/\aO (vo l S).2 ρ' σ' s'
 |[],S,ρ,ρ',σ,s,he,hr=>by
  simp only[vo,aq]at he;injection he with he;subst he
  exact⟨σ,s,Re.refl _,hr⟩
 |x::r,S,ρ,ρ',σ,s,he,hr=>by
  simp only[vo]at he ⊢;obtain⟨ρ1,a1,a2⟩:=ac he;obtain⟨σ1,s1,r1,h1⟩:=Id a1 hr;obtain⟨σ2,s2,r2,h2⟩:=zp a2 h1;exact⟨σ2,s2,r1.trans r2,h2⟩
end
end Go.Proofs.Ytngaddcgmnonbaa
namespace Go.Proofs.Ytngaddcgmnonbaa
open Go.RowKit
structure wW where
 φ:List (Nat×Nat)
 ψ:List (Nat×Nat)
 π:List (Nat×Nat)
def uD(p i:Nat)(a:wW):wW:={a with π:=(p,i)::a.π}
def Uf:List Nat->List Nat->wW->wW
 |p::ps,i::is,a=>Uf ps is (uD p i a)
 |_,_,a=>a
def uI(i i' st st':Nat)(a:wW):wW:={a with φ:=(i,i')::a.φ,ψ:=(st,st')::a.ψ}
def uC:SC->SC->wW->wW
 |.d p,.d i,a=>uD p i a
 |.own i st,.own i' st',a=>uI i i' st st' a
 |.ptr i st _,.ptr i' st' _,a=>uI i i' st st' a
 |.elt i st _ j _,.elt i' st' _ j' _,a=>uD j j' (uI i i' st st' a)
 |.rd ps,.rd is,a=>Uf ps is a
 |.sub i st _ z m,.sub i' st' _ z' m',a=>uD m m' (uD z z' (uI i i' st st' a))
 |_,_,a=>a
def Rn:List SC->List SC->wW->wW
 |x::xs,y::ys,a=>Rn xs ys (uC x y a)
 |_,_,a=>a
def uT:List (Bool×List SC)->List (Bool×List SC)->wW->wW
 |x::xs,y::ys,a=>uT xs ys (Rn x.2 y.2 a)
 |_,_,a=>a
def uV:SV->SV->wW->wW
 |.p _ cs,.p _ cs',a=>Rn cs cs' a
 |.tup xs,.tup ys,a=>uT xs ys a
 |_,_,a=>a
def uH:Option (Nat×Nat×Nat×Nat)->Option (Nat×Nat×Nat×Nat)->wW->wW
 |some (j,_,n,sn),some (j',_,n',sn'),a=>uD j j' (uI n n' sn sn' a)
 |_,_,a=>a
def uO:SO->SO->wW->wW
 |.var st _ cs,.var st' _ cs',a=>Rn cs cs' {a with ψ:=(st,st')::a.ψ}
 |.row st _ _ x,.row st' _ _ x',a=>uD x x' {a with ψ:=(st,st')::a.ψ}
 |.frz st x,.frz st' x',a=>uD x x' {a with ψ:=(st,st')::a.ψ}
 |.dx st x,.dx st' x',a=>uD x x' {a with ψ:=(st,st')::a.ψ}
 |.cur st _ _ x,.cur st' _ _ x',a=>uD x x' {a with ψ:=(st,st')::a.ψ}
 |.pvr st _ cs,.pvr st' _ cs',a=>Rn cs cs' {a with ψ:=(st,st')::a.ψ}
 |.shr st _ _ x,.shr st' _ _ x',a=>uD x x' {a with ψ:=(st,st')::a.ψ}
 |.opn st _ x q,.opn st' _ x' q',a=>uH q q' (uD x x' {a with ψ:=(st,st')::a.ψ})
 |_,_,a=>a
def Uj(S:Sy):List (Nat×SV)->wW->wW
 |[],a=>a
 |(t,v)::r,a=>Uj S r (match aG S.sl t with|some v'=>uV v v' a|none=>a)
def TW(S:Sy):List (Nat×SO)->wW->wW
 |[],a=>a
 |(i,o)::r,a=>TW S r (match aG S.ob ((aG a.φ i).getD i)with|some o'=>uO o o' a|none=>a)
def Sk(H S:Sy):wW:=TW S H.ob (TW S H.ob (Uj S H.sl ⟨[],[],[]⟩))
structure aY where
 key:Nat
 np:Nat
 H:Sy
 nils:List Nl
def IC:List aY->Nat->Option aY
 |[],_=>none
 |h::r,k=>if h.key=k then some h else IC r k
def S7(h:aY)(base:Nat)(S:Sy):Option (List PO×List Nat):=
 let r:=vo h.nils S
 let a:=Sk h.H r.2
 let π:=(List.range h.np).map λj=>(aG a.π (base+j)).getD 0
 let ψ:=(List.range h.H.c).map λj=>(aG a.ψ j).getD 0
 let φ:=(List.range h.H.n).map λj=>(aG a.φ j).getD j
 if Oy base π ψ φ h.H r.2 then some (r.1,π)else none
section
variable {P:Program}{R:List (Bool×List DV)->Prop}{N:Nat}{ow:eK}{ρ ρ':List DV}{σ σ':List Nat}{S S':Sy}{s s':AS}{L:Lbl}{Q:Exit->AS->Prop}
theorem Ho{h:aY}{base:Nat}{ps:List PO}{π:List Nat}(hf:S7 h base S=some (ps,π))(hl:ρ.length=base)(hp:aN ρ ρ')(hr:aO S ρ' σ s){ρ2 vs:List DV}(he:aq ps ρ'=some ρ2)(hv:gL ρ2 π=some vs):
 vs.length=h.np/\π.length=h.np/\∃σ' s',Re s s'/\aO h.H (ρ++vs) σ' s':=by
 unfold S7 at hf;simp only at hf;split at hf
 ·rename_i hm;injection hf with hf;injection hf with e1 e2;subst e1;obtain⟨σ1,s1,r1,h1⟩:=zp he hr;have hlen:π.length=h.np:=by rw[<-e2];simp
  rw[e2]at hm;obtain⟨s2,r2,h2⟩:=LP hm h1 (M:=⟨hl,hp.trans (ai he),E9 hv⟩);exact⟨by rw[<-(E9 hv).len,hlen],hlen,_,s2,r1.trans r2,h2⟩
 ·cases hf
abbrev Kt:=Nat->Exit->Sy->Option Pg
def yS(P:Program)(R:List (Bool×List DV)->Prop)(L:Lbl)(ρ:List DV)(Q:Exit->AS->Prop)(K:Kt):Prop:=
 ∀L' ρ',aN L L'->aN ρ ρ'->∀e S pg,K L'.length e S=some pg->∀σ s,aO S ρ' σ s->W P R pg L' ρ'->Q e s
theorem yS.mono{K:Kt}{L2:Lbl}{ρ2:List DV}(h:yS P R L ρ Q K)(hL:aN L L2)(hp:aN ρ ρ2):yS P R L2 ρ2 Q K:=
 λL' ρ' h1 h2=>h L' ρ' (hL.trans h1) (hp.trans h2)
theorem G5{c:Code}{Q':Exit->AS->Prop}(h:oP P N c Q' s)(hq:∀e s,Q' e s->∃s',Re s s'/\Q e s'):oP P N c Q s:=λw0 a w E hr=>by
 refine Code.wp_mono (λe a w he=>?_) (h w0 a w E hr);obtain⟨s1,E1,h1,h2⟩:=he;obtain⟨s2,r2,h3⟩:=hq e s1 h1;obtain⟨E2,h4⟩:=r2 w0 N a w E1 h2;exact⟨s2,E2,h3,h4⟩
def To(h:aY)(base l:Nat)(S:Sy):Option Pg:=match S7 h base S with|some (ps,π)=>some (dl (ps.map .po) (.jump l π))|none=>none
theorem Je{h:aY}{base l:Nat}{pg:Pg}(hf:To h base l S=some pg)(hl:ρ.length=base)(hp:aN ρ ρ')(hr:aO S ρ' σ s)(hw:W P R pg L ρ'):
 ∃J vs σ' s',L[l]? =some J/\J vs/\vs.length=h.np/\Re s s'/\aO h.H (ρ++vs) σ' s':=by
 unfold To at hf;split at hf
 ·rename_i ps π hfit;injection hf with hf;subst hf;obtain⟨ρ2,he,hw2,-⟩:=bn (ei hw);simp only[W]at hw2;obtain⟨J,vs,j1,j2,j3⟩:=hw2;obtain⟨f1,f2,σ',s',f3,f4⟩:=Ho hfit hl hp hr he j2;exact⟨J,vs,σ',s',j1,j3,f1,f3,f4⟩
 ·cases hf
def jK(h:aY)(base l:Nat)(K:Kt):Kt:=λlv e S'=>match e with|.normal=>To h base l S'|e=>K lv e S'
def ye(hs:List aY)(key lv:Nat)(S:Sy)(K:Kt)(body:Nat->Kt->Option Pg):Option Pg:=
 match IC hs key with
 |none=>body lv K
 |some h=>if h.H.m=S.m+h.np then(match K lv .normal h.H,body (lv+1) (jK h S.m lv K)with|some rest,some k=>some (.join h.np rest k)|_,_=>none)else none
def Ua(Q:Exit->AS->Prop):Exit->AS->Prop
 |.normal,s=>∃s',Re s s'/\Q .normal s'
 |e,s=>Q e s
theorem rb{hs:List aY}{key lv:Nat}{K:Kt}{body:Nat->Kt->Option Pg}{c:Code}{pg:Pg}(h:ye hs key lv S K body=some pg)(hl:lv=L.length)(hr:aO S ρ σ s)(hk:yS P R L ρ Q K)(hw:W P R pg L ρ)
 (hb:∀lv K' pg L' Q',body lv K'=some pg->lv=L'.length->yS P R L' ρ Q' K'->W P R pg L' ρ->oP P N c Q' s):oP P N c Q s:=by
 unfold ye at h;split at h
 ·exact hb _ _ _ _ _ h hl hk hw
 ·rename_i hh _;split at h
  ·rename_i hm;split at h
   ·rename_i rest k h1 h2;injection h with h;subst h;simp only[W]at hw;obtain⟨J,w1,w2⟩:=hw;refine G5 (Q':=Ua Q) (hb _ _ _ (L++[J]) (Ua Q) h2 (by simp[hl]) ?_ w2) ?_
    ·intro L' ρ' hL hp e S' pg' hpg σ' s' hr' hw';unfold jK at hpg
     cases e with
     |normal=>
      obtain⟨J',vs,σ2,s2,j1,j2,j3,j4,j5⟩:=Je hpg hr.m hp hr' hw';rw[hL.get (i:=lv) (x:=J) (by simp[hl])]at j1;injection j1 with j1;subst j1
      exact⟨s2,j4,hk L (ρ++vs) (aN.refl _) (aN.app _ _) _ _ _ (hl▸h1) _ _ j5 (w1 vs j3 j2)⟩
     |_=>exact hk L' ρ' ((aN.app _ _).trans hL) hp _ _ _ hpg _ _ hr' hw'
    ·intro e s1 h1
     cases e with
     |normal=>exact h1
     |_=>exact⟨s1,Re.refl _,h1⟩
   ·cases h
  ·cases h
def PG(P:Program)(S:Sy)(o:Oper):Option (List PO×Nat×Sy×Sy):=match o.op with
 |.call ⟨.builtin .append,⟨[X,Y]⟩,⟨[t,t']⟩⟩=>if t'=t then(match fh P t with
  |some (el,k)=>(match ci P el,Cs P el with
   |some zs,some b=>if zs.length=k/\0<k then(match iO S Y with
    |some (q,u,S1)=>(match iO S1 X with
     |some (p,v,S2)=>(match one v,one u with
      |some .emp,some cy=>(match Fc P (S2.bind 1) el k cy with
       |some (r,y,S3)=>some (q++(p++([PO.e el k]++(r++([PO.app el k b S2.m y]++[PO.emp S3.m])))),S3.m+1,{ (S3.bind 1).bind 1 with kn:=(S3.m+1,true)::S3.kn}.put o.dst (.p false [.emp]),
        (({ (S3.bind 1).bind 1 with kn:=(S3.m+1,false)::S3.kn}:Sy).push (.shr S3.c el k S3.m)).put o.dst (.p false [.own S3.n S3.c]))
       |none=>none)
      |_,_=>none)
     |none=>none)
    |none=>none)else none
   |_,_=>none)
  |none=>none)else none
 |_=>none
theorem K8{ps:List PO}{i:Nat}{Sa Sb:Sy}{o:Oper}{a b:Pg}(h:PG P S o=some (ps,i,Sa,Sb))(hd:dB N o.dst=true)(hr:aO S ρ σ s)(hw:W P R (dl (ps.map .po) (.ite i a b)) L ρ):
 ∃ρ' σ' s',dd P N o s s'/\aN ρ ρ'/\((aO Sa ρ' σ' s'/\W P R a L ρ')\/(aO Sb ρ' σ' s'/\W P R b L ρ')):=by
 unfold PG at h;split at h
 ·rename_i X Y t t' hop;split at h
  ·rename_i htt;subst htt;split at h
   ·rename_i el k ht;split at h
    ·rename_i zs by_ hz hby
     split at h
     ·rename_i hzk;split at h
      ·rename_i q u S1 hu;split at h
       ·rename_i p v S2 hv;split at h
        ·rename_i cy hone hcy;split at h
         ·rename_i r y S3 hsrc;injection h with h;injection h with e1 h;injection h with e2 h;injection h with e3 e4;subst e1 e2 e3 e4;obtain⟨ρ',he,hw2,hpre⟩:=bn (ei hw);obtain⟨ρ1,c1,c2⟩:=ac he;obtain⟨ρ2,d1,d2⟩:=ac c2;obtain⟨ρ3,f1,f2⟩:=ac (ps:=[PO.e el k]) d2;obtain⟨ρ4,g1,g2⟩:=ac f2;obtain⟨ρ5,i1,i2⟩:=ac (ps:=[PO.app el k by_ S2.m y]) (qs:=[PO.emp S3.m]) g2;obtain⟨out,o1,rfl⟩:=au f1;simp only[av]at o1;injection o1 with o1;subst o1;obtain⟨es0,fs,t',a1,a2,a3,a4,rfl⟩:=kF i1;obtain⟨out2,o2,rfl⟩:=au i2;obtain⟨k1,k2⟩:=aQ hu c1 hr;obtain⟨m1,m2⟩:=aQ hv d1 k2;obtain⟨acx,x1,x2⟩:=bg hone m1;obtain⟨acy,y1,y2⟩:=bg hcy k1;cases acx<;>first|exact x2.elim|skip
          have m3:=m2.bind (out:=[DV.sl el k []]) (k:=1) rfl
          have hes0:es0=[]:=by
           have h0:(ρ2++[DV.sl el k []])[S2.m]? =some (.sl el k []):=by rw[<-m2.m];simp
           rw[(ai g1).get h0]at a1;injection a1 with a1;injection a1 with _ _ a1;exact a1.symm
          subst hes0;simp only[List.nil_append,List.length_nil,Nat.zero_add]at *;obtain⟨b1,b2,-,-,-⟩:=Cn hsrc g1 m3 (y2.mono ((ai d1).trans (aN.app _ _)) (aN.refl _)) a2;have b3:=b2.bind (out:=[DV.sl el k fs]) (k:=1) rfl;have hSm:(ρ4++[DV.sl el k fs])[S3.m]? =some (.sl el k fs):=by rw[<-b2.m];simp
          simp only[av,hSm]at o2;injection o2 with o2;subst o2;have b4:=b3.bind (out:=[DV.sc (.bool fs.isEmpty)]) (k:=1) rfl
          have hi:(ρ4++[DV.sl el k fs]++[DV.sc (.bool fs.isEmpty)])[S3.m+1]? =some (.sc (.bool fs.isEmpty)):=by
           have:=b3.m;rw[List.getElem?_append_right (by rw[this];exact Nat.le_refl _),this];simp[Sy.bind]
          simp only[W,hi]at hw2
          cases fs with
          |nil=>
           refine⟨_,σ,_,Kw (by_:=by_) hop (eb hd) ht hz hzk.1 x1 y1 b1,hpre,.inl ⟨?_,hw2⟩⟩
           exact(b4.know hi).put (d:=o.dst) (v:=.p false [.emp]) (x:=.p false [.emp]) ⟨rfl,trivial,trivial⟩
          |cons f0 fs=>
           refine⟨_,σ++[s.c],_,LC hop (eb hd) ht hz hzk.1 hzk.2 hby x1 y1 b1 (by simp) (by unfold maxLen;exact a3) a4,hpre,.inr ⟨?_,hw2⟩⟩;have hp:=(b4.know hi).push (so:=.shr S3.c el k S3.m) (ob:=.row s.c el k (f0::fs) false) ⟨b4.last _,rfl,rfl,rfl,(aN.app _ _).get hSm⟩;exact hp.put (d:=o.dst) (v:=.p false [.own S3.n S3.c]) (x:=.p false [.own s.n s.c]) ⟨rfl,⟨b4.n,b4.last _⟩,trivial⟩
         ·cases h
        ·cases h
       ·cases h
      ·cases h
     ·cases h
    ·cases h
   ·cases h
  ·cases h
 ·cases h
def Gr(P:Program)(ow:eK)(o:Oper)(S:Sy)(k:Sy->Option Pg):Option Pg:=match PG P S o with
 |some (ps,i,Sa,Sb)=>(match k Sa,k Sb with|some a,some b=>some (dl (ps.map .po) (.ite i a b))|_,_=>none)
 |none=>match OA P ow S o with|some (n,S')=>(match k S' with|some g=>some (dl n g)|none=>none)|none=>none
def uL(P:Program)(N:Nat)(ow:eK)(ops:Array Oper):List Oper->Nat->Sy->Kt->Option Pg
 |[],lv,S,K=>K lv .normal S
 |o::r,lv,S,K=>if dB N o.dst then(match o.guard with
  |none=>Gr P ow o S λS'=>uL P N ow ops r lv S' K
  |some (g,want)=>(match iM ops g with
   |some t=>if t<N then(match aG S.sl t with
    |some (.tup [])=>uL P N ow ops r lv (S.put o.dst (.tup [])) K
    |some (.p false [.d i])=>(match aG S.kn i with
     |some b=>if b=want then Gr P ow o S λS'=>uL P N ow ops r lv S' K else uL P N ow ops r lv (S.put o.dst (.tup [])) K
     |none=>(match(Gr P ow o {S with kn:=(i,want)::S.kn} λS'=>uL P N ow ops r lv S' K),uL P N ow ops r lv ({S with kn:=(i,!want)::S.kn}.put o.dst (.tup [])) K with
      |some a,some b=>some (if want then .ite i a b else .ite i b a)
      |_,_=>none))
    |_=>none)else none
   |none=>none))else none
theorem vO{o:Oper}{k:Sy->Option Pg}{pg:Pg}(h:Gr P ow o S k=some pg)(hd:dB N o.dst=true)(hr:aO S ρ σ s)(hw:W P R pg L ρ):
 ∃ρ' σ' s' S' g,dd P N o s s'/\aO S' ρ' σ' s'/\k S'=some g/\W P R g L ρ'/\aN ρ ρ':=by
 unfold Gr at h;split at h
 ·rename_i ps i Sa Sb he;split at h
  ·rename_i a b ha hb;injection h with h;subst h;obtain⟨ρ',σ',s',h1,h2,h3⟩:=K8 he hd hr hw;rcases h3 with⟨h3,h4⟩|⟨h3,h4⟩
   ·exact⟨ρ',σ',s',Sa,a,h1,h3,ha,h4,h2⟩
   ·exact⟨ρ',σ',s',Sb,b,h1,h3,hb,h4,h2⟩
  ·cases h
 split at h
 ·rename_i n S' ho;split at h
  ·rename_i g hg;injection h with h;subst h;obtain⟨ρ',σ',s',h1,h2,h3,h4⟩:=KO ho hd hr (ei hw);exact⟨ρ',σ',s',S',g,h1,h2,hg,h3,h4⟩
  ·cases h
 ·cases h
theorem oc{i t:Nat}{b:Bool}(hr:aO S ρ σ s)(ht:aG S.sl t=some (.p false [.d i]))(hb:ρ[i]? =some (.sc (.bool b))):s.sl t=.p false [.d (.sc (.bool b))]:=by
 obtain⟨y,y1,y2⟩:=cS (v:=.p false [.d i]) rfl (hr.sl t _ ht);rw[hb]at y2;injection y2 with y2;subst y2;exact y1
theorem ek{ops:Array Oper}{K:Kt}:∀{l:List Oper} {lv:Nat} {S:Sy} {pg:Pg} {ρ:List DV} {σ:List Nat} {s:AS},uL P N ow ops l lv S K=some pg->lv=L.length->aO S ρ σ s->yS P R L ρ Q K->W P R pg L ρ->jh P N ops l Q s
 |[],lv,S,pg,ρ,σ,s,h,hl,hr,hk,hw=>I2 (hk L ρ (aN.refl _) (aN.refl _) _ _ _ (by rw[<-hl];exact h) _ _ hr hw)
 |o::r,lv,S,pg,ρ,σ,s,h,hl,hr,hk,hw=>by
  simp only[uL]at h;split at h
  ·rename_i hd;split at h
   ·rename_i hg;obtain⟨ρ',σ',s',S',g,r1,r2,r3,r4,r5⟩:=vO h hd hr hw;exact FI hg r1 (ek r3 hl r2 (hk.mono (aN.refl _) r5) r4)
   ·rename_i g want hg;split at h
    ·rename_i t hgs;split at h
     ·rename_i htN;split at h
      ·rename_i ht
       have hs:s.sl t=.tup []:=by
        have:=hr.sl t _ ht
        cases hx:s.sl t with
        |tup ys=>rw[hx]at this;cases ys with
         |nil=>rfl
         |cons=>exact this.elim
        |p=>rw[hx]at this;exact this.elim
        |und=>rw[hx]at this;exact this.elim
       exact tq hg hgs hs htN (eb hd) (ek h hl (hr.put (v:=.tup []) (x:=.tup []) trivial) hk hw)
      ·rename_i i ht;split at h
       ·rename_i b hb;have hs:=oc hr ht (hr.kn i b hb);split at h
        ·rename_i e;subst e;obtain⟨ρ',σ',s',S',g',r1,r2,r3,r4,r5⟩:=vO h hd hr hw;exact nq hg hgs hs htN r1 (ek r3 hl r2 (hk.mono (aN.refl _) r5) r4)
        ·rename_i e;exact mG hg hgs hs htN e (eb hd) (ek h hl (hr.put (v:=.tup []) (x:=.tup []) trivial) hk hw)
       ·split at h
        ·rename_i ga gb h1 h2;injection h with h;subst h
         have hw':∃b,ρ[i]? =some (.sc (.bool b))/\(if b=want then W P R ga L ρ else W P R gb L ρ):=by
          cases want with
          |true=>
           simp only[if_true,W]at hw;split at hw
           ·rename_i c hc;refine⟨c,hc,?_⟩;cases c<;>simpa using hw
           ·exact hw.elim
          |false=>
           simp only[Bool.false_eq_true,if_false,W]at hw;split at hw
           ·rename_i c hc;refine⟨c,hc,?_⟩;cases c<;>simpa using hw
           ·exact hw.elim
         obtain⟨b,hb,hw'⟩:=hw';have hs:=oc hr ht hb;split at hw'
         ·rename_i e;subst e;obtain⟨ρ',σ',s',S',g',r1,r2,r3,r4,r5⟩:=vO h1 hd (hr.know hb) hw';exact nq hg hgs hs htN r1 (ek r3 hl r2 (hk.mono (aN.refl _) r5) r4)
         ·rename_i e;have hb':ρ[i]? =some (.sc (.bool (!want))):=by rw[hb];cases b<;>cases want<;>simp_all
          exact mG hg hgs hs htN e (eb hd) (ek h2 hl ((hr.know hb').put (v:=.tup []) (x:=.tup []) trivial) hk hw')
        ·cases h
      ·cases h
     ·cases h
    ·cases h
  ·cases h
end
end Go.Proofs.Ytngaddcgmnonbaa
namespace Go.Proofs.Ytngaddcgmnonbaa
open Go.RowKit
def Mi:Code->Option Nat
 |.region id _ _=>some id
 |.seq a b=>(match Mi a with|some i=>some i|none=>Mi b)
 |.block _ a=>Mi a
 |.loop a=>Mi a
 |.cond _ a b=>(match Mi a with|some i=>some i|none=>Mi b)
 |_=>none
abbrev Dt:=Nat->Array Oper->Nat->Sy->Kt->Option Pg
def Mr(y:Nat->Sy->Option Pg)(K:Kt):Kt:=λlv e S=>match e with|.normal=>y lv S|e=>K lv e S
def MS(id:Nat)(K:Kt):Kt:=λlv e S=>match e with|.exit id'=>if id'=id then K lv .normal S else K lv (.exit id') S|e=>K lv e S
def MA(S:Sy)(c:Operand)(gx gy:Sy->Option Pg):Option Pg:=
 match iO S c with
 |some (p,.p false [.d i],S1)=>(match aG S1.kn i with
  |some b=>(match(if b then gx S1 else gy S1)with|some g=>some (dl (p.map .po) g)|none=>none)
  |none=>(match gx {S1 with kn:=(i,true)::S1.kn},gy {S1 with kn:=(i,false)::S1.kn}with|some a,some b=>some (dl (p.map .po) (.ite i a b))|_,_=>none))
 |_=>none
def y8(P:Program)(N:Nat)(ow:eK)(hs:List aY)(D:Dt):Code->Nat->Sy->Kt->Option Pg
 |.skip,lv,S,K=>K lv .normal S
 |.exit id,lv,S,K=>K lv (.exit id) S
 |.ret,lv,S,K=>K lv .ret S
 |.seq x y,lv,S,K=>y8 P N ow hs D x lv S (Mr (λlv S'=>y8 P N ow hs D y lv S' K) K)
 |.block id x,lv,S,K=>ye hs (2000000+id) lv S K λlv K=>y8 P N ow hs D x lv S (MS id K)
 |.cond c x y,lv,S,K=>ye hs (1000000+(match Mi x with|some i=>i|none=>(Mi y).getD 0)) lv S K λlv K=>MA S c (λS=>y8 P N ow hs D x lv S K) (λS=>y8 P N ow hs D y lv S K)
 |.region id ops false,lv,S,K=>ye hs id lv S K λlv K=>uL P N ow ops ops.toList lv S K
 |.region id ops true,lv,S,K=>ye hs id lv S K λlv K=>D id ops lv S K
 |.loop c,lv,S,K=>(match IC hs (3000000+(Mi c).getD 0)with
  |some h=>if h.H.m=(vo h.nils S).2.m+h.np then(match S7 h (vo h.nils S).2.m (vo h.nils S).2,y8 P N ow hs D c (lv+1) h.H (jK h (vo h.nils S).2.m lv K)with
   |some ([],π),some body=>some (dl ((vo h.nils S).1.map .po) (.loop π body))
   |_,_=>none)else none
  |none=>none)
 |_,_,_,_=>none
section
variable {P:Program}{R:List (Bool×List DV)->Prop}{N:Nat}{ow:eK}{hs:List aY}{D:Dt}
def Qx(P:Program)(R:List (Bool×List DV)->Prop)(N:Nat)(D:Dt):Prop:=
 ∀id ops lv S K pg,D id ops lv S K=some pg->∀(L:Lbl) ρ σ s Q,lv=L.length->aO S ρ σ s->yS P R L ρ Q K->W P R pg L ρ->oP P N (.region id ops true) Q s
theorem wK(hD:Qx P R N D):∀(c:Code) {lv:Nat} {S:Sy} {K:Kt} {pg:Pg} {L:Lbl} {ρ:List DV} {σ:List Nat} {s:AS} {Q:Exit->AS->Prop},y8 P N ow hs D c lv S K=some pg->lv=L.length->aO S ρ σ s->yS P R L ρ Q K->W P R pg L ρ->oP P N c Q s:=by
 intro c
 induction c with
 |skip=>intro lv S K pg L ρ σ s Q h hl hr hk hw;exact HG (hk L ρ (aN.refl _) (aN.refl _) _ _ _ (by rw[<-hl];exact h) _ _ hr hw)
 |exit id=>intro lv S K pg L ρ σ s Q h hl hr hk hw;exact Hf (hk L ρ (aN.refl _) (aN.refl _) _ _ _ (by rw[<-hl];exact h) _ _ hr hw)
 |ret=>intro lv S K pg L ρ σ s Q h hl hr hk hw;exact K2 (hk L ρ (aN.refl _) (aN.refl _) _ _ _ (by rw[<-hl];exact h) _ _ hr hw)
 |seq x y ihx ihy=>
  intro lv S K pg L ρ σ s Q h hl hr hk hw;simp only[y8]at h;refine Ml (ihx h hl hr ?_ hw);intro L' ρ' hL hp e S' pg' hpg σ' s' hr' hw';unfold Mr at hpg
  cases e with
  |normal=>exact ihy hpg rfl hr' (hk.mono hL hp) hw'
  |_=>exact hk L' ρ' hL hp _ _ _ hpg _ _ hr' hw'
 |block id x ih=>
  intro lv S K pg L ρ σ s Q h hl hr hk hw;simp only[y8]at h;refine rb h hl hr hk hw λlv K' pg L' Q' hb hl' hk' hw'=>?_
  refine FP (ih hb hl' hr ?_ hw');intro L2 ρ2 hL hp e S2 pg2 hpg σ2 s2 hr2 hw2;unfold MS at hpg
  cases e with
  |exit id'=>
   simp only at hpg;simp only[GJ];split at hpg
   ·rename_i e;rw[if_pos e];exact hk' L2 ρ2 hL hp _ _ _ hpg _ _ hr2 hw2
   ·rename_i e;rw[if_neg e];exact hk' L2 ρ2 hL hp _ _ _ hpg _ _ hr2 hw2
  |_=>exact hk' L2 ρ2 hL hp _ _ _ hpg _ _ hr2 hw2
 |cond c x y ihx ihy=>
  intro lv S K pg L ρ σ s Q h hl hr hk hw;simp only[y8]at h;refine rb h hl hr hk hw λlv K' pg L' Q' hb hl' hk' hw'=>?_
  unfold MA at hb;split at hb
  ·rename_i p i S1 hv;split at hb
   ·rename_i b hkn;split at hb
    ·rename_i g hg;injection hb with hb;subst hb;obtain⟨ρ1,he,hw1,hp1⟩:=bn (ei hw');obtain⟨k1,k2⟩:=aQ hv he hr;obtain⟨z,z1,z2⟩:=cS (i:=i) rfl k1;rw[k2.kn i b hkn]at z2;injection z2 with z2;subst z2;refine BA z1 ?_
     cases b with
     |true=>exact ihx hg hl' k2 (hk'.mono (aN.refl _) hp1) hw1
     |false=>exact ihy hg hl' k2 (hk'.mono (aN.refl _) hp1) hw1
    ·cases hb
   ·split at hb
    ·rename_i ga gb h1 h2;injection hb with hb;subst hb;obtain⟨ρ1,he,hw1,hp1⟩:=bn (ei hw');obtain⟨k1,k2⟩:=aQ hv he hr;obtain⟨z,z1,z2⟩:=cS (i:=i) rfl k1;simp only[W]at hw1;split at hw1
     ·rename_i b hb;rw[hb]at z2;injection z2 with z2;subst z2;refine BA z1 ?_
      cases b with
      |true=>exact ihx h1 hl' (k2.know hb) (hk'.mono (aN.refl _) hp1) hw1
      |false=>exact ihy h2 hl' (k2.know hb) (hk'.mono (aN.refl _) hp1) hw1
     ·exact hw1.elim
    ·cases hb
  ·cases hb
 |region id ops dr=>
  intro lv S K pg L ρ σ s Q h hl hr hk hw
  cases dr with
  |false=>
   simp only[y8]at h;refine rb h hl hr hk hw λlv K' pg L' Q' hb hl' hk' hw'=>?_
   exact CZ (ek hb hl' hr hk' hw')
  |true=>
   simp only[y8]at h;refine rb h hl hr hk hw λlv K' pg L' Q' hb hl' hk' hw'=>?_
   exact hD _ _ _ _ _ _ hb _ _ _ _ _ hl' hr hk' hw'
 |loop c ih=>
  intro lv S K pg L ρ σ s Q h hl hr hk hw;simp only[y8]at h;split at h
  ·rename_i hh _;split at h
   ·rename_i hm;split at h
    ·rename_i π body hf hb;injection h with h;subst h;obtain⟨ρ1,he,hw1,hp1⟩:=bn (ei hw);obtain⟨σ1,s1,re1,hr1⟩:=zp he hr;simp only[W]at hw1;obtain⟨I,m,vs,v1,v2,v3⟩:=hw1;obtain⟨f1,f2,σ2,s2,f3,f4⟩:=Ho hf hr1.m (aN.refl _) hr1 rfl v1;refine O0 (re1.trans f3) (DY (λs m=>∃vs σ,vs.length=hh.np/\I vs m/\aO hh.H (ρ1++vs) σ s) m ⟨vs,σ2,f1,v2,f4⟩ ?_);rintro s3 m3 ⟨vs3,σ3,g1,g2,g3⟩;refine ih hb (L:=L++[λvs'=>∃m',m'<m3/\I vs' m']) (by simp[hl]) g3 ?_ (v3 vs3 m3 (by rw[g1,f2]) g2);intro L' ρ' hL hp e S' pg' hpg σ' s' hr' hw';unfold jK at hpg
     cases e with
     |normal=>
      obtain⟨J',vs',σ4,s4,j1,j2,j3,j4,j5⟩:=Je hpg hr1.m ((aN.app _ _).trans hp) hr' hw';rw[hL.get (i:=lv) (x:=λvs'=>∃m',m'<m3/\I vs' m') (by simp[hl])]at j1;injection j1 with j1;subst j1;obtain⟨m',q1,q2⟩:=j2
      exact⟨m',s4,q1,j4,vs',σ4,j3,q2,j5⟩
     |_=>exact hk L' ρ' ((aN.app _ _).trans hL) (hp1.trans ((aN.app _ _).trans hp)) _ _ _ hpg _ _ hr' hw'
    ·cases h
   ·cases h
  ·cases h
 |_=>intro lv S K pg L ρ σ s Q h;simp[y8]at h
end
section
variable {P:Program}{ρ ρ':List DV}{σ:List Nat}{S S':Sy}{s s0:AS}{ps:List PO}
def QO(P:Program)(S:Sy):ResultVar->Option (List PO×Bool×List SC×Sy)
 |.tmp t=>(match aG S.sl t with|some (.p b cs)=>some ([],b,cs,S)|_=>none)
 |.cell t ty=>(match aG S.sl t with
  |some v=>(match one v with|some c=>(match Eo P S ty c with|some (p,.p b cs,S1)=>some (p,b,cs,S1)|_=>none)|none=>none)
  |none=>none)
def td(P:Program):List ResultVar->Sy->Option (List PO×List (Bool×List SC)×Sy)
 |[],S=>some ([],[],S)
 |rv::r,S=>(match QO P S rv with
  |some (p,b,cs,S1)=>(match td P r S1 with|some (q,xs,S2)=>some (p++q,(b,cs)::xs,S2)|none=>none)
  |none=>none)
def P2(P:Program)(s0:AS):List ResultVar->List (Bool×List AC)->Prop
 |[],[]=>True
 |rv::rvs,y::ys=>Cq P s0 rv=some (.p y.1 y.2)/\P2 P s0 rvs ys
 |_,_=>False
theorem IG{rv:ResultVar}{b:Bool}{cs:List SC}(h:QO P S rv=some (ps,b,cs,S'))(he:aq ps ρ=some ρ')(hr:aO S ρ σ s0):∃ys,Cq P s0 rv=some (.p b ys)/\cj ρ' σ cs ys/\aO S' ρ' σ s0:=by
 unfold QO at h;split at h
 ·split at h
  ·rename_i ht;injection h with h;injection h with e1 h;injection h with e2 h;injection h with e3 e4;subst e1 e2 e3 e4;simp only[aq]at he;injection he with he;subst he;have:=hr.sl _ _ ht;rename_i t b cs _
   cases hx:s0.sl t with
   |p b' ys=>rw[hx]at this;obtain⟨rfl,h2⟩:=this;exact⟨ys,by simp[Cq,hx],h2,hr⟩
   |tup=>rw[hx]at this;exact this.elim
   |und=>rw[hx]at this;exact this.elim
  ·cases h
 ·split at h
  ·rename_i t ty v ht;split at h
   ·rename_i c hc;split at h
    ·rename_i p b' cs' S1 hl;injection h with h;injection h with e1 h;injection h with e2 h;injection h with e3 e4;subst e1 e2 e3 e4;obtain⟨y,y1,y2⟩:=bg hc (hr.sl _ _ ht);obtain⟨x,x1,x2,x3⟩:=BB hl he hr y2
     cases x with
     |p b2 ys=>obtain⟨rfl,h2⟩:=x2;exact⟨ys,by simp only[Cq,y1];exact x1,h2,x3⟩
     |tup=>exact x2.elim
     |und=>exact x2.elim
    ·cases h
   ·cases h
  ·cases h
theorem qR:∀{rvs:List ResultVar} {xs:List (Bool×List SC)} {S S':Sy} {ps:List PO} {ρ ρ':List DV},td P rvs S=some (ps,xs,S')->aq ps ρ=some ρ'->aO S ρ σ s0->∃ys,P2 P s0 rvs ys/\RT ρ' σ xs ys/\aO S' ρ' σ s0
 |[],xs,S,S',ps,ρ,ρ',h,he,hr=>by
  simp only[td]at h;injection h with h;injection h with e1 h;injection h with e2 e3;subst e1 e2 e3;simp only[aq]at he;injection he with he;subst he
  exact⟨[],trivial,trivial,hr⟩
 |rv::r,xs,S,S',ps,ρ,ρ',h,he,hr=>by
  simp only[td]at h;split at h
  ·rename_i p b cs S1 h1;split at h
   ·rename_i q xs' S2 h2;injection h with h;injection h with e1 h;injection h with e2 e3;subst e1 e2 e3;obtain⟨ρ1,a1,a2⟩:=ac he;obtain⟨ys,y1,y2,y3⟩:=IG h1 a1 hr;obtain⟨zs,z1,z2,z3⟩:=qR h2 a2 y3;exact⟨(b,ys)::zs,⟨y1,z1⟩,⟨⟨rfl,cj.mono (ai a2) (aN.refl _) y2⟩,z2⟩,z3⟩
   ·cases h
  ·cases h
def F1:List (Bool×List SC)->List (List (Option (Nat×Nat)))->Sy->Option (List PO×List (Bool×List Nat))
 |[],_,S=>some ([],[])
 |(b,cs)::r,ty,S=>(match cK cs (ty.headD []) S with
  |some (p,xs,S1)=>(match F1 r ty.tail S1 with|some (q,l)=>some (p++q,(b,xs)::l)|none=>none)
  |none=>none)
theorem Fd:∀{xs:List (Bool×List SC)} {ty:List (List (Option (Nat×Nat)))} {l:List (Bool×List Nat)} {S:Sy} {ps:List PO} {ρ ρ':List DV} {s:AS} {rvs:List ResultVar} {ys:List (Bool×List AC)},
 F1 xs ty S=some (ps,l)->aq ps ρ=some ρ'->aO S ρ σ s->P2 P s0 rvs ys->RT ρ σ xs ys->∃ds,cV ρ' l=some ds/\en P s0 rvs (ds.map λd=>(d.1,d.2,true)) s
 |[],ty,l,S,ps,ρ,ρ',s,rvs,ys,h,he,hr,hv,ht=>by
  simp only[F1]at h;injection h with h;injection h with e1 e2;subst e1 e2
  match ys,ht with
  |[],_=>
   cases rvs with
   |nil=>exact⟨[],rfl,trivial⟩
   |cons=>exact hv.elim
 |(b,cs)::r,ty,l,S,ps,ρ,ρ',s,rvs,ys,h,he,hr,hv,ht=>by
  simp only[F1]at h;split at h
  ·rename_i p xs S1 h1;split at h
   ·rename_i q l' h2;injection h with h;injection h with e1 e2;subst e1 e2
    match ys,rvs,ht,hv with
    |y::ys,rv::rvs,ht,hv=>
     obtain⟨ρ1,a1,a2⟩:=ac he;obtain⟨s1,ds,g1,g2,g3,-⟩:=eh h1 a1 hr ht.1.2;obtain⟨dss,d1,d2⟩:=Fd h2 a2 g3 hv.2 (RT.mono (ai a1) (aN.refl _) ht.2);refine⟨(b,ds)::dss,by simp only[cV,g2.app_pre (ai a2),d1],?_⟩;simp only[List.map_cons,en];refine⟨trivial,?_⟩;rw[hv.1];exact⟨ht.1.1,s1,g1,d2⟩
   ·cases h
  ·cases h
def ET(P:Program)(rvs:List ResultVar)(ty:List (List (Option (Nat×Nat)))):Kt:=λ_ e S=>
 match e with
 |.normal|.ret=>(match td P rvs S with
  |some (p,xs,S1)=>(match F1 xs ty S1 with|some (q,l)=>some (dl ((p++q).map .po) (.ret l))|none=>none)
  |none=>none)
 |_=>none
def iR(res:List Rs)(vs:List (Bool×List DV)):Prop:=(vs.map λd=>(d.1,d.2,true))=res
theorem Hk{rvs:List ResultVar}{ty:List (List (Option (Nat×Nat)))}{res:List Rs}{L:Lbl}:yS P (iR res) L ρ (FW P rvs res) (ET P rvs ty):=by
 intro L' ρ1 hL hp e S pg hpg σ s hr hw
 have key:∀p xs S1 q l,td P rvs S=some (p,xs,S1)->F1 xs ty S1=some (q,l)->pg=dl ((p++q).map .po) (.ret l)->en P s rvs res s:=by
  intro p xs S1 q l h1 h2 e;subst e;obtain⟨ρ2,he,hw2,-⟩:=bn (ei hw);simp only[W]at hw2;obtain⟨vs,w1,w2⟩:=hw2;obtain⟨ρ3,a1,a2⟩:=ac he;obtain⟨ys,y1,y2,y3⟩:=qR h1 a1 hr;obtain⟨ds,d1,d2⟩:=Fd (P:=P) (s0:=s) h2 a2 y3 y1 y2;rw[w1]at d1;injection d1 with d1;subst d1;rw[w2]at d2;exact d2
 unfold ET at hpg;split at hpg
 ·split at hpg
  ·split at hpg
   ·injection hpg with hpg;exact Or.inl (key _ _ _ _ _ (by assumption) (by assumption) hpg.symm)
   ·cases hpg
  ·cases hpg
 ·split at hpg
  ·split at hpg
   ·injection hpg with hpg;exact Or.inl (key _ _ _ _ _ (by assumption) (by assumption) hpg.symm)
   ·cases hpg
  ·cases hpg
 ·cases hpg
def PU:List (Bool×Nat)->Nat->Nat->List (Nat×SV)
 |[],_,_=>[]
 |(b,n)::r,t,m=>(t,.p b ((cR m n).map .d))::PU r (t+1) (m+n)
def cn:List (Bool×List DV)->List DV
 |[]=>[]
 |(_,ds)::r=>ds++cn r
def si(args:List (Bool×List DV)):List (Bool×Nat):=args.map λa=>(a.1,a.2.length)
theorem z5:∀{args:List (Bool×List DV)} {t0 t:Nat} {pre:List DV} {x:SV},aG (PU (si args) t0 pre.length) t=some x->∃b ds m,t0<=t/\args[t-t0]? =some (b,ds)/\x=.p b ((cR m ds.length).map .d)/\RD (pre++cn args) (cR m ds.length) ds
 |[],t0,t,pre,x,h=>by simp[si,PU,aG]at h
 |(b,ds)::r,t0,t,pre,x,h=>by
  simp only[si,List.map_cons,PU,aG]at h;split at h
  ·rename_i e;subst e;injection h with h;refine⟨b,ds,pre.length,Nat.le_refl _,by simp,h.symm,?_⟩;have:RD (pre++ds) (cR pre.length ds.length) ds:=vG;simp only[cn];rw[<-List.append_assoc];exact this.mono (aN.app _ _)
  ·rename_i e;obtain⟨b',ds',m,h1,h2,h3,h4⟩:=z5 (args:=r) (t0:=t0+1) (t:=t) (pre:=pre++ds) (x:=x) (by simpa[si]using h);refine⟨b',ds',m,by omega,?_,h3,by simpa[cn]using h4⟩;rw[show t-t0=(t-(t0+1))+1 from by omega];simpa using h2
def nI(sh:List (Bool×Nat)):Sy:=⟨PU sh 0 0,[],0,0,(sh.map (·.2)).sum,[]⟩
theorem wu(args:List (Bool×List DV)):aO (nI (si args)) (cn args) [] (bM args):=by
 refine⟨rfl,rfl,?_,λt x hx=>?_,λi x hx=>by simp[nI,aG]at hx,λi b hb=>by simp[nI,aG]at hb⟩
 ·simp only[nI]
  induction args with
  |nil=>rfl
  |cons a r ih=>obtain⟨b,ds⟩:=a;simp only[cn,si,List.map_cons,List.sum_cons,List.length_append]at ih ⊢;rw[ih]
 ·obtain⟨b,ds,m,h1,h2,h3,h4⟩:=z5 (pre:=[]) hx;subst h3;rw[Nat.sub_zero]at h2;simp only[bM,h2];exact⟨rfl,RD.toC (by simpa using h4)⟩
theorem Hu{ow:eK}{hs:List aY}{D:Dt}{f:FuncId}{fn:Func}{c:Code}{args:List (Bool×List DV)}{res:List Rs}{ty:List (List (Option (Nat×Nat)))}{sh:List (Bool×Nat)}{pg:Pg}(hD:Qx P (iR res) fn.ntmps D)
 (hf:P.funcs[f]? =some fn) (hb:fn.body=some c) (hc:bf P f=true) (hN:args.length<=fn.ntmps) (hsh:si args=sh)
 (hg:y8 P fn.ntmps ow hs D c 0 (nI sh) (ET P fn.results.toList ty)=some pg) (hw:W P (iR res) pg [] (cn args)):aW P f args res:=by
 subst hsh;exact zb hf hb hc hN (wK hD c hg rfl (wu args) Hk hw)
end
end Go.Proofs.Ytngaddcgmnonbaa
namespace Go.Proofs.Ytngaddcgmnonbaa
open Go.RowKit
section
variable {P:Program}{R:List (Bool×List DV)->Prop}{N:Nat}{ow:eK}{ρ ρ':List DV}{σ σ' σh σq:List Nat}{S S' H Q H' Q':Sy}{s s' h q:AS}{ps:List PO}{o:Oper}{K:List DV->Prop}{n:List Nd}{L:Lbl}{pr:Bool}
theorem aO.sync(hr:aO S ρ σ s)(hp:aN ρ ρ'):aO {S with m:=ρ'.length} ρ' σ s:=hr.more hp rfl
def Gt(P:Program)(S:Sy):Op->SR
 |.build t parts=>(match xq P S t parts.toList with|some (ps,cs,S')=>some (ps,.p true cs,S')|none=>none)
 |op=>R9 P S op
theorem ov{op:Op}{v:SV}(hh:Gt P S op=some (ps,v,S'))(he:aq ps ρ=some ρ')(hr:aO S ρ σ s):∃x,oS P s op=some x/\RV ρ' σ v x/\aO S' ρ' σ s:=by
 unfold Gt at hh;split at hh
 ·split at hh
  ·rename_i ps' cs S1 hb;injection hh with hh;injection hh with e1 hh;injection hh with e2 e3;subst e1 e2 e3;obtain⟨ht,z,ys,z1,z2,z3,z4⟩:=y6 hb he hr;exact⟨.p true ys,by simp only[oS,ht,if_true,z1,z2],⟨rfl,z3⟩,z4⟩
  ·cases hh
 ·rename_i hnb;obtain⟨x,x1,x2,x3⟩:=JR hh he hr;refine⟨x,?_,x2,x3⟩;unfold oS;split
  ·rename_i t parts;exact absurd rfl (hnb t parts)
  ·exact x1
def q8:List SC->List (Option (Nat×Nat))->Option (List PO)
 |[],_=>some []
 |.d i::r,ty=>(match ty.headD (some (0,0))with|none=>(match q8 r ty.tail with|some p=>some (.sc i::p)|none=>none)|some _=>none)
 |.rd _::_,_=>none
 |_::r,ty=>q8 r ty.tail
theorem jt:∀{cs:List SC} {ty:List (Option (Nat×Nat))} {ps:List PO} {ρ ρ':List DV} {ys:List AC},q8 cs ty=some ps->aq ps ρ=some ρ'->cj ρ σ cs ys->ρ'=ρ/\ys.all cU=true
 |[],ty,ps,ρ,ρ',ys,hh,he,hc=>by
  simp only[q8]at hh;injection hh with hh;subst hh;simp only[aq]at he;injection he with he;subst he
  cases ys with
  |nil=>exact⟨rfl,rfl⟩
  |cons=>exact hc.elim
 |c::r,ty,ps,ρ,ρ',[],hh,he,hc=>hc.elim
 |.d i::r,ty,ps,ρ,ρ',y::ys,hh,he,hc=>by
  simp only[q8]at hh;split at hh
  ·split at hh
   ·rename_i p hp;injection hh with hh;subst hh;obtain⟨x,rfl,hx⟩:=nk hc.1;simp only[aq,av,hx]at he;split at he
    ·rename_i out ho;split at ho
     ·rename_i hsc;injection ho with ho;subst ho;rw[List.append_nil]at he;obtain⟨u,rfl⟩:=nR hsc;obtain⟨h1,h2⟩:=jt hp he hc.2;exact⟨h1,by simp[cU,h2]⟩
     ·cases ho
    ·cases he
   ·cases hh
  ·cases hh
 |.nil::r,ty,ps,ρ,ρ',y::ys,hh,he,hc=>by
  simp only[q8]at hh;cases y<;>first|exact hc.1.elim|skip
  obtain⟨h1,h2⟩:=jt hh he hc.2
  exact⟨h1,by simp[cU,h2]⟩
 |.own _ _::r,ty,ps,ρ,ρ',y::ys,hh,he,hc=>by
  simp only[q8]at hh;cases y<;>first|exact hc.1.elim|skip
  obtain⟨h1,h2⟩:=jt hh he hc.2
  exact⟨h1,by simp[cU,h2]⟩
 |.ptr _ _ _::r,ty,ps,ρ,ρ',y::ys,hh,he,hc=>by
  simp only[q8]at hh;cases y<;>first|exact hc.1.elim|skip
  obtain⟨h1,h2⟩:=jt hh he hc.2
  exact⟨h1,by simp[cU,h2]⟩
 |.elt _ _ _ _ _::r,ty,ps,ρ,ρ',y::ys,hh,he,hc=>by
  simp only[q8]at hh;cases y<;>first|exact hc.1.elim|skip
  obtain⟨h1,h2⟩:=jt hh he hc.2
  exact⟨h1,by simp[cU,h2]⟩
 |.sub _ _ _ _ _::r,ty,ps,ρ,ρ',y::ys,hh,he,hc=>by
  simp only[q8]at hh;cases y<;>first|exact hc.1.elim|skip
  obtain⟨h1,h2⟩:=jt hh he hc.2
  exact⟨h1,by simp[cU,h2]⟩
 |.emp::r,ty,ps,ρ,ρ',y::ys,hh,he,hc=>by
  simp only[q8]at hh;cases y<;>first|exact hc.1.elim|skip
  obtain⟨h1,h2⟩:=jt hh he hc.2
  exact⟨h1,by simp[cU,h2]⟩
 |.rd _::r,ty,ps,ρ,ρ',y::ys,hh,he,hc=>by simp[q8]at hh
abbrev HR:=Option (List Nd×Sy×Sy)
def H8(P:Program)(pr:Bool)(H Q:Sy)(o:Oper):HR:=
 match Gt P H o.op with
 |some (ps,v,H1)=>if pr then some (ps.map .po,H1.put o.dst v,{Q with m:=H1.m}.put o.dst v)else(match v with
  |.p b cs=>(match q8 cs (gO P 9 o.type)with
   |some sp=>some ((ps++sp).map .po,H1.put o.dst v,{Q with m:=H1.m}.put o.dst v)
   |none=>some (ps.map .po,H1.put o.dst v,{Q with m:=H1.m}.del o.dst))
  |.tup _=>some (ps.map .po,H1.put o.dst v,{Q with m:=H1.m}.del o.dst))
 |none=>none
def wY(P:Program)(pr:Bool)(h q:AS)(σh:List Nat)(o:Oper)(H' Q':Sy)(K:List DV->Prop):Prop:=
 ∃ρ' σq' kd x q',sy P pr h q o kd x q'/\aO H' ρ' σh (h.put o.dst x)/\aO Q' ρ' σq' q'/\aN σh σq'/\K ρ'
theorem Ax(hh:H8 P pr H Q o=some (n,H',Q'))(hr:aO H ρ σh h)(hq:aO Q ρ σq q)(hp:aN σh σq)(hw:WN P n K ρ):wY P pr h q σh o H' Q' K:=by
 unfold H8 at hh;split at hh
 ·rename_i ps v H1 hv;split at hh
  ·rename_i hpr;injection hh with hh;injection hh with e1 hh;injection hh with e2 e3;subst e1 e2 e3;obtain⟨ρ',he,hk⟩:=bn hw;obtain⟨x,x1,x2,x3⟩:=ov hv he hr;refine⟨ρ',σq,.v x,x,q.put o.dst (jo pr x),.inl ⟨x,x1,rfl,rfl,rfl⟩,x3.put x2,?_,hp,hk⟩;rw[<-x3.m];refine(hq.sync (ai he)).put ?_;unfold jo;rw[if_pos hpr];exact x2.mono (aN.refl _) hp
  ·rename_i hpr;split at hh
   ·rename_i b cs;split at hh
    ·rename_i sp hsp;injection hh with hh;injection hh with e1 hh;injection hh with e2 e3;subst e1 e2 e3;obtain⟨ρ',he,hk⟩:=bn hw;obtain⟨ρ1,a1,a2⟩:=ac he;obtain⟨x,x1,x2,x3⟩:=ov hv a1 hr
     cases x with
     |p b' ys=>
      have x2':=x2;obtain⟨rfl,hc⟩:=x2;obtain⟨rfl,hs⟩:=jt hsp a2 hc;refine⟨ρ',σq,.v (.p b' ys),.p b' ys,q.put o.dst (jo pr (.p b' ys)),.inl ⟨_,x1,rfl,rfl,rfl⟩,x3.put x2',?_,hp,hk⟩;rw[<-x3.m];refine(hq.sync (ai a1)).put ?_
      unfold jo;rw[if_neg hpr];simp only[hs,if_true];exact⟨rfl,cj.mono (aN.refl _) hp hc⟩
     |tup=>exact x2.elim
     |und=>exact x2.elim
    ·injection hh with hh;injection hh with e1 hh;injection hh with e2 e3;subst e1 e2 e3;obtain⟨ρ',he,hk⟩:=bn hw;obtain⟨x,x1,x2,x3⟩:=ov hv he hr;refine⟨ρ',σq,.v x,x,q.put o.dst (jo pr x),.inl ⟨x,x1,rfl,rfl,rfl⟩,x3.put x2,?_,hp,hk⟩;rw[<-x3.m];exact(hq.sync (ai he)).del
   ·injection hh with hh;injection hh with e1 hh;injection hh with e2 e3;subst e1 e2 e3;obtain⟨ρ',he,hk⟩:=bn hw;obtain⟨x,x1,x2,x3⟩:=ov hv he hr;refine⟨ρ',σq,.v x,x,q.put o.dst (jo pr x),.inl ⟨x,x1,rfl,rfl,rfl⟩,x3.put x2,?_,hp,hk⟩;rw[<-x3.m];exact(hq.sync (ai he)).del
 ·cases hh
def Ty(P:Program)(H:Sy)(o:Oper):Bool:=match o.op with
 |.assign _|.load _ _=>(match Gt P H o.op with|some (_,.p _ cs,_)=>(q8 cs (gO P 9 o.type)).isSome&&cs.all (λc=>!decide (c=.emp))|_=>false)
 |_=>false
def PB(H:Sy)(o:Oper):Bool:=match o.op with
 |.load _ (.tmp x)=>(match aG H.sl x with|some (.p false [.ptr i st _])=>(match H.own i st with|some (.var _ _ _)=>true|_=>false)|_=>false)
 |.load _ _=>false
 |_=>true
theorem Lf(hr:aO H ρ σh h)(hp:D9 o.op=true)(hl:PB H o=true):JC h o.op:=by
 refine⟨hp,λt x ho=>?_⟩;unfold PB at hl;rw[ho]at hl;split at hl
 ·rename_i t' x' he;injection he with _ he;subst he;split at hl
  ·rename_i i st off hx;split at hl
   ·rename_i st0 ty cs hown;have hv:=hr.sl _ _ hx;show∃i st off ty cs,h.sl x'=_/\_
    cases hs:h.sl x' with
    |tup=>rw[hs]at hv;exact hv.elim
    |und=>rw[hs]at hv;exact hv.elim
    |p b ys=>
     rw[hs]at hv;obtain⟨rfl,hv⟩:=hv
     match ys,hv with
     |[y],hv=>
      cases y<;>first|exact hv.1.elim|skip
      obtain⟨⟨rfl,h2,rfl⟩,-⟩:=hv;obtain⟨o',k1,k2,-,-⟩:=hr.own hown h2;cases o'<;>first|exact k2.elim|skip
      obtain rfl:=aT k1 rfl;exact⟨_,_,_,_,_,rfl,k1⟩
   ·cases hl
  ·cases hl
 ·cases hl
 ·rename_i h1 h2;exact absurd rfl (h2 _ _)
def Pi(P:Program)(pr:Bool)(H Q:Sy)(o:Oper):HR:=
 if Ty P H o||(pr|| !D9 o.op|| !PB H o)then H8 P pr H Q o else(match Gt P H o.op with
  |some (ps,v,H1)=>(match Gt P {Q with m:=H1.m} o.op with
   |some (qs,u,Q1)=>some ((ps++qs).map .po,{H1 with m:=Q1.m}.put o.dst v,Q1.put o.dst u)
   |none=>H8 P pr H Q o)
  |none=>H8 P pr H Q o)
theorem LF(hh:Pi P pr H Q o=some (n,H',Q'))(hr:aO H ρ σh h)(hq:aO Q ρ σq q)(hp:aN σh σq)(hw:WN P n K ρ):wY P pr h q σh o H' Q' K:=by
 unfold Pi at hh;split at hh
 ·exact Ax hh hr hq hp hw
 ·rename_i hpr;simp only[Bool.or_eq_true,Bool.not_eq_true',not_or,Bool.not_eq_true,Bool.not_eq_false]at hpr
  replace hpr:=hpr.2
  obtain⟨⟨hpr0,hpr1⟩,hpr2⟩:=hpr;split at hh
  ·rename_i ps v H1 h1;split at hh
   ·rename_i qs u Q1 h2;injection hh with hh;injection hh with e1 hh;injection hh with e2 e3;subst e1 e2 e3;obtain⟨ρ',he,hk⟩:=bn hw;obtain⟨ρ1,a1,a2⟩:=ac he;obtain⟨x,x1,x2,x3⟩:=ov h1 a1 hr;have hq1:aO {Q with m:=H1.m} ρ1 σq q:=by rw[<-x3.m];exact hq.sync (ai a1)
    obtain⟨y,y1,y2,y3⟩:=ov h2 a2 hq1;have hr2:aO {H1 with m:=Q1.m} ρ' σh h:=by rw[<-y3.m];exact x3.sync (ai a2)
    exact⟨ρ',σq,.p o.op,x,q.put o.dst y,.inr (.inr (.inr (.inr (.inl ⟨x,y,Lf hr hpr1 hpr2,hpr0,x1,y1,rfl,rfl,rfl⟩)))),hr2.put (x2.mono (ai a2) (aN.refl _)),y3.put y2,hp,hk⟩
   ·exact Ax hh hr hq hp hw
  ·exact Ax hh hr hq hp hw
def DF(P:Program)(pr:Bool)(H Q:Sy)(d:Option Nat)(t:TypeId):HR:=
 if pr then none else(match ci P t with
  |some vs=>(match sZ vs H.m with|some (p,cs)=>some (p.map .po,(H.bind p.length).del d,({Q with m:=(H.bind p.length).m}.push (.var Q.c t cs)).put d (.p false [.ptr Q.n Q.c 0]))|none=>none)
  |none=>none)
theorem FV{t:TypeId}(ho:o.op=.alloc t)(hh:DF P pr H Q o.dst t=some (n,H',Q'))(hr:aO H ρ σh h)(hq:aO Q ρ σq q)(hp:aN σh σq)(hw:WN P n K ρ):wY P pr h q σh o H' Q' K:=by
 unfold DF at hh;split at hh
 ·cases hh
 ·rename_i hpr;split at hh
  ·rename_i vs hz;split at hh
   ·rename_i p cs hs;injection hh with hh;injection hh with e1 hh;injection hh with e2 e3;subst e1 e2 e3;obtain⟨ρ',he,hk⟩:=bn hw;obtain⟨acs,a1,a2,a3⟩:=Bp (σ:=σq) hs hr.m he;have hr1:aO (H.bind p.length) ρ' σh h:=hr.more (ai he) a3;refine⟨ρ',σq++[q.c],.a t acs,.und,(q.push (.var q.c t acs)).put o.dst (.p false [.ptr q.n q.c 0]),.inr (.inr (.inr (.inl ⟨t,acs,ho,by simpa using hpr,by simp only[et,hz,a1],rfl,rfl,rfl⟩))),hr1.del,?_,hp.trans (aN.app _ _),hk⟩;have hq1:aO {Q with m:=(H.bind p.length).m} ρ' σq q:=by rw[<-hr1.m];exact hq.sync (ai he)
    exact(hq1.push (so:=.var Q.c t cs) (ob:=.var q.c t acs) ⟨hq1.last _,rfl,a2.mono (aN.refl _) (aN.app _ _)⟩).put ⟨rfl,⟨hq1.n,hq1.last _,rfl⟩,trivial⟩
   ·cases hh
  ·cases hh
def SY(sh:Sh)(m:Nat):List (Bool×List SC):=match sh with
 |[]=>[]
 |(b,ss,_)::r=>(b,(cR m ss.length).map .d)::SY r (m+ss.length)
theorem DR:∀{rs:List Rs} {sh:Sh} {m:Nat},cM sh rs=true->RD ρ (cR m (bP rs).length) (bP rs)->RT ρ σ (SY sh m) (rs.map λr=>(r.1,r.2.1.map AC.d))
 |[],sh,m,hh,hd=>by
  cases sh with
  |nil=>exact trivial
  |cons x r=>obtain⟨b,ss,ow⟩:=x;simp[cM]at hh
 |(b,ds,ow)::rs,sh,m,hh,hd=>by
  match sh,hh with
  |(b',ss,ow')::r,hh=>
   simp only[cM,Bool.and_eq_true,decide_eq_true_eq]at hh;obtain⟨⟨rfl,rfl⟩,h1,h2⟩:=hh;obtain⟨d1,d2⟩:=m0 hd;rw[gX h1]at d1 d2;exact⟨⟨rfl,RD.toC d1⟩,DR h2 d2⟩
theorem B6{l:List (Bool×List SC)}{rs:List Rs}(hh:RT ρ σ l (rs.map λr=>(r.1,r.2.1.map AC.d))):RV ρ σ (mj l) (jO rs):=by
 unfold mj jO;generalize (rs.map λr=>(r.1,r.2.1.map AC.d))=l' at hh
 match l,l',hh with
 |[],[],hh=>exact hh
 |[(b,cs)],[(b',cs')],hh=>exact hh.1
 |x::y::l,x'::y'::l',hh=>exact hh
 |[x],_::_::_,hh=>exact hh.2.elim
 |_::_::_,[x],hh=>exact hh.2.elim
def Nw(sh:Sh):Bool:=sh.all λx=>x.2.1.all (·.isNone)
theorem Ft:∀{sh:Sh} {rs:List Rs} {c:Nat},Nw sh=true->cM sh rs=true->dy false rs c=[]
 |[],[],_,_,_=>rfl
 |(b,ss,ow)::sh,(b',ds,ow')::rs,c,h1,h2=>by
  simp only[cM,Bool.and_eq_true,decide_eq_true_eq]at h2;simp only[Nw,List.all_cons,Bool.and_eq_true]at h1
  have key:∀{ss:List (Option (Nat×Nat))} {ds:List DV} {c:Nat},(ss.all (·.isNone))=true->mU ss ds=true->jA false ds c=[]:=by
   intro ss
   induction ss with
   |nil=>intro ds c _ h;cases ds with
    |nil=>rfl
    |cons=>simp[mU]at h
   |cons x ss ih=>
    intro ds c hn h
    cases x with
    |some=>simp at hn
    |none=>
     cases ds with
     |nil=>simp[mU]at h
     |cons d ds=>cases d with
      |sc u=>simp only[mU]at h;simp only[jA];exact ih (by simpa using hn) h
      |sl=>simp[mU]at h
  have k1:=key (c:=c) h1.1 h2.2.1;have k2:=Ft (c:=c) h1.2 h2.2.2
  cases ow' with
  |true=>simp only[dy,k1,List.length_nil,Nat.add_zero,k2,List.append_nil]
  |false=>simp only[dy,k2]
 |[],_::_,_,_,h=>by simp[cM]at h
 |(_,_,_)::_,[],_,_,h=>by simp[cM]at h
def HX(P:Program)(ow:eK)(pr:Bool)(H Q:Sy)(d:Option Nat)(f:FuncId)(args:List Operand)(ts:List TypeId):HR:=
 match JY P ow f,o7 false P args ts H with
 |some sh,some (p,as0,H1)=>if sh.all (λx=>x.2.2)&&(!pr||Nw sh)&&decide (f<1000000/\ow.pf.contains f=false/\ow.cf.contains f=false/\(aG ow.nf f).isNone=true)then
  some (p.map .po++[.call f as0 sh],(H1.bind (dJ sh)).put d (mj (SY sh H1.m)),(mr false sh H1.m {Q with m:=(H1.bind (dJ sh)).m}).2.put d (mj (mr false sh H1.m {Q with m:=(H1.bind (dJ sh)).m}).1))else none
 |_,_=>none
theorem If{f:FuncId}{args:Array Operand}{ts:Array TypeId}(ho:o.op=.call ⟨.value (.func f),args,ts⟩)(hh:HX P ow pr H Q o.dst f args.toList ts.toList=some (n,H',Q'))(hr:aO H ρ σh h)(hq:aO Q ρ σq q)(hp:aN σh σq)(hw:WN P n K ρ):wY P pr h q σh o H' Q' K:=by
 unfold HX at hh;split at hh
 ·rename_i sh p as0 H1 hsh has;split at hh
  ·rename_i hall;rw[Bool.and_eq_true,decide_eq_true_eq]at hall;obtain⟨hall,hf6,-⟩:=hall;simp only[Bool.and_eq_true,Bool.or_eq_true,Bool.not_eq_true']at hall;injection hh with hh;injection hh with e1 hh;injection hh with e2 e3;subst e1 e2 e3;obtain⟨ρ1,he,hw2⟩:=bn (kw hw);simp only[WN]at hw2;obtain⟨ys,res,w1,w2,w3,w4⟩:=hw2;have w2:=w2.plain hf6;obtain⟨ys',y1,y2,y3,y4⟩:=io has he hr;rw[w1]at y1;injection y1 with y1;subst y1;have hlen:=iJ w3;have hown:∀r∈res,r.2.2=true:=wz w3 λx hx=>List.all_eq_true.1 hall.1 x hx
   have hb:=y4.bind (out:=bP res) hlen;have hrd:RD (ρ1++bP res) (cR H1.m (bP res).length) (bP res):=fa y4.m rfl
   have hq1:aO {Q with m:=(H1.bind (dJ sh)).m} (ρ1++bP res) σq q:=by
    rw[<-hb.m];exact hq.sync ((ai he).trans (aN.app _ _))
   obtain⟨σ',p1,p2,p3⟩:=nA (m:=H1.m) w3 hrd hq1;refine⟨_,σ',.c res,jO res,_,.inr (.inl ⟨f,args,ts,ys,res,ho,w2,y2 rfl,List.all_eq_true.2 hown,λhpr=>?_,rfl,rfl,rfl⟩),hb.put (B6 (DR w3 hrd)),p2.put (xr p3),hp.trans p1,w4⟩;rcases hall.2 with h1|h1
   ·rw[hpr]at h1;cases h1
   ·exact Ft h1 w3
  ·cases hh
 ·cases hh
def DU(P:Program)(ow:eK)(pr:Bool)(H Q:Sy)(d:Option Nat)(f:FuncId)(args:List Operand)(ts:List TypeId):HR:=
 if pr then none else match JY P ow f,o7 true P args ts H with
 |some [(b,ss,false)],some (p,as0,H1)=>if f<1000000 then
  some (p.map .po++[.call f as0 [(b,ss,false)]],(H1.bind (dJ [(b,ss,false)])).put d (mj (SY [(b,ss,false)] H1.m)),Sy.del {Q with m:=(H1.bind (dJ [(b,ss,false)])).m} d)else none
 |_,_=>none
theorem Gv{f:FuncId}{args:Array Operand}{ts:Array TypeId}(ho:o.op=.call ⟨.value (.func f),args,ts⟩)(hh:DU P ow pr H Q o.dst f args.toList ts.toList=some (n,H',Q'))(hr:aO H ρ σh h)(hq:aO Q ρ σq q)(hp:aN σh σq)(hw:WN P n K ρ):wY P pr h q σh o H' Q' K:=by
 unfold DU at hh;split at hh
 ·cases hh
 ·rename_i hpr;split at hh
  ·rename_i b ss p as0 H1 hsh has;split at hh
   ·rename_i hf6;injection hh with hh;injection hh with e1 hh;injection hh with e2 e3;subst e1 e2 e3;obtain⟨ρ1,he,hw2⟩:=bn (kw hw);simp only[WN]at hw2;obtain⟨ys,res,w1,w2,w3,w4⟩:=hw2;have w2:=w2.plain hf6;obtain⟨ys',y1,y2,y3,y4⟩:=io has he hr;rw[w1]at y1;injection y1 with y1;subst y1;have hlen:=iJ w3;have hb:=y4.bind (out:=bP res) hlen;have hrd:RD (ρ1++bP res) (cR H1.m (bP res).length) (bP res):=fa y4.m rfl
    have hq1:aO {Q with m:=(H1.bind (dJ [(b,ss,false)])).m} (ρ1++bP res) σq q:=by
     rw[<-hb.m];exact hq.sync ((ai he).trans (aN.app _ _))
    match res,w3 with
    |[(b',ds,ow')],w3=>
     have how:ow'=false:=by
      simp only[cM,Bool.and_eq_true,beq_iff_eq]at w3;simp_all
     subst how
     refine⟨_,σq,.v (jO [(b',ds,false)]),jO [(b',ds,false)],q.put o.dst (jo pr (jO [(b',ds,false)])),.inr (.inr (.inr (.inr (.inr (.inr (.inr ⟨f,args,ts,ys,(b',ds,false),ho,by simpa using hpr,w2,y3 rfl,rfl,rfl,rfl,rfl⟩)))))),hb.put (B6 (DR w3 hrd)),hq1.del,hp,w4⟩
    |[],w3=>simp[cM]at w3
    |_::_::_,w3=>simp[cM]at w3
   ·cases hh
  ·cases hh
end
end Go.Proofs.Ytngaddcgmnonbaa
namespace Go.Proofs.Ytngaddcgmnonbaa
open Go.RowKit
section
variable {P:Program}{R:List (Bool×List DV)->Prop}{N:Nat}{ow:eK}{ρ ρ':List DV}{σ σ' σh σq:List Nat}{S S' H Q H' Q':Sy}{s s' h q:AS}{ps:List PO}{o:Oper}{K:List DV->Prop}{n:List Nd}{L:Lbl}{pr:Bool}
def uM:List SC->Option (List Nat)
 |[]=>some []
 |.d i::r=>(match uM r with|some l=>some (i::l)|none=>none)
 |_::_=>none
def BS:List (List SC)->Option (List (List Nat))
 |[]=>some []
 |e::r=>(match uM e,BS r with|some x,some l=>some (x::l)|_,_=>none)
theorem Fw:∀{cs:List SC} {xs:List Nat} {ys:List AC},uM cs=some xs->cj ρ σ cs ys->∃ds,dL ys=some ds/\RD ρ xs ds
 |[],xs,ys,hh,hc=>by
  simp only[uM]at hh;injection hh with hh;subst hh
  cases ys with
  |nil=>exact⟨[],rfl,trivial⟩
  |cons=>exact hc.elim
 |c::r,xs,[],hh,hc=>hc.elim
 |.d i::r,xs,y::ys,hh,hc=>by
  simp only[uM]at hh;split at hh
  ·rename_i l hl;injection hh with hh;subst hh;obtain⟨x,rfl,hx⟩:=nk hc.1;obtain⟨ds,d1,d2⟩:=Fw hl hc.2;exact⟨x::ds,by simp only[dL,d1],hx,d2⟩
  ·cases hh
 |.nil::r,xs,y::ys,hh,hc=>by simp[uM]at hh
 |.own _ _::r,xs,y::ys,hh,hc=>by simp[uM]at hh
 |.ptr _ _ _::r,xs,y::ys,hh,hc=>by simp[uM]at hh
 |.elt _ _ _ _ _::r,xs,y::ys,hh,hc=>by simp[uM]at hh
 |.sub _ _ _ _ _::r,xs,y::ys,hh,hc=>by simp[uM]at hh
 |.emp::r,xs,y::ys,hh,hc=>by simp[uM]at hh
 |.rd _::r,xs,y::ys,hh,hc=>by simp[uM]at hh
theorem Bv:∀{es:List (List SC)} {rows:List (List Nat)} {ys:List (List AC)},BS es=some rows->Ah ρ σ es ys->∃ds,LJ ys=some ds/\∀ρ',aN ρ ρ'->AH ρ' rows=some ds
 |[],rows,ys,hh,hc=>by
  simp only[BS]at hh;injection hh with hh;subst hh
  cases ys with
  |nil=>exact⟨[],rfl,λ_ _=>rfl⟩
  |cons=>exact hc.elim
 |e::r,rows,[],hh,hc=>hc.elim
 |e::r,rows,y::ys,hh,hc=>by
  simp only[BS]at hh;split at hh
  ·rename_i x l h1 h2;injection hh with hh;subst hh;obtain⟨d,d1,d2⟩:=Fw h1 hc.1;obtain⟨ds,d3,d4⟩:=Bv h2 hc.2;exact⟨d::ds,by simp only[LJ,d1,d3],λρ' hp=>by simp only[AH,d2.app_pre hp,d4 ρ' hp]⟩
  ·cases hh
def Ow(P:Program)(pr:Bool)(H Q:Sy)(d:Option Nat)(t:TypeId)(len:Nat)(parts:List (Nat×Operand)):HR:=
 if pr then none else(match fh P t with
 |some (el,k)=>if(ci P el).isSome=true/\0<k/\parts.length=len/\len*k<=16777216 then(match NA k parts 0 H with
  |some (p,es,H1)=>(match NA k parts 0 {Q with m:=H1.m}with
   |some (p2,esq,Q1)=>if es.isEmpty then some ((p++p2).map .po,{H1 with m:=Q1.m}.put d (.p false [.emp]),(Q1.push (.arr Q1.c el k esq)).put d (.p false [.own Q1.n Q1.c]))else(match BS es with
    |some rows=>some ((p++(p2++[PO.mk el k rows])).map .po,({H1 with m:=Q1.m}.bind 1).put d (.p false [.d Q1.m]),((Q1.bind 1).push (.arr Q1.c el k esq)).put d (.p false [.own Q1.n Q1.c]))
    |none=>some ((p++p2).map .po,{H1 with m:=Q1.m}.del d,(Q1.push (.arr Q1.c el k esq)).put d (.p false [.own Q1.n Q1.c])))
   |none=>none)
  |none=>none)else none
 |none=>none)
theorem Lk{t:TypeId}{len:Nat}{parts:Array (Nat×Operand)}(ho:o.op=.buildSlice t len parts)(hh:Ow P pr H Q o.dst t len parts.toList=some (n,H',Q'))(hr:aO H ρ σh h)(hq:aO Q ρ σq q)(hp:aN σh σq)(hw:WN P n K ρ):wY P pr h q σh o H' Q' K:=by
 unfold Ow at hh;split at hh
 ·cases hh
 ·rename_i hpr;split at hh
  ·rename_i el k ht;split at hh
   ·rename_i hc;obtain⟨hz,hk,hl,hs⟩:=hc;split at hh
    ·rename_i p es H1 h1;split at hh
     ·rename_i p2 esq Q1 h2;split at hh
      ·rename_i hem;injection hh with hh;injection hh with e1 hh;injection hh with e2 e3;subst e1 e2 e3;obtain⟨ρ',he,hK⟩:=bn hw;obtain⟨ρ1,a1,b1⟩:=ac he;obtain⟨ys,y1,y2,y3⟩:=ng h1 a1 hr;have hq1:aO {Q with m:=H1.m} ρ1 σq q:=by rw[<-y3.m];exact hq.sync (ai a1)
       obtain⟨zs,z1,z2,z3⟩:=ng h2 b1 hq1;have hr2:aO {H1 with m:=Q1.m} ρ' σh h:=by rw[<-z3.m];exact y3.sync (ai b1)
       have hys:ys=[]:=by
        cases es with
        |nil=>cases ys with
         |nil=>rfl
         |cons=>exact y2.elim
        |cons=>simp at hem
       subst hys
       exact⟨_,σq++[q.c],.b el k parts.toList,rq el k [],(q.push (.arr q.c el k zs)).put o.dst (.p false [.own q.n q.c]),.inr (.inr (.inl ⟨t,len,parts,el,k,[],zs,ho,by simpa using hpr,ht,hz,hk,hl,hs,y1,z1,rfl,rfl,rfl⟩)),hr2.put (v:=.p false [.emp]) (x:=rq el k []) ⟨rfl,trivial,trivial⟩,
        (z3.push (so:=.arr Q1.c el k esq) (ob:=.arr q.c el k zs) ⟨z3.last _,rfl,rfl,Ah.mono (aN.refl _) (aN.app _ _) z2⟩).put ⟨rfl,⟨z3.n,z3.last _⟩,trivial⟩,hp.trans (aN.app _ _),hK⟩
      rename_i hem;split at hh
      ·rename_i rows hrows;injection hh with hh;injection hh with e1 hh;injection hh with e2 e3;subst e1 e2 e3;obtain⟨ρ',he,hK⟩:=bn hw;obtain⟨ρ1,a1,a2⟩:=ac he;obtain⟨ρ2,b1,b2⟩:=ac a2;obtain⟨ys,y1,y2,y3⟩:=ng h1 a1 hr;have hq1:aO {Q with m:=H1.m} ρ1 σq q:=by rw[<-y3.m];exact hq.sync (ai a1)
       obtain⟨zs,z1,z2,z3⟩:=ng h2 b1 hq1;obtain⟨ds,d1,d2⟩:=Bv hrows y2;obtain⟨out,o1,rfl⟩:=au b2;have hm:=z3.m;simp only[av,d2 ρ2 (ai b1)]at o1;split at o1
       ·injection o1 with o1;subst o1;have hr2:aO {H1 with m:=Q1.m} ρ2 σh h:=by rw[<-hm];exact y3.sync (ai b1)
        refine⟨_,σq++[q.c],.b el k parts.toList,rq el k ys,(q.push (.arr q.c el k zs)).put o.dst (.p false [.own q.n q.c]),.inr (.inr (.inl ⟨t,len,parts,el,k,ys,zs,ho,by simpa using hpr,ht,hz,hk,hl,hs,y1,z1,rfl,rfl,rfl⟩)),?_,?_,hp.trans (aN.app _ _),hK⟩
        ·refine(hr2.bind (out:=[DV.sl el k ds]) (k:=1) rfl).put ?_
         have hyne:ys.isEmpty=false:=by
          cases ys with
          |nil=>cases es with
           |nil=>simp at hem
           |cons=>exact y2.elim
          |cons=>rfl
         unfold rq;rw[hyne,d1];exact⟨rfl,by show(_:List DV)[_]? =_;rw[<-hm];simp,trivial⟩
        ·have hb:=z3.bind (out:=[DV.sl el k ds]) (k:=1) rfl;exact(hb.push (so:=.arr Q1.c el k esq) (ob:=.arr q.c el k zs) ⟨hb.last _,rfl,rfl,Ah.mono (aN.app _ _) (aN.app _ _) z2⟩).put ⟨rfl,⟨z3.n,hb.last _⟩,trivial⟩
       ·cases o1
      ·injection hh with hh;injection hh with e1 hh;injection hh with e2 e3;subst e1 e2 e3;obtain⟨ρ',he,hK⟩:=bn hw;obtain⟨ρ1,a1,b1⟩:=ac he;obtain⟨ys,y1,y2,y3⟩:=ng h1 a1 hr;have hq1:aO {Q with m:=H1.m} ρ1 σq q:=by rw[<-y3.m];exact hq.sync (ai a1)
       obtain⟨zs,z1,z2,z3⟩:=ng h2 b1 hq1;have hr2:aO {H1 with m:=Q1.m} ρ' σh h:=by rw[<-z3.m];exact y3.sync (ai b1)
       exact⟨_,σq++[q.c],.b el k parts.toList,rq el k ys,(q.push (.arr q.c el k zs)).put o.dst (.p false [.own q.n q.c]),.inr (.inr (.inl ⟨t,len,parts,el,k,ys,zs,ho,by simpa using hpr,ht,hz,hk,hl,hs,y1,z1,rfl,rfl,rfl⟩)),hr2.del,
        (z3.push (so:=.arr Q1.c el k esq) (ob:=.arr q.c el k zs) ⟨z3.last _,rfl,rfl,Ah.mono (aN.refl _) (aN.app _ _) z2⟩).put ⟨rfl,⟨z3.n,z3.last _⟩,trivial⟩,hp.trans (aN.app _ _),hK⟩
     ·cases hh
    ·cases hh
   ·cases hh
  ·cases hh
def J3(P:Program)(ow:eK)(pr:Bool)(H Q:Sy)(o:Oper):HR:=
 match o.op with
 |.alloc t=>DF P pr H Q o.dst t
 |.buildSlice t len parts=>Ow P pr H Q o.dst t len parts.toList
 |.call ⟨.value (.func f),args,ts⟩=>(match HX P ow pr H Q o.dst f args.toList ts.toList with|some r=>some r|none=>DU P ow pr H Q o.dst f args.toList ts.toList)
 |_=>Pi P pr H Q o
theorem H0(hh:J3 P ow pr H Q o=some (n,H',Q'))(hr:aO H ρ σh h)(hq:aO Q ρ σq q)(hp:aN σh σq)(hw:WN P n K ρ):wY P pr h q σh o H' Q' K:=by
 unfold J3 at hh;split at hh
 ·rename_i t ho;exact FV ho hh hr hq hp hw
 ·rename_i t len parts ho;exact Lk ho hh hr hq hp hw
 ·rename_i f args ts ho;split at hh
  ·rename_i r hr';injection hh with hh;subst hh;exact If ho hr' hr hq hp hw
  ·exact Gv ho hh hr hq hp hw
 ·exact LF hh hr hq hp hw
def PP(v:SV):Bool:=match one v with
 |some .emp=>true
 |_=>false
theorem La{v:SV}{x:AV}(h:PP v=true)(hv:RV ρ σ v x):xw x=true:=by
 unfold PP at h;split at h
 ·rename_i hc;obtain⟨y,rfl,hy⟩:=bg hc hv;cases y<;>first|exact hy.elim|rfl
 ·cases h
def NE(P:Program)(pr:Bool)(H Q:Sy)(o:Oper):Option (List PO×Nat×(Sy×Sy)×(List PO×Sy×Sy)):=
 match o.op with
 |.call ⟨.builtin .append,⟨[X,Y]⟩,⟨[t,t']⟩⟩=>if t'=t/\pr=false then(match fh P t with
  |some (el,k)=>if !(Iw P el)then none else(match ci P el,Cs P el with
   |some zs,some b=>if zs.length=k/\0<k then(match iO H X with
    |some (pX,vX,H1)=>if PP vX then(match iO {Q with m:=H1.m} X with
     |some (qX,uX,Q1)=>(match iO {H1 with m:=Q1.m} Y with
      |some (pY,vY,H2)=>(match one vY with
       |some cY=>(match t9 false [cY] [some (el,k)] H2 with
        |some (pR,[y],H3)=>some (pX++(qX++(pY++(pR++[PO.emp y]))),H3.m,
         (({ (H3.bind 1)with kn:=(H3.m,true)::H3.kn}).put o.dst vX,({Q1 with m:=H3.m+1,kn:=(H3.m,true)::Q1.kn}).put o.dst uX),
         ([PO.e el k,PO.flat y,PO.app el k b (H3.m+1) y],({ (H3.bind 3)with kn:=(H3.m,false)::H3.kn}).put o.dst (.p false [.d (H3.m+2)]),
          (({Q1 with m:=H3.m+3,kn:=(H3.m,false)::Q1.kn}).push (.row Q1.c el k (H3.m+2))).put o.dst (.p false [.own Q1.n Q1.c])))
        |_=>none)
       |none=>none)
      |none=>none)
     |none=>none)else none
    |none=>none)else none
   |_,_=>none)
  |none=>none)else none
 |_=>none
theorem KS{pre fs:List PO}{i:Nat}{H1 Q1 H2 Q2:Sy}{a b:Pg}(hh:NE P pr H Q o=some (pre,i,(H1,Q1),(fs,H2,Q2)))(hr:aO H ρ σh h)(hq:aO Q ρ σq q)(hp:aN σh σq)(hw:W P R (dl (pre.map .po) (.ite i a (dl (fs.map .po) b))) L ρ):
 ∃ρ' σq' kd x q' H' Q' g,sy P pr h q o kd x q'/\aO H' ρ' σh (h.put o.dst x)/\aO Q' ρ' σq' q'/\aN σh σq'/\((H'=H1/\Q'=Q1/\g=a)\/(H'=H2/\Q'=Q2/\g=b))/\W P R g L ρ'/\aN ρ ρ':=by
 unfold NE at hh;split at hh
 ·rename_i X Y t t' hop;split at hh
  ·rename_i htp;obtain⟨rfl,hpr⟩:=htp;split at hh
   ·rename_i el k ht;split at hh
    ·cases hh
    split at hh
    ·rename_i zs b' hz hby
     split at hh
     ·rename_i hzk;split at hh
      ·rename_i pX vX S1 hX;split at hh
       ·rename_i hE;split at hh
        ·rename_i qX uX T1 hX2;split at hh
         ·rename_i pY vY S2 hY;split at hh
          ·rename_i cY hcY;split at hh
           ·rename_i pR y S3 hR;injection hh with hh;injection hh with e1 hh;injection hh with e2 hh;injection hh with e3 e4;injection e3 with e3 e5;injection e4 with e4 e6;injection e6 with e6 e7;subst e1 e2 e3 e4 e5 e6 e7;obtain⟨ρ1,he,hw2,hp1⟩:=bn (ei hw);obtain⟨ρa,a1,a2⟩:=ac he;obtain⟨ρb,b1,b2⟩:=ac a2;obtain⟨ρc,c1,c2⟩:=ac b2;obtain⟨ρd,d1,d2⟩:=ac c2;obtain⟨x1,x2⟩:=aQ hX a1 hr;have hqa:aO {Q with m:=S1.m} ρa σq q:=by rw[<-x2.m];exact hq.sync (ai a1)
            obtain⟨u1,u2⟩:=aQ hX2 b1 hqa;have hhb:aO {S1 with m:=T1.m} ρb σh h:=by rw[<-u2.m];exact x2.sync (ai b1)
            obtain⟨y1,y2⟩:=aQ hY c1 hhb;obtain⟨yc,g1,g2⟩:=bg hcY y1;obtain⟨ds,r1,r2,-,r4⟩:=eT hR d1 y2 (ys:=[yc]) ⟨g2,trivial⟩
            match ds,r1,r2 with
            |[d],r1,r2=>
            obtain⟨out,o1,rfl⟩:=au d2;simp only[av,r1.1]at o1;split at o1
            ·rename_i t2 k2 es hd;injection hd with hd;subst hd;injection o1 with o1;subst o1;have hrd:xW h yc (.sl t2 k2 es):=(r2 rfl).1;have hop':o.op=.call ⟨.builtin .append,#[X,Y],#[t',t']⟩:=hop;have hm3:ρd.length=S3.m:=r4.m;have pbd:aN ρb (ρd++[.sc (.bool es.isEmpty)]):=(ai c1).trans ((ai d1).trans (aN.app _ _));have hki:(ρd++[DV.sc (.bool es.isEmpty)])[S3.m]? =some (.sc (.bool es.isEmpty)):=by rw[<-hm3];simp
             have hXe:=La hE x1;simp only[W,hki]at hw2
             have hQ1:aO {T1 with m:=S3.m+1} (ρd++[DV.sc (.bool es.isEmpty)]) σq q:=by
              have:=u2.sync pbd;rw[show(ρd++[DV.sc (.bool es.isEmpty)]).length=S3.m+1 by simp[hm3]]at this;exact this
             have hH1:aO (S3.bind 1) (ρd++[DV.sc (.bool es.isEmpty)]) σh h:=r4.bind rfl;have pad:aN ρa (ρd++[.sc (.bool es.isEmpty)]):=(ai b1).trans pbd
             cases hes:es.isEmpty with
             |true=>
              have hnil:es=[]:=by simpa using hes
              subst hnil;simp only[List.isEmpty_nil]at hw2 hki hQ1 hH1 pbd pad hp1;refine⟨_,σq,.p o.op,h.ev X,q.put o.dst (q.ev X),_,_,_,.inr (.inr (.inr (.inr (.inr (.inr (.inl ⟨X,Y,t',el,k,yc,t2,k2,hop',hpr,ht,hXe,g1,hrd,rfl,rfl,rfl⟩)))))),?_,?_,hp,.inl ⟨rfl,rfl,rfl⟩,hw2,hp1⟩
              ·exact(hH1.know hki).put (x1.mono pad (aN.refl _))
              ·exact(hQ1.know hki).put (u1.mono pbd (aN.refl _))
             |false=>
              rw[hes]at hw2 hki hQ1 hH1 pbd pad hp1;simp only at hw2;obtain⟨ρ2,k1,hw3,hp2⟩:=bn (ei hw2);obtain⟨ρe,f1,f2⟩:=ac (ps:=[PO.e el k]) (qs:=[PO.flat y,PO.app el k b' (S3.m+1) y]) k1;obtain⟨oute,oe,rfl⟩:=au f1;simp only[av]at oe;injection oe with oe;subst oe;obtain⟨ρf,f3,f4⟩:=ac (ps:=[PO.flat y]) (qs:=[PO.app el k b' (S3.m+1) y]) f2;obtain⟨rfl,hfl⟩:=ig f3;obtain⟨es1,fs1,t3,q1,q2,q3,q4,rfl⟩:=kF f4;have hy2:(ρd++[DV.sc (.bool false)]++[DV.sl el k []])[y]? =some (.sl t2 k2 es):=((aN.app _ _).trans (aN.app _ _)).get r1.1;rw[hy2]at q2;injection q2 with q2;injection q2 with q2 q2' q2'';subst q2 q2' q2'';have h0:(ρd++[DV.sc (.bool false)]++[DV.sl el k2 []])[S3.m+1]? =some (.sl el k2 []):=by rw[<-hm3];simp
              rw[h0]at q1;injection q1 with q1;injection q1 with _ _ q1;subst q1;simp only[List.length_nil,Nat.zero_add,List.nil_append]at q3 q4 hw3 hp2;have hne:es≠[]:=by intro e;subst e;simp at hes
              have hlen:(ρd++[DV.sc (.bool false)]++[DV.sl el k2 []]++[DV.sl el k2 es]).length=S3.m+3:=by simp[hm3]
              have p2:aN (ρd++[DV.sc (.bool false)]) (ρd++[DV.sc (.bool false)]++[DV.sl el k2 []]++[DV.sl el k2 es]):=(aN.app _ _).trans (aN.app _ _);have hx2:(ρd++[DV.sc (.bool false)]++[DV.sl el k2 []]++[DV.sl el k2 es])[S3.m+2]? =some (.sl el k2 es):=by rw[<-hm3];simp
              have hHH:=(hH1.know hki).sync p2;have hQQ:=(hQ1.know hki).sync p2;rw[hlen]at hHH hQQ;refine⟨_,σq++[q.c],.c _,_,_,_,_,_,.inr (.inr (.inr (.inr (.inr (.inl ⟨X,Y,t',el,k2,b',yc,t2,es,zs,_,hop',hpr,ht,hz,hzk.1,hzk.2,hby,hXe,g1,hrd,hne,hfl _ _ _ hy2,q3,q4,rfl,rfl,rfl,rfl⟩))))),?_,?_,hp.trans (aN.app _ _),.inr ⟨rfl,rfl,rfl⟩,hw3,hp1.trans hp2⟩
              ·exact hHH.put (v:=.p false [.d (S3.m+2)]) ⟨rfl,hx2,trivial⟩
              ·exact(hQQ.push (so:=.row T1.c el k2 (S3.m+2)) (ob:=.row q.c el k2 es true) ⟨hQQ.last _,rfl,rfl,rfl,hx2⟩).put ⟨rfl,⟨hQQ.n,hQQ.last _⟩,trivial⟩
            ·cases o1
           ·cases hh
          ·cases hh
         ·cases hh
        ·cases hh
       ·cases hh
      ·cases hh
     ·cases hh
    ·cases hh
   ·cases hh
  ·cases hh
 ·cases hh
def bS(P:Program)(ow:eK)(pr:Bool)(o:Oper)(H Q:Sy)(k:Sy->Sy->Option Pg):Option Pg:=match NE P pr H Q o with
 |some (pre,i,(H1,Q1),(fs,H2,Q2))=>(match k H1 Q1,k H2 Q2 with|some a,some b=>some (dl (pre.map .po) (.ite i a (dl (fs.map .po) b)))|_,_=>none)
 |none=>match J3 P ow pr H Q o with|some (n,H',Q')=>(match k H' Q' with|some g=>some (dl n g)|none=>none)|none=>none
def rC(P:Program)(N:Nat)(ow:eK)(pr:Bool)(ops:Array Oper)(k:Sy->Option Pg):List Oper->Sy->Sy->Option Pg
 |[],H,Q=>k Q
 |o::r,H,Q=>(match o.dst with
  |some d=>if d<N then(match o.guard with
   |none=>bS P ow pr o H Q λH' Q'=>rC P N ow pr ops k r H' Q'
   |some (g,want)=>(match iM ops g with
    |some t=>if t<N then(match aG H.sl t with
     |some (.tup [])=>rC P N ow pr ops k r (H.put o.dst (.tup [])) (Q.del o.dst)
     |some (.p false [.d i])=>(match aG H.kn i with
      |some b=>if b=want then bS P ow pr o H Q λH' Q'=>rC P N ow pr ops k r H' Q' else rC P N ow pr ops k r (H.put o.dst (.tup [])) (Q.del o.dst)
      |none=>(match(bS P ow pr o {H with kn:=(i,want)::H.kn} {Q with kn:=(i,want)::Q.kn} λH' Q'=>rC P N ow pr ops k r H' Q'),rC P N ow pr ops k r ({H with kn:=(i,!want)::H.kn}.put o.dst (.tup [])) ({Q with kn:=(i,!want)::Q.kn}.del o.dst)with
       |some a,some b=>some (if want then .ite i a b else .ite i b a)
       |_,_=>none))
     |_=>none)else none
    |none=>none))else none
  |none=>none)
theorem KC{k:Sy->Sy->Option Pg}{pg:Pg}(hh:bS P ow pr o H Q k=some pg)(hr:aO H ρ σh h)(hq:aO Q ρ σq q)(hp:aN σh σq)(hw:W P R pg L ρ):
 ∃ρ' σq' kd x q' H' Q' g,sy P pr h q o kd x q'/\aO H' ρ' σh (h.put o.dst x)/\aO Q' ρ' σq' q'/\aN σh σq'/\k H' Q'=some g/\W P R g L ρ'/\aN ρ ρ':=by
 unfold bS at hh;split at hh
 ·rename_i pre i H1 Q1 fs H2 Q2 ho;split at hh
  ·rename_i ga gb h1 h2;injection hh with hh;subst hh;obtain⟨ρ',σq',kd,x,q',H',Q',g,k1,k2,k3,k4,k5,k6,k7⟩:=KS ho hr hq hp hw;refine⟨ρ',σq',kd,x,q',H',Q',g,k1,k2,k3,k4,?_,k6,k7⟩;rcases k5 with⟨rfl,rfl,rfl⟩|⟨rfl,rfl,rfl⟩
   ·exact h1
   ·exact h2
  ·cases hh
 ·split at hh
  ·rename_i n H' Q' ho;split at hh
   ·rename_i g hg;injection hh with hh;subst hh;obtain⟨ρ',σq',kd,x,q',h1,h2,h3,h4,h5,h6⟩:=H0 ho hr hq hp (ei hw);exact⟨ρ',σq',kd,x,q',H',Q',g,h1,h2,h3,h4,hg,h5,h6⟩
   ·cases hh
  ·cases hh
theorem gS{ops:Array Oper}{k:Sy->Option Pg}:∀{l:List Oper} {H Q:Sy} {pg:Pg} {ρ:List DV} {σq:List Nat} {h q:AS},rC P N ow pr ops k l H Q=some pg->aO H ρ σh h->aO Q ρ σq q->aN σh σq->W P R pg L ρ->
 ∃kds xs qF S' ρ' σ' g,fw P N pr ops l h q kds xs qF/\aO S' ρ' σ' qF/\k S'=some g/\W P R g L ρ'/\aN ρ ρ'
 |[],H,Q,pg,ρ,σq,h,q,hh,hr,hq,hp,hw=>⟨[],[],q,Q,ρ,σq,pg,rfl,hq,hh,hw,aN.refl _⟩
 |o::r,H,Q,pg,ρ,σq,h,q,hh,hr,hq,hp,hw=>by
  simp only[rC]at hh;split at hh
  ·rename_i d hd;split at hh
   ·rename_i hdN
    have run:∀{H Q:Sy} {pg:Pg} {ρ0:List DV},aN ρ0 ρ->(bS P ow pr o H Q λH' Q'=>rC P N ow pr ops k r H' Q')=some pg->aO H ρ σh h->aO Q ρ σq q->W P R pg L ρ->(∀kd x q1,sy P pr h q o kd x q1->IF P N pr ops h q o kd x q1 o.guard)->
     ∃kds xs qF S' ρ' σ' g,fw P N pr ops (o::r) h q kds xs qF/\aO S' ρ' σ' qF/\k S'=some g/\W P R g L ρ'/\aN ρ0 ρ':=by
     intro H Q pg ρ0 hp0 hh hr hq hw hst;obtain⟨ρ1,σq1,kd,x,q1,H1,Q1,g1,r1,r2,r3,r4,r5,r6,r7⟩:=KC hh hr hq hp hw;obtain⟨kds,xs,qF,S',ρ',σ',g,f1,f2,f3,f4,f5⟩:=gS r5 r2 r3 r4 r6;exact⟨kd::kds,x::xs,qF,S',ρ',σ',g,⟨⟨d,hd,hdN⟩,q1,hst kd x q1 r1,f1⟩,f2,f3,f4,hp0.trans (r7.trans f5)⟩
    have skip:∀{H Q:Sy} {pg:Pg},rC P N ow pr ops k r (H.put o.dst (.tup [])) (Q.del o.dst)=some pg->aO H ρ σh h->aO Q ρ σq q->W P R pg L ρ->IF P N pr ops h q o (.v (.tup [])) (.tup []) (q.put o.dst (jo pr (.tup []))) o.guard->
     ∃kds xs qF S' ρ' σ' g,fw P N pr ops (o::r) h q kds xs qF/\aO S' ρ' σ' qF/\k S'=some g/\W P R g L ρ'/\aN ρ ρ':=by
     intro H Q pg hh hr hq hw hst;obtain⟨kds,xs,qF,S',ρ',σ',g,f1,f2,f3,f4,f5⟩:=gS hh (hr.put (v:=.tup []) (x:=.tup []) trivial) (hq.del (x:=jo pr (.tup []))) hp hw;exact⟨_::kds,_::xs,qF,S',ρ',σ',g,⟨⟨d,hd,hdN⟩,_,hst,f1⟩,f2,f3,f4,f5⟩
    split at hh
    ·rename_i hg;exact run (aN.refl _) hh hr hq hw (λkd x q1 hR=>by rw[hg];exact hR)
    ·rename_i gi want hg;split at hh
     ·rename_i t hgs;split at hh
      ·rename_i htN;split at hh
       ·rename_i hi
        have hs:h.sl t=.tup []:=by
         have:=hr.sl t _ hi
         cases hx:h.sl t with
         |tup ys=>rw[hx]at this;cases ys with
          |nil=>rfl
          |cons=>exact this.elim
         |p=>rw[hx]at this;exact this.elim
         |und=>rw[hx]at this;exact this.elim
        exact skip hh hr hq hw (by rw[hg];exact⟨t,none,hgs,htN,hs,by rw[if_neg (λe=>by cases e)];exact⟨rfl,rfl,rfl⟩⟩)
       ·rename_i i hi;split at hh
        ·rename_i b hb;have hs:=oc hr hi (hr.kn i b hb);split at hh
         ·rename_i e;exact run (aN.refl _) hh hr hq hw (λkd x q1 hR=>by rw[hg];exact⟨t,some b,hgs,htN,hs,by rw[if_pos (by rw[e])];exact hR⟩)
         ·rename_i e;exact skip hh hr hq hw (by rw[hg];exact⟨t,some b,hgs,htN,hs,by rw[if_neg (λh=>e (Option.some.inj h))];exact⟨rfl,rfl,rfl⟩⟩)
        ·split at hh
         ·rename_i ga gb h1 h2;injection hh with hh;subst hh
          have hw':∃b,ρ[i]? =some (.sc (.bool b))/\(if b=want then W P R ga L ρ else W P R gb L ρ):=by
           cases want with
           |true=>
            simp only[if_true,W]at hw;split at hw
            ·rename_i c hc;refine⟨c,hc,?_⟩;cases c<;>simpa using hw
            ·exact hw.elim
           |false=>
            simp only[Bool.false_eq_true,if_false,W]at hw;split at hw
            ·rename_i c hc;refine⟨c,hc,?_⟩;cases c<;>simpa using hw
            ·exact hw.elim
          obtain⟨b,hb,hw'⟩:=hw';have hs:=oc hr hi hb;split at hw'
          ·rename_i e;subst e;exact run (aN.refl _) h1 (hr.know hb) (hq.know hb) hw' (λkd x q1 hR=>by rw[hg];exact⟨t,some b,hgs,htN,hs,by rw[if_pos rfl];exact hR⟩)
          ·rename_i e;have hb':ρ[i]? =some (.sc (.bool (!want))):=by rw[hb];cases b<;>cases want<;>simp_all
           exact skip h2 (hr.know hb') (hq.know hb') hw' (by rw[hg];exact⟨t,some b,hgs,htN,hs,by rw[if_neg (λh=>e (Option.some.inj h))];exact⟨rfl,rfl,rfl⟩⟩)
         ·cases hh
       ·cases hh
      ·cases hh
     ·cases hh
   ·cases hh
  ·cases hh
def NI(P:Program)(S:Sy)(i:Nat):Option (List PO×Sy):=
 match aG S.ob i with
 |some (.arr st el k es)=>(match cK es.flatten ((List.replicate es.length (gO P 9 el)).flatten) S with
  |some (q,xs,S2)=>if xs.length=es.length*k then some (q++[PO.mk el k (ym k es.length xs)],{ (S2.bind 1)with ob:=(i,.row st el k S2.m)::S2.ob})else none
  |none=>some ([],S))
 |_=>some ([],S)
theorem Kr{i:Nat}(hh:NI P S i=some (ps,S'))(he:aq ps ρ=some ρ')(hr:aO S ρ σ s):∃s',Re s s'/\aO S' ρ' σ s':=by
 unfold NI at hh;split at hh
 ·rename_i st el k es hob;split at hh
  ·rename_i qq xs S2 hg;split at hh
   ·rename_i hl;injection hh with hh;injection hh with e1 e2;subst e1 e2;obtain⟨hlt,hro⟩:=hr.ob _ _ hob
    cases hx:s.ob i with
    |arr st' t' k' ys=>
     rw[hx]at hro;obtain⟨h1,rfl,rfl,h2⟩:=hro;obtain⟨ρ1,a1,a2⟩:=ac he;obtain⟨s2,ds,g1,g2,g3,g4⟩:=eh hg a1 hr h2.flat;obtain⟨ee,c1,c2,c3,c4⟩:=ry (n:=es.length) g2 hl
     have hob2:s2.ob i=.arr st' t' k' ys:=by
      rw[g4 i (λst a t k x=>by unfold Sy.own;rw[hob];simp only[Option.bind_some];constructor<;>split<;>simp)];exact hx
     have hn2:s2.n=s.n:=g1.1;have ho1:s.own? i st'=some (.arr st' t' k' ys):=by unfold AS.own?;rw[hr.n,if_pos hlt,hx];simp[Ob.st]
     have ho2:s2.own? i st'=some (.arr st' t' k' ys):=by unfold AS.own?;rw[hn2,hr.n,if_pos hlt,hob2];simp[Ob.st]
     refine⟨{s2 with ob:=upd s2.ob i (.row st' t' k' ee true)},λw0 N a w E hR=>Bw hR ho1 (by rw[c2];exact g1) (by rw[c3,h2.len]) c4 ho2,?_⟩;obtain⟨out,o1,rfl⟩:=au a2;rw[zv c1 c4]at o1;injection o1 with o1;subst o1;have hb:=g3.bind (out:=[DV.sl t' k' ee]) (k:=1) rfl;refine hb.upd (s':={s2 with ob:=upd s2.ob i (.row st' t' k' ee true)}) (i:=i) (n':=(S2.bind 1).n) (c':=(S2.bind 1).c) (so:=.row st t' k' S2.m) (aN.refl _) hb.c hb.n (Nat.le_refl _) (by rw[<-hb.n,hn2,hr.n];exact hlt) rfl (λj hj=>az _ _ hj) ?_;simp only[ab]
     exact⟨h1,rfl,rfl,rfl,by rw[<-g3.m];simp⟩
    |var=>rw[hx]at hro;exact hro.elim
    |row=>rw[hx]at hro;exact hro.elim
    |frz=>rw[hx]at hro;exact hro.elim
    |dx=>rw[hx]at hro;exact hro.elim
    |opn=>rw[hx]at hro;exact hro.elim
    |pvr=>rw[hx]at hro;exact hro.elim
    |cur=>rw[hx]at hro;exact hro.elim
    |dead=>rw[hx]at hro;exact hro.elim
   ·cases hh
  ·injection hh with hh;injection hh with e1 e2;subst e1 e2;simp only[aq]at he;injection he with he;subst he;exact⟨s,Re.refl _,hr⟩
 ·injection hh with hh;injection hh with e1 e2;subst e1 e2;simp only[aq]at he;injection he with he;subst he;exact⟨s,Re.refl _,hr⟩
def yt(P:Program):List Nat->Sy->Option (List PO×Sy)
 |[],S=>some ([],S)
 |i::r,S=>(match NI P S i with|some (p,S1)=>(match yt P r S1 with|some (q,S2)=>some (p++q,S2)|none=>none)|none=>none)
theorem nT:∀{l:List Nat} {S S':Sy} {ps:List PO} {ρ ρ':List DV} {s:AS},yt P l S=some (ps,S')->aq ps ρ=some ρ'->aO S ρ σ s->∃s',Re s s'/\aO S' ρ' σ s'
 |[],S,S',ps,ρ,ρ',s,hh,he,hr=>by
  simp only[yt]at hh;injection hh with hh;injection hh with e1 e2;subst e1 e2;simp only[aq]at he;injection he with he;subst he
  exact⟨s,Re.refl _,hr⟩
 |i::r,S,S',ps,ρ,ρ',s,hh,he,hr=>by
  simp only[yt]at hh;split at hh
  ·rename_i p S1 h1;split at hh
   ·rename_i qq S2 h2;injection hh with hh;injection hh with e1 e2;subst e1 e2;obtain⟨ρ1,a1,a2⟩:=ac he;obtain⟨s1,r1,k1⟩:=Kr h1 a1 hr;obtain⟨s2,r2,k2⟩:=nT h2 a2 k1;exact⟨s2,r1.trans r2,k2⟩
   ·cases hh
  ·cases hh
def nK(K:Kt):Kt:=λlv e S=>match e with|.normal=>K lv .normal S|_=>none
theorem BH{Q:Exit->AS->Prop}{K:Kt}(hk:yS P R L ρ Q K):yS P R L ρ (cX Q) (nK K):=by
 intro L' ρ' hL hp e S pg hpg σ s hr hw
 cases e with
 |normal=>exact hk L' ρ' hL hp .normal S pg hpg σ s hr hw
 |_=>cases hpg
def P6(ds:List Nat)(Q:Sy):SC->Bool
 |.d i=>ds.contains i
 |.nil=>true
 |.own j s2=>(Q.own j s2).isSome
 |.ptr j s2 _=>(Q.own j s2).isSome
 |_=>false
def Qu(P:Program)(FL:List (TypeId×Nat×Nat))(ds:List Nat)(Q:Sy):Bool:=FL.all λx=>match aG Q.sl x.2.1 with
 |some (.p false [.ptr i st off])=>(match Q.own i st with
  |some (.var _ _ cs)=>(match MH P x.1 (cs.drop off),aG Q.sl x.2.2 with
   |some (.p b xs),some (.p b' xs')=>decide (b=b'/\xs=xs')&&((b||xs.length==1)&&xs.all (P6 ds Q))
   |_,_=>false)
  |_=>false)
 |_=>false
theorem J5{ds:List Nat}:∀{xs:List SC} {ys zs:List AC},xs.all (P6 ds S)=true->cj ρ σ xs ys->cj ρ σ xs zs->ys=zs
 |[],ys,zs,_,h1,h2=>by
  cases ys<;>cases zs<;>first|rfl|exact h1.elim|exact h2.elim
 |x::xs,ys,zs,h,h1,h2=>by
  rw[List.all_cons,Bool.and_eq_true]at h
  cases ys with
  |nil=>exact h1.elim
  |cons y ys=>cases zs with
   |nil=>exact h2.elim
   |cons z zs=>
    have e2:=J5 h.2 h1.2 h2.2;have a1:=h1.1;have a2:=h2.1;subst e2;congr 1
    cases x with
    |d i=>
     obtain⟨u,rfl,hu⟩:=nk a1;obtain⟨v,rfl,hv⟩:=nk a2
     rw[hu]at hv;injection hv with hv;rw[hv]
    |nil=>cases y<;>cases z<;>first|rfl|exact a1.elim|exact a2.elim
    |own i st=>
     cases y<;>first|exact a1.elim|skip
     cases z<;>first|exact a2.elim|skip
     obtain⟨rfl,g1⟩:=a1;obtain⟨rfl,g2⟩:=a2
     rw[g1]at g2;injection g2 with g2;rw[g2]
    |ptr i st off=>
     cases y<;>first|exact a1.elim|skip
     cases z<;>first|exact a2.elim|skip
     obtain⟨rfl,g1,rfl⟩:=a1;obtain⟨rfl,g2,rfl⟩:=a2
     rw[g1]at g2;injection g2 with g2;rw[g2]
    |_=>exact absurd h.1 (by simp[P6])
theorem Iz{ds:List Nat}(hr:aO S ρ σ s)(hsc:∀i∈ds,∃v,ρ[i]? =some (.sc v)):∀{xs:List SC} {ys:List AC},xs.all (P6 ds S)=true->cj ρ σ xs ys->∀y∈ys,Tc s.lv y
 |[],ys,_,h1=>by
  cases ys with
  |nil=>intro y hy;cases hy
  |cons=>exact h1.elim
 |x::xs,ys,h,h1=>by
  rw[List.all_cons,Bool.and_eq_true]at h
  cases ys with
  |nil=>exact h1.elim
  |cons y ys=>
   have ih:=Iz hr hsc h.2 h1.2;have a1:=h1.1;intro z hz;rcases List.mem_cons.1 hz with rfl|hz
   ·cases x with
    |d i=>
     obtain⟨u,rfl,hu⟩:=nk a1;obtain⟨v,hv⟩:=hsc i (by simpa[P6]using h.1);rw[hu]at hv;injection hv with hv
     exact .inl ⟨v,by rw[hv]⟩
    |nil=>cases z<;>first|exact .inr (.inl rfl)|exact a1.elim
    |own i st=>
     cases z<;>first|exact a1.elim|skip
     obtain⟨rfl,g1⟩:=a1;obtain⟨ob,hob⟩:=Option.isSome_iff_exists.1 h.1;obtain⟨o2,m1,m2,m3,m4⟩:=hr.own hob g1
     exact .inr (.inr (.inl ⟨_,_,rfl,(af m1).2.2⟩))
    |ptr i st off=>
     cases z<;>first|exact a1.elim|skip
     obtain⟨rfl,g1,rfl⟩:=a1;obtain⟨ob,hob⟩:=Option.isSome_iff_exists.1 h.1;obtain⟨o2,m1,m2,m3,m4⟩:=hr.own hob g1
     exact .inr (.inr (.inr ⟨_,_,_,rfl,(af m1).2.2⟩))
    |_=>exact absurd h.1 (by simp[P6])
   ·exact ih z hz
theorem CR{FL:List (TypeId×Nat×Nat)}{ds:List Nat}(hh:Qu P FL ds S=true)(hr:aO S ρ σ s)(hsc:∀i∈ds,∃v,ρ[i]? =some (.sc v)):CF P FL s:=by
 intro x hx;have:=List.all_eq_true.1 hh x hx;split at this
 ·rename_i i st off h1;split at this
  ·rename_i a ty cs ho;split at this
   ·rename_i b xs b' xs' h2 h3;simp only[Bool.and_eq_true,decide_eq_true_eq]at this;obtain⟨⟨rfl,rfl⟩,hlen,hall⟩:=this;obtain⟨y,y1,y2⟩:=bg (c:=.ptr i st off) rfl (hr.sl _ _ h1);cases y<;>first|exact y2.elim|skip
    obtain⟨rfl,hst,rfl⟩:=y2;obtain⟨o',k1,k2,k3,k4⟩:=hr.own ho hst;cases o'<;>first|exact k2.elim|skip
    rename_i b2 ty' ys;obtain⟨k5,rfl,k6⟩:=k2;obtain rfl:=aT k1 rfl;obtain⟨v,v1,v2⟩:=sY (P:=P) h2 (k6.drop _);have w2:=hr.sl _ _ h3;generalize hz:s.sl x.2.2=z at w2
    cases v with
    |p bv vs=>cases z with
     |p bz zs=>
      obtain⟨rfl,v3⟩:=v2;obtain⟨rfl,w3⟩:=w2;obtain rfl:=J5 hall v3 w3;refine⟨_,_,_,_,_,_,_,y1,k1,v1,rfl,λhb=>?_,Iz hr hsc hall v3⟩;rw[hb]at hlen;rw[<-cj.len v3]
      simpa using hlen
     |_=>exact w2.elim
    |_=>exact v2.elim
   ·cases this
  ·cases this
 ·cases this
def O4(FL:List (TypeId×Nat×Nat))(Q:Sy):List Nat:=FL.flatMap λx=>match aG Q.sl x.2.2 with
 |some (.p _ xs)=>xs.filterMap λc=>match c with|.d i=>some i|_=>none
 |_=>[]
theorem DE:∀{ds:List Nat} {ρ ρ':List DV},aq (ds.map .sc) ρ=some ρ'->ρ'=ρ/\∀i∈ds,∃v,ρ[i]? =some (.sc v)
 |[],ρ,ρ',h=>by simp only[List.map_nil,aq]at h;injection h with h;exact⟨h.symm,by simp⟩
 |i::ds,ρ,ρ',h=>by
  simp only[List.map_cons,aq]at h;split at h
  ·rename_i out ho;simp only[av]at ho;split at ho
   ·rename_i d hd;split at ho
    ·rename_i hs;injection ho with ho;subst ho;rw[List.append_nil]at h;obtain⟨e,ih⟩:=DE h;refine⟨e,λj hj=>?_⟩;rcases List.mem_cons.1 hj with rfl|hj
     ·cases d with
      |sc v=>exact⟨v,hd⟩
      |sl=>cases hs
     ·exact ih j hj
    ·cases ho
   ·cases ho
  ·cases h
def It(P:Program)(N:Nat)(ow:eK)(chk:Sy->Bool):List Oper->Nat->Sy->Kt->Option Pg
 |[],lv,S,K=>K lv .normal S
 |o::r,lv,S,K=>if dB N o.dst&&o.guard.isNone then Gr P ow o S (λS'=>if chk S' then It P N ow chk r lv S' K else none)else none
theorem vR{Q:Exit->AS->Prop}{FL:List (TypeId×Nat×Nat)}{ds:List Nat}{K:Kt}:∀{l:List Oper} {lv:Nat} {S:Sy} {pg:Pg} {ρ:List DV} {σ:List Nat} {s:AS},(∀i∈ds,∃v,ρ[i]? =some (.sc v))->It P N ow (Qu P FL ds) l lv S K=some pg->lv=L.length->aO S ρ σ s->yS P R L ρ Q K->W P R pg L ρ->wO P N l Q (CF P FL) s
 |[],lv,S,pg,ρ,σ,s,hsc,h,hl,hr,hk,hw=>λw0 a w E hR=>⟨s,E,hk L ρ (aN.refl _) (aN.refl _) _ _ _ (by rw[<-hl];exact h) _ _ hr hw,hR⟩
 |o::r,lv,S,pg,ρ,σ,s,hsc,h,hl,hr,hk,hw=>by
  simp only[It]at h;split at h
  ·rename_i hd;simp only[Bool.and_eq_true]at hd;obtain⟨ρ',σ',s',S',g,r1,r2,r3,r4,r5⟩:=vO h hd.1 hr hw;split at r3
   ·rename_i hc;have hsc':∀i∈ds,∃v,ρ'[i]? =some (.sc v):=λi hi=>by obtain⟨v,hv⟩:=hsc i hi;exact⟨v,r5.get hv⟩
    have hC:=CR hc r2 hsc';have ih:=vR hsc' r3 hl r2 (hk.mono (aN.refl _) r5) r4;intro w0 a w E hR;refine⟨by simpa using hd.2,Oper.wp_mono (λa' w' hp=>?_) (r1 w0 a w E hR)⟩;obtain⟨E',hR'⟩:=hp;exact⟨⟨s',E',hC,hR'⟩,ih w0 a' w' E' hR'⟩
   ·cases r3
  ·cases h
def Rg(FL:List (TypeId×Nat×Nat))(o:Oper):Bool:=FL.all λx=>!(o.dst==some x.2.1)&& !(o.dst==some x.2.2)
def Bf(P:Program)(N:Nat)(ow:eK)(dn:List (Nat×Nat×Bool×List Nat)):Dt:=λid ops lv S K=>
 match aG dn id with
 |some (n,pr,[])=>if P.follows .mixedOrders&&jY ops.toList n then
  rC P N ow pr ops.toList.toArray (λQ=>match yt P ((List.range (Q.n-S.n)).map (S.n+ ·)) Q with|some (ps,Q')=>(match uL P N ow ops.toList.toArray (ops.toList.drop n) lv Q' K with|some g=>some (dl (ps.map .po) g)|none=>none)|none=>none) (ops.toList.take n) S S
  else none
 |some (n,pr,F)=>if P.follows .mixedOrders&&(uG ops.toList n F&&jY (aV ops.toList n F) n)then(if KT ops.toList F then
  rC P N ow pr (aV ops.toList n F).toArray (λQ=>match yt P ((List.range (Q.n-S.n)).map (S.n+ ·)) Q with|some (ps,Q')=>(match uL P N ow (aV ops.toList n F).toArray ((aV ops.toList n F).drop n) lv Q' (nK K)with|some g=>some (dl (ps.map .po) g)|none=>none)|none=>none) ((aV ops.toList n F).take n) S S
  else if((aV ops.toList n F).take n).all (λo=>pS o.op)&&((aV ops.toList n F).drop n).all (Rg (qQ ops.toList F))then
   rC P N ow true (aV ops.toList n F).toArray (λQ=>if Qu P (qQ ops.toList F) (O4 (qQ ops.toList F) Q) Q then(match It P N ow (Qu P (qQ ops.toList F) (O4 (qQ ops.toList F) Q)) ((aV ops.toList n F).drop n) lv Q (nK K)with|some g=>some (dl (((O4 (qQ ops.toList F) Q).map .sc).map .po) g)|none=>none)else none) ((aV ops.toList n F).take n) S S
  else none)else none
 |none=>none
theorem drawD_ok{dn:List (Nat×Nat×Bool×List Nat)}:Qx P R N (Bf P N ow dn):=by
 intro id ops lv S K pg hh L ρ σ s Qp hl hr hk hw;unfold Bf at hh;split at hh
 ·rename_i n pr hdn;split at hh
  ·rename_i hc;simp only[Bool.and_eq_true]at hc;obtain⟨kds,xs,qF,S',ρ1,σ1,g,f1,f2,f3,f4,f5⟩:=gS hh hr hr (aN.refl _) hw;split at f3
   ·rename_i ps Q' hs;split at f3
    ·rename_i g' hg';injection f3 with f3;subst f3;obtain⟨ρ2,he,hw2,hp2⟩:=bn (ei f4);obtain⟨s2,r2,k2⟩:=nT hs he f2;have ht:jh P N ops.toList.toArray (ops.toList.drop n) Qp qF:=vV r2 (ek hg' hl k2 (hk.mono (aN.refl _) (f5.trans hp2)) hw2);have:=Jx (id:=id) (l:=ops.toList) n pr hc.1 hc.2 f1 ht;simpa using this
    ·cases f3
   ·cases f3
  ·cases hh
 ·rename_i n pr F _ hdn;split at hh
  ·rename_i hc;simp only[Bool.and_eq_true]at hc;split at hh
   ·rename_i hnl;obtain⟨kds,xs,qF,S',ρ1,σ1,g,f1,f2,f3,f4,f5⟩:=gS hh hr hr (aN.refl _) hw;split at f3
    ·rename_i ps Q' hs;split at f3
     ·rename_i g' hg';injection f3 with f3;subst f3;obtain⟨ρ2,he,hw2,hp2⟩:=bn (ei f4);obtain⟨s2,r2,k2⟩:=nT hs he f2;have ht:jh P N (aV ops.toList n F).toArray ((aV ops.toList n F).drop n) (cX Qp) qF:=vV r2 (ek hg' hl k2 ((BH hk).mono (aN.refl _) (f5.trans hp2)) hw2);have:=CQ (id:=id) (l:=ops.toList) n pr F hc.1 hc.2.1 hnl hc.2.2 f1 ht;simpa using this
     ·cases f3
    ·cases f3
   ·split at hh
    ·rename_i hpl;simp only[Bool.and_eq_true,List.all_eq_true]at hpl;obtain⟨kds,xs,qF,S',ρ1,σ1,g,f1,f2,f3,f4,f5⟩:=gS hh hr hr (aN.refl _) hw;split at f3
     ·rename_i hcf;split at f3
      ·rename_i g' hg';injection f3 with f3;subst f3;obtain⟨ρ2,he,hw2,hp2⟩:=bn (ei f4);obtain⟨rfl,hsc⟩:=DE he;have ht:wO P N ((aV ops.toList n F).drop n) (cX Qp) (CF P (qQ ops.toList F)) qF:=vR hsc hg' hl f2 ((BH hk).mono (aN.refl _) f5) hw2
       have:=DW (id:=id) (l:=ops.toList) n F hc.1 hc.2.1 hc.2.2 hpl.1 f1 (CR hcf f2 hsc) (λo ho x hx=>by
        have:=List.all_eq_true.1 (hpl.2 o ho) x hx;simp only[Bool.and_eq_true,Bool.not_eq_true',beq_eq_false_iff_ne,ne_eq]at this
        exact this) ht
       simpa using this
      ·cases f3
     ·cases f3
    ·cases hh
  ·cases hh
 ·cases hh
end
end Go.Proofs.Ytngaddcgmnonbaa
namespace Go.Proofs.Ytngaddcgmnonbaa
open Go.RowKit
def nG(V:Nat->Bool)(q:AS):AS:={q with ob:=λi=>if V i then .dead else q.ob i}
def Ql(q:AS):Prop:=∀i,i<q.n->∀st t k es,q.ob i=.row st t k es true->jl es.flatten
def S8(w0:Cx)(w:World)(q:AS)(V:Nat->Bool)(E:En):Cx:={w with
 B:=E.A
 fr:=λb=>w.heap.size<=b\/∃i,i<q.n/\V i=false/\(b∈E.m i\/b∈E.o i)/\¬(E.A b)
 hfr:=λb h=>.inl h
 cu:=w0.cu
 ow:=λb=>w.heap.size<=b\/∃i,i<q.n/\V i=false/\(b∈E.m i\/b∈E.o i)/\¬(E.A b)
 how:=λ_ h=>h}
def MF(V:Nat->Bool)(E:En):En:=⟨E.v,λi=>if V i then[]else E.m i,λi=>if V i then[]else E.o i,E.A⟩
section
variable {P:Program}{w0:Cx}{ws w w':World}{N m n:Nat}{s q q' s':AS}{a a':Act}{E E':En}{V:Nat->Bool}
theorem FQ{base:Nat}{vs:List Value}{ds:List DV}{f:List Nat}(h:bi w base vs ds f)(hf:jl ds):f=[]:=by
 induction h with
 |nil=>rfl
 |sc _ _ ih=>exact ih λd hd=>hf d (List.mem_cons_of_mem _ hd)
 |sl=>obtain⟨v,hv⟩:=hf _ (List.mem_cons_self ..);cases hv
theorem Q8(h:aD w0 N q a w E)(hn:Ql (nG V q)){i:Nat}(hi:i<q.n)(hV:V i=false)(hd:q.ob i≠.dead):E.o i=[]:=by
 have hO:=h.obj i hi;have hN:=hn i hi;simp only[nG,hV,Bool.false_eq_true,if_false]at hN
 cases hx:q.ob i with
 |var=>rw[hx]at hO;obtain⟨_,_,_,_,_,h,_⟩:=hO;exact h
 |arr=>rw[hx]at hO;obtain⟨_,_,_,_,_,h,_⟩:=hO;exact h
 |row st t k es deep=>
  rw[hx]at hO;obtain⟨_,_,_,_,_,_,h6⟩:=hO
  cases deep with
  |true=>exact FQ (by simpa using h6) (hN _ _ _ _ hx)
  |false=>exact(by simpa using h6:_/\_).1
 |frz=>rw[hx]at hO;exact hO.2.2.1
 |dx=>rw[hx]at hO;exact hO.2.1
 |pvr=>rw[hx]at hO;obtain⟨_,_,_,_,_,h,_⟩:=hO;exact h
 |opn=>rw[hx]at hO;obtain⟨_,_,_,_,_,_,h,_⟩:=hO;exact h
 |cur=>rw[hx]at hO;obtain⟨_,_,_,_,_,h,_⟩:=hO;exact h
 |dead=>exact absurd hx hd
def Fi(V:Nat->Bool)(q:AS):Prop:=∀i,i<q.n->q.ob i=.dead->V i=true
theorem KW(h:aD w0 N q a w E)(hn:Ql (nG V q))(hD:Fi V q):aD (S8 w0 w q V E) N (nG V q) a w (MF V E):=by
 have nd:∀i,i<q.n->V i=false->q.ob i≠.dead:=λi hi hv e=>by rw[hD i hi e]at hv;cases hv
 have hst:gZ w E q.lv q.c w (MF V E) (nG V q).lv (nG V q).c:=by
  refine⟨λb hb=>⟨hb,rfl⟩,λi st _ hl=>⟨?_,rfl⟩,Nat.le_refl _⟩;unfold AS.lv at hl ⊢;split at hl
  ·rename_i hi;have hi:i<q.n:=hi;rw[if_pos hi];simp only[nG]at hl;split at hl
   ·cases hl
   ·exact hl
  ·cases hl
 have hm:∀i b,b∈(MF V E).m i->V i=false/\b∈E.m i:=by
  intro i b hb;simp only[MF]at hb;split at hb
  ·cases hb
  ·rename_i hv;exact⟨by simpa using hv,hb⟩
 have ho:∀i,i<q.n->(MF V E).o i=[]:=by
  intro i hi;simp only[MF];split
  ·rfl
  ·rename_i hv;have hv:V i=false:=by simpa using hv
   exact Q8 h hn hi hv (nd i hi hv)
 refine⟨h.size,h.defers,⟨rfl,rfl,rfl,Nat.le_refl _,λ_ _=>rfl⟩,λi hi=>?_,λt=>(h.slot t).stay hst,h.A_lt,?_,?_,?_,?_,?_,λb hb=>.inl hb,?_,?_⟩
 ·cases hv:V i with
  |true=>simp only[nG,hv,if_true];trivial
  |false=>
   simp only[nG,hv,Bool.false_eq_true,if_false];refine(h.obj i hi).stay hst rfl (by simp[MF,hv]) (by simp[MF,hv]) (λ_ _=>rfl) (λb hb=>h.A_o i hi b hb)
 ·intro b hb i hi hbm;exact h.A_m b hb i hi (hm i b hbm).2
 ·intro i hi b hb;rw[ho i hi]at hb;cases hb
 ·intro i j hi hj hne b hb hb';exact h.mm i j hi hj hne b (hm i b hb).2 (hm j b hb').2
 ·intro i j hi hj hne b hb;rw[ho i hi]at hb;cases hb
 ·intro i hi b hb;exact h.m_lt i hi b (hm i b hb).2
 ·intro i hi b hb;obtain⟨h1,h2⟩:=hm i b hb;exact .inr ⟨i,hi,h1,.inl h2,λhA=>h.A_m b hA i hi h2⟩
 ·intro i hi b hb;rw[ho i hi]at hb;cases hb
theorem vI(h:aD w0 N q a w E){b:Nat}(hb:(S8 w0 w q V E).fr b):w0.fr b:=by
 rcases hb with hb|⟨i,hi,_,hb|hb,hA⟩
 ·exact w0.hfr b (Nat.le_trans h.bel.size hb)
 ·exact h.mF i hi b hb
 ·exact absurd (h.A_o i hi b hb) hA
theorem LN(h:aD w0 N q a w E)(h':aD (S8 w0 w q V E) N s' a' w' E'):aD w0 N s' a' w' E':=
 ⟨h'.size,h'.defers,⟨h'.bel.os.trans h.bel.os,h'.bel.tape.trans h.bel.tape,h'.bel.output.trans h.bel.output,Nat.le_trans h.bel.size h'.bel.size,λb hb=>(h'.bel.block b λhf=>hb (vI h hf)).trans (h.bel.block b hb)⟩,
  h'.obj,h'.slot,h'.A_lt,h'.A_m,h'.A_o,h'.mm,h'.oo,h'.m_lt,λb hb=>(h'.anc b hb).elim (λh1=>h.anc b h1) (λh1=>.inr (vI h h1)),λi hi b hb=>vI h (h'.mF i hi b hb),λi hi b hb=>w0.how b (vI h (h'.oF i hi b hb))⟩
def DB(V:Nat->Bool)(q:AS)(E:En)(b:Nat):Prop:=E.A b\/∃i,i<q.n/\V i=true/\b∈E.m i
theorem OJ(h:aD w0 N q a w E)(hn:Ql (nG V q))(hD:Fi V q)(h':C9 (S8 w0 w q V E) w'){b:Nat}(hb:DB V q E b):w'.heap[b]? =w.heap[b]?:=by
 refine h'.block b λhf=>?_
 rcases hf with hf|⟨i,hi,hv,hm,hnA⟩
 ·rcases hb with hb|⟨j,hj,_,hb⟩
  ·have:=h.A_lt b hb;omega
  ·have:=h.m_lt j hj b hb;omega
 ·rcases hb with hb|⟨j,hj,hjv,hb⟩
  ·exact hnA hb
  ·rcases hm with hm|hm
   ·exact h.mm i j hi hj (λe=>by subst e;rw[hv]at hjv;cases hjv) b hm hb
   ·exact hnA (h.A_o i hi b hm)
theorem Ai{L:Nat->Option Nat}{c:Nat}{t:TypeId}{cs:List AC}{vals:List Value}{b off:Nat}{x:AV}(h:AX P t cs=some x)(hc:ay w E L c cs vals)(ha:At w b off vals):
 ∃v,∀w',w'.heap[b]? =w.heap[b]?->(Instr.loadAt t (.pointer (some ⟨b,off,none⟩))).run P w'=.ok v w':=by
 unfold AX at h;split at h
 ·rename_i hg;split at h
  ·rename_i k hk;split at h
   ·rename_i hl;have hlen:(vals.take k).length=k:=by rw[List.length_take,<-hc.1];omega
    refine⟨.agg (vals.take k).toArray,λw' hw=>lO P hg (by rw[hlen];exact hk) ?_⟩;have:=nX (i:=0) (k:=k) (ha.keep hw);simpa using this
   ·cases h
  ·cases h
 ·rename_i hg;split at h
  ·rename_i c0 r;obtain⟨u,us,rfl,h1,h2⟩:=hc.cons';exact⟨u,λw' hw=>l7 P hg (by have:=(ha.keep hw) 0 u rfl;simpa using this)⟩
  ·cases h
 ·cases h
def BU(V:Nat->Bool)(s:AS):AV->Prop
 |.p false [.ptr i st _]=>V i=true/\i<s.n/\(∃t cs,s.own? i st=some (.var st t cs))
 |.p false [.elt i st k _ _]=>V i=true/\i<s.n/\(∃t es dp,s.own? i st=some (.row st t k es dp))
 |.p false [.rd _]=>True
 |_=>False
theorem KD(h:aD w0 N s a w E){t:TypeId}{y x:AV}{v:Value}(hx:xV P s t y=some x)(hy:ba w E s.lv s.c y v)(hk:BU V s y):
 ∃u,∀w',(∀b,DB V s E b->w'.heap[b]? =w.heap[b]?)->(Instr.loadAt t v).run P w'=.ok u w':=by
 unfold BU at hk;split at hk
 ·rename_i i st off;obtain⟨h1,h2,ty,cs,h3⟩:=hk;simp only[xV,h3]at hx;obtain⟨hi,ho,hl⟩:=af h3;obtain⟨g,e1,rfl⟩:=(aA hy).2 hl;have h4:=h.obj i hi;rw[ho]at h4;obtain⟨g',vals,_,e2,e3,_,_,hB,hcs⟩:=h4;rw[e1]at e2;injection e2 with e2;injection e2 with e2;injection e2 with e2;subst e2;obtain⟨u,hu⟩:=Ai hx (hcs.drop off) (nE hB off);exact⟨u,λw' hw=>hu w' (hw g (.inr ⟨i,hi,h1,by rw[e3];simp⟩))⟩
 ·rename_i i st k j off;obtain⟨h1,h2,ty,es,dp,h3⟩:=hk;simp only[xV,h3,if_true]at hx;split at hx
  ·rename_i e he;obtain⟨hi,ho,hl⟩:=af h3;obtain⟨g,n,cp,e1,rfl⟩:=(aA hy).2 hl;obtain⟨g',n',cp',vals,e2,hr,hat,_⟩:=lJ h hi ho he;have h4:=h.obj i hi;rw[ho]at h4;obtain⟨cells,_,_,_,_,h5,_⟩:=h4;have hg:g∈E.m i:=by rw[h5,e1];simp[Value.ownBlock]
   rw[e1]at e2;injection e2 with e2;injection e2 with e2;injection e2 with e2;subst e2;obtain⟨u,hu⟩:=Ai hx (ay.ofRep (L:=s.lv) (c:=s.c) (hr.drop off)) (vK (k:=off) hat);exact⟨u,λw' hw=>hu w' (hw g (.inr ⟨i,hi,h1,hg⟩))⟩
  ·cases hx
 ·rename_i cs;simp only[xV]at hx;obtain⟨b,off,vals,rfl,hA,hr,hat⟩:=aA hy;obtain⟨u,hu⟩:=Ai hx (ay.ofRep (L:=s.lv) (c:=s.c) hr) hat;exact⟨u,λw' hw=>hu w' (hw b (.inl hA))⟩
 ·cases hk
theorem l8{Q Q':Exit->Act->World->Prop}{I I':Act->World->Prop}(hI:∀a w,I a w->I' a w)(hQ:∀e a w,Q e a w->Q' e a w):∀{l:List Oper} {a:Act} {w:World},jN P Q I l a w->jN P Q' I' l a w
 |[],_,_,h=>hQ _ _ _ h
 |o::r,_,_,h=>⟨h.1,Oper.wp_mono (λ_ _ hh=>⟨hI _ _ hh.1,l8 hI hQ hh.2⟩) h.2⟩
end
def CA(l:List Oper)(F:List Nat):List Nat:=F.filterMap λi=>match l[i]? with
 |some o=>(match o.op with|.load _ (.tmp p)=>some p|_=>none)
 |none=>none
section
variable {P:Program}{w0:Cx}{w w':World}{N m n:Nat}{s h H q q' qF:AS}{a:Act}{E:En}{o:Oper}{l:List Oper}{kds:List HK}{xs:List AV}{Q:Exit->AS->Prop}{F:List Nat}{V:Nat->Bool}
theorem GF{op:Op}(h:ST op=true):pS op=true:=by
 cases hp:pS op with
 |true=>rfl
 |false=>
  unfold pS at hp;split at hp
  ·cases h
  ·cases hp
theorem Cy(n:Nat)(F:List Nat)(V:Nat->Bool)(hE:uG l n F=true)(hB:jY (aV l n F) n=true)(hpl:QM (aV l n F) n)(hh:fw P N true (aV l n F).toArray ((aV l n F).take n) s s kds xs qF)
 (hLd:∀p∈CA l F,BU V qF (qF.sl p)) (hN:Ql (nG V qF)) (hD:Fi V qF)
 (htail:wO P N ((aV l n F).drop n) (cX Q) (λ_=>True) (nG V qF)) {w0:Cx} {a:Act} {w:World} {E:En} (hr:aD w0 N s a w E):
 wpAny P .any l.toArray (AQ w0 N (cX Q)) l.toArray.size (Array.replicate l.toArray.size false) a w:=by
 have hsz:l.toArray.size=(aV l n F).length:=by simp[tT]
 have hF:∀i∈F,∃oi,l[i]? =some oi/\i<n/\oi.guard=none/\(Gw oi.op=true\/Ir oi.op=true):=by
  have hE':=hE;unfold uG at hE';simp only[Bool.and_eq_true,decide_eq_true_eq,List.all_eq_true]at hE';intro i hi;obtain⟨h1,h2⟩:=hE'.2.2 i hi;split at h2
  ·rename_i oi hoi;simp only[Bool.and_eq_true,Bool.or_eq_true]at h2;exact⟨oi,hoi,h1,by simpa using h2.1,h2.2.1⟩
  ·cases h2
 have hqF:=m9 (λo ho=>GF (hpl o ho)) hh;have hr':aD w0 N s a w E:=hr;refine wpAny_of_held _ _ _ _ (qb (S:=λw1=>∀b,DB V s E b->w1.heap[b]? =w.heap[b]?) hE (λe a w he hq=>?_) _ _ _ _ (λj oj _ hl=>(by rw[getD_replicate_false]at hl;cases hl)) (by simp) ?_)
 ·obtain⟨s',E',h1,_⟩:=hq;cases e<;>first|exact he rfl|exact h1
 unfold jY at hB;rw[Bool.and_eq_true,decide_eq_true_eq]at hB;obtain⟨hB,hnd⟩:=hB;have hnl:=(cq hB).2.1;generalize hl':aV l n F=l' at*
 have hu:G9 n (Array.replicate l.toArray.size false)=n:=by
  unfold G9
  have:(List.range n).filter (λi=>!(Array.replicate l.toArray.size false).getD i false)=List.range n:=by
   rw[List.filter_eq_self];intro i _;rw[getD_replicate_false];rfl
  rw[this];simp
 have hEm:∀i,i<s.n->∀b∈E.m i,b<w.heap.size:=λi hi b hb=>hr'.m_lt i hi b hb
 obtain⟨hkl,hxl⟩:=hZ hh;have htl:(l'.take n).length=n:=by rw[List.length_take];omega
 rw[htl]at hkl hxl;obtain⟨ha1,ha2,ha3⟩:=kP (l:=l'.take n) (xs:=xs) (s:=s);have hobq:qF.ob=s.ob:=by rw[hqF];exact ha1
 have hnq:qF.n=s.n:=by rw[hqF];exact ha2
 have hownq:qF.own? =s.own?:=by funext i st;unfold AS.own?;rw[hobq,hnq]
 have hS:∀listed a w1 fs,zy P w0 w N w.heap.size n s E l' kds xs listed a w1 fs->∀b,DB V s E b->w1.heap[b]? =w.heap[b]?:=by
  intro listed a w1 fs hI b _;rw[hI.bl hpl]
 have h:=jz (ws:=w) (J:=JF P l F (λw1=>∀b,DB V s E b->w1.heap[b]? =w.heap[b]?)) (Q:=cX Q) (m:=w.heap.size) (E:=E) hB hnd hh hr'.bel.size hEm hr'.A_lt ?_ ?_ n (Array.replicate l.toArray.size false) a w (λ_=>[]) hu
  ⟨by simp[hsz],λj oj _ hl=>(by rw[getD_replicate_false]at hl;cases hl),λt _ ht=>getD_in (by rw[Array.size_replicate,hsz];simpa using ht) (getD_replicate_false _ _)⟩
  ⟨by
   have:Hd l' n (Array.replicate l.toArray.size false)=[]:=by
    rw[List.eq_nil_iff_forall_not_mem];intro t ht;obtain⟨j,o,_,hl,_⟩:=fg.1 ht;rw[getD_replicate_false]at hl;cases hl
   rw[this];have e:cE s []=s:=by unfold cE;simp
   rw[e];exact hr',Nat.le_refl _,λj o d kd x _ hl=>(by rw[getD_replicate_false]at hl;cases hl),λj _ hl=>(by rw[getD_replicate_false]at hl;cases hl),λi j _ _ hl=>(by rw[getD_replicate_false]at hl;cases hl),λ_=>rfl⟩
 ·rw[show l.toArray.size=n+(l'.length-n)from by rw[hsz];omega];rw[show(Array.replicate l.toArray.size false)=Array.replicate (n+(l'.length-n)) false from by congr 1;rw[hsz];omega]at h;exact h
 ·intro listed a w1 fs inv hI;refine⟨hS _ _ _ _ hI,λi oi hi hoi hrd=>?_⟩;obtain⟨oi',hoi',hin,hg,hfl⟩:=hF i hi;obtain rfl:oi'=oi:=Option.some.inj (hoi'.symm.trans hoi);have hne:i≠n:=by omega
  have hrd':i∈Region.ready .any l'.toArray listed:=by rw[<-hl'];exact fW hrd λe=>absurd e hne
  have hoil:l'[i]? =some oi':=by rw[<-hl',iw hne];exact hoi
  obtain⟨g1,g2⟩:=wk hB hnd hh hr'.bel.size hEm inv hI hin hrd' hoil;obtain⟨kd,x,qi,qi',hkd,hx,⟨d,hd,hdN⟩,hstp⟩:=iy hh i oi' (by rw[List.getElem?_take,if_pos hin];exact hoil);have htt:(l'.take n).take i=l'.take i:=by rw[List.take_take,Nat.min_eq_left (by omega)]
  rw[htt,hg]at hstp;obtain⟨y,hy⟩:=wZ hstp (hpl oi' (List.mem_of_getElem? (i:=i) (by rw[List.getElem?_take,if_pos hin];exact hoil)))
  have hy:hV P (kT s (l'.take i) xs) oi'.op=some y:=by
   have hnb:∀t parts,oi'.op≠.build t parts:=λt parts e=>by
    rcases hfl with hfl|hfl<;>(rw[e]at hfl;cases hfl)
   unfold oS at hy;split at hy
   ·rename_i t parts e;exact absurd e (hnb t parts)
   ·exact hy
  rw[<-rt g2]at hy;rcases hfl with hfl|hfl
  ·obtain⟨v,hv⟩:=pU hfl hy g1;exact⟨v,λw _=>hv w⟩
  ·unfold Ir at hfl;split at hfl
   ·rename_i t p hop;have hheap:=hI.bl hpl;have hmem:p∈CA l F:=List.mem_filterMap.2 ⟨i,hi,by rw[hoi];simp only[hop]⟩;have hlk:p∈oi'.looksAt l'.toArray:=List.mem_append_left _ (List.mem_filterMap.2 ⟨.tmp p,by rw[hop];simp[Op.operands],rfl⟩);have hk:=hLd p hmem;rw[hop]at hy;simp only[hV]at hy
    have hsl:({s with sl:=λt=>if(oi'.looksAt l'.toArray).contains t then(kT s (l'.take i) xs).sl t else .und}:AS).ev (.tmp p)=qF.sl p:=by
     show(if(oi'.looksAt l'.toArray).contains p then(kT s (l'.take i) xs).sl p else .und)=_;rw[if_pos (by simpa using hlk),yp (listed:=listed) (fs:=fs) hB hnd hxl (Nat.le_of_lt hin) (λj oj hj hoj hdj=>(ji hB hin hoil hj hoj hdj hlk).1),<-hqF]
    have hsr:=aJ g1 (.tmp p);rw[hsl]at hy hsr
    obtain⟨u,hu⟩:=KD (V:=V) g1 hy hsr (by
     unfold BU at hk ⊢;split at hk
     ·obtain⟨k1,k2,ty,cs,k3⟩:=hk;exact⟨k1,by rw[<-hnq];exact k2,ty,cs,by rw[hownq]at k3;exact k3⟩
     ·obtain⟨k1,k2,ty,es,dp,k3⟩:=hk;exact⟨k1,by rw[<-hnq];exact k2,ty,es,dp,by rw[hownq]at k3;exact k3⟩
     ·trivial
     ·exact hk.elim)
    refine⟨u,λw' hSw=>?_⟩
    have:=hu w' (λb hb=>by
     rw[hheap];refine hSw b ?_;rcases hb with hb|hb
     ·rcases hb with hb|hb
      ·exact .inl hb
      ·rw[hheap]at hb;omega
     ·exact .inr hb)
    simp only[execOp,hop];rw[Sem.run_bind,this];rfl
   ·cases hfl
 ·intro a w1 fs hI
  have hall:∀j,j<n->(cZ n (l'.length-n)).getD j false=true:=by
   intro j hj;simp[cZ,Array.getElem?_append,hj]
  have hrep:=A9 hB hnd hxl hkl hr'.bel.size hEm hall hI;rw[<-hqF]at hrep;have hheap:=hI.bl hpl;have hseq:=(cq hB).2.2.2.1;have hT:=htail _ a w1 _ (KW hrep hN hD)
  have hT':jN P (AQ w0 N (cX Q)) (λ_ w'=>∀b,DB V s E b->w'.heap[b]? =w.heap[b]?) (l'.drop n) a w1:=by
   refine l8 (λa' w' hI' b hb=>?_) (λe a' w' hq=>?_) hT
   ·obtain⟨s',E',_,h2⟩:=hI'
    have:=OJ hrep hN hD h2.bel (b:=b) (by
     rcases hb with hb|⟨i,hi,h1,h2⟩
     ·exact .inl (.inl hb)
     ·exact .inr ⟨i,by rw[hnq];exact hi,h1,h2⟩)
    rw[this,hheap]
   ·obtain⟨s',E',h1,h2⟩:=hq;exact⟨s',E',h1,LN hrep h2⟩
  rw[show dH P .any l'.toArray (AQ w0 N (cX Q)) (JF P l F (λw1=>∀b,DB V s E b->w1.heap[b]? =w.heap[b]?)) (l'.length-n)=dH P .any l'.toArray (AQ w0 N (cX Q)) (JF P l F (λw1=>∀b,DB V s E b->w1.heap[b]? =w.heap[b]?)) (l'.drop n).length from by simp];refine nN (n:=n) (I:=λ_ w'=>∀b,DB V s E b->w'.heap[b]? =w.heap[b]?) (λlisted a w hl hSw=>⟨hSw,λi oi hi hoi hrd=>?_⟩) (l'.drop n) n _ a w1 (λj=>by simp[List.getElem?_drop]) (by simpa using hseq) (by simpa using hall) (hS _ _ _ _ hI) hT';obtain⟨_,_,hin,_⟩:=hF i hi;have h0:=(mem_ready.1 hrd).1;have:=hl i hin;rw[getD_both h0]at this;cases this
end
end Go.Proofs.Ytngaddcgmnonbaa
namespace Go.Proofs.Ytngaddcgmnonbaa
open Go.RowKit
def oN(P:Program)(N:Nat)(l:List Oper)(Q:Exit->AS->Prop)(s:AS):Prop:=∀w0 a w E,aD w0 N s a w E->wpAny P .any l.toArray (AQ w0 N Q) l.toArray.size (Array.replicate l.toArray.size false) a w
section
variable {P:Program}{R:List (Bool×List DV)->Prop}{N:Nat}{ow:eK}{Q:Exit->AS->Prop}{s:AS}{l l':List Oper}
theorem ns{id:Nat}(hm:P.follows .mixedOrders=true)(h:oN P N l Q s):oP P N (.region id l.toArray true) Q s:=λw0 a w E hr=>wp_region_any hm (h w0 a _ E (hr.world' (Below.refl _ _).drew))
theorem yU{σ:Nat->Nat}{n:Nat}(hp:Pm σ n l l')(h:oN P N l' Q s):oN P N l Q s:=λw0 a w E hr=>by
 have h1:=h w0 a w E hr;have e1:l.toArray.size=n:=by simp[hp.len]
 have e2:l'.toArray.size=n:=by simp[hp.len']
 rw[e2]at h1;rw[e1];exact xE hp n _ _ a _ (LR.start hp) h1
theorem GI{c:Code}(h:oP P N c (cX Q) s):oP P N c Q s:=λw0 a w E hr=>by
 refine Code.wp_mono (λe a w he=>?_) (h w0 a w E hr);obtain⟨s',E',h1,h2⟩:=he
 cases e with
 |normal=>exact⟨s',E',h1,h2⟩
 |_=>exact h1.elim
theorem F6{dn:List (Nat×Nat×Bool×List Nat)}{id:Nat}{ops:Array Oper}{lv:Nat}{S:Sy}{K:Kt}{pg:Pg}(hh:Bf P N ow dn id ops lv S K=some pg){L:Lbl}{ρ:List DV}{σ:List Nat}{Qp:Exit->AS->Prop}
 (hl:lv=L.length) (hr:aO S ρ σ s) (hk:yS P R L ρ Qp K) (hw:W P R pg L ρ):P.follows .mixedOrders=true/\(oN P N ops.toList Qp s\/oN P N ops.toList (cX Qp) s):=by
 unfold Bf at hh;split at hh
 ·rename_i n pr hdn;split at hh
  ·rename_i hc;simp only[Bool.and_eq_true]at hc;obtain⟨kds,xs,qF,S',ρ1,σ1,g,f1,f2,f3,f4,f5⟩:=gS hh hr hr (aN.refl _) hw;split at f3
   ·rename_i ps Q' hs;split at f3
    ·rename_i g' hg';injection f3 with f3;subst f3;obtain⟨ρ2,he,hw2,hp2⟩:=bn (ei f4);obtain⟨s2,r2,k2⟩:=nT hs he f2;have ht:jh P N ops.toList.toArray (ops.toList.drop n) Qp qF:=vV r2 (ek hg' hl k2 (hk.mono (aN.refl _) (f5.trans hp2)) hw2);exact⟨hc.1,.inl λw0 a w E hr=>BX n pr hc.2 f1 ht hr⟩
    ·cases f3
   ·cases f3
  ·cases hh
 ·rename_i n pr F _ hdn;split at hh
  ·rename_i hc;simp only[Bool.and_eq_true]at hc;split at hh
   ·rename_i hnl;obtain⟨kds,xs,qF,S',ρ1,σ1,g,f1,f2,f3,f4,f5⟩:=gS hh hr hr (aN.refl _) hw;split at f3
    ·rename_i ps Q' hs;split at f3
     ·rename_i g' hg';injection f3 with f3;subst f3;obtain⟨ρ2,he,hw2,hp2⟩:=bn (ei f4);obtain⟨s2,r2,k2⟩:=nT hs he f2;have ht:jh P N (aV ops.toList n F).toArray ((aV ops.toList n F).drop n) (cX Qp) qF:=vV r2 (ek hg' hl k2 ((BH hk).mono (aN.refl _) (f5.trans hp2)) hw2);exact⟨hc.1,.inr λw0 a w E hr=>wT n pr F hc.2.1 hnl hc.2.2 f1 ht hr⟩
     ·cases f3
    ·cases f3
   ·split at hh
    ·rename_i hpl;simp only[Bool.and_eq_true,List.all_eq_true]at hpl;obtain⟨kds,xs,qF,S',ρ1,σ1,g,f1,f2,f3,f4,f5⟩:=gS hh hr hr (aN.refl _) hw;split at f3
     ·rename_i hcf;split at f3
      ·rename_i g' hg';injection f3 with f3;subst f3;obtain⟨ρ2,he,hw2,hp2⟩:=bn (ei f4);obtain⟨rfl,hsc⟩:=DE he;have ht:wO P N ((aV ops.toList n F).drop n) (cX Qp) (CF P (qQ ops.toList F)) qF:=vR hsc hg' hl f2 ((BH hk).mono (aN.refl _) f5) hw2
       exact⟨hc.1,.inr λw0 a w E hr=>xe n F hc.2.1 hc.2.2 hpl.1 f1 (CR hcf f2 hsc) (λo ho x hx=>by
        have:=List.all_eq_true.1 (hpl.2 o ho) x hx;simp only[Bool.and_eq_true,Bool.not_eq_true',beq_eq_false_iff_ne,ne_eq]at this
        exact this) ht hr⟩
      ·cases f3
     ·cases f3
    ·cases hh
  ·cases hh
 ·cases hh
def OW(V:List Nat)(Q:Sy):Sy:={Q with ob:=V.map (λi=>(i,SO.dead))++Q.ob}
def Kg(V:List Nat)(Q:Sy)(i:Nat):Bool:=V.contains i||(match aG Q.ob i with|some .dead=>true|none=>true|_=>false)
def JX(Q:Sy)(p:Nat):Bool:=match aG Q.sl p with
 |some (.p false [.ptr i st _])=>(match Q.own i st with|some (.var _ _ _)=>true|_=>false)
 |some (.p false [.elt i st k _ _])=>(match Q.own i st with|some (.row _ _ k' _)=>decide (k'=k)|_=>false)
 |some (.p false [.rd _])=>true
 |_=>false
def KR(Q:Sy)(ps:List Nat):List Nat:=ps.filterMap λp=>match aG Q.sl p with|some (.p false [.ptr i _ _])=>some i|some (.p false [.elt i _ _ _ _])=>some i|_=>none
def MG(Q:Sy):List Nat:=(List.range Q.n).filterMap λi=>match aG Q.ob i with|some (.row _ _ _ x)=>some x|_=>none
theorem JS(V:List Nat)(l:List (Nat×SO))(i:Nat):aG (V.map (λi=>(i,SO.dead))++l) i=if V.contains i then some .dead else aG l i:=by
 induction V with
 |nil=>simp
 |cons v V ih=>
  simp only[List.map_cons,List.cons_append,aG];by_cases h:v=i
  ·subst h;simp
  ·rw[if_neg h,ih];have:(v::V).contains i=V.contains i:=by simp[List.contains_cons,Ne.symm h]
   rw[this]
theorem LZ{V:List Nat}{Q:Sy}{ρ:List DV}{σ:List Nat}{q:AS}(hV:V.all (λi=>decide (i<Q.n))=true)(hr:aO Q ρ σ q):aO (OW V Q) ρ σ (nG (Kg V Q) q):=by
 refine⟨hr.n,hr.c,hr.m,hr.sl,λi x hx=>?_,hr.kn⟩;simp only[OW]at hx;rw[JS]at hx;split at hx
 ·rename_i hv;injection hx with hx;subst hx;have h1:i<Q.n:=by simpa using List.all_eq_true.1 hV i (by simpa using hv)
  exact⟨h1,trivial⟩
 ·rename_i hv;obtain⟨h1,h2⟩:=hr.ob i x hx;refine⟨h1,?_⟩;simp only[nG];split
  ·rename_i hk;unfold Kg at hk;rw[hx]at hk;have hv':V.contains i=false:=by simpa using hv
   rw[hv']at hk;cases x<;>first|trivial|(exact absurd hk (by simp))
  ·exact h2
theorem Ch:∀{ds:List Nat} {ρ ρ':List DV},aq (ds.map .flat) ρ=some ρ'->ρ'=ρ/\∀i∈ds,∃t k es,ρ[i]? =some (.sl t k es)/\jl es.flatten
 |[],ρ,ρ',h=>by simp only[List.map_nil,aq]at h;injection h with h;exact⟨h.symm,by simp⟩
 |i::ds,ρ,ρ',h=>by
  simp only[List.map_cons,aq]at h;split at h
  ·rename_i out ho;simp only[av]at ho;split at ho
   ·rename_i t k es hd;split at ho
    ·rename_i hs;injection ho with ho;subst ho;rw[List.append_nil]at h;obtain⟨e,ih⟩:=Ch h;refine⟨e,λj hj=>?_⟩;rcases List.mem_cons.1 hj with rfl|hj
     ·refine⟨t,k,es,hd,λd hdm=>?_⟩;have:=List.all_eq_true.1 hs d hdm
      cases d with
      |sc v=>exact⟨v,rfl⟩
      |sl=>cases this
     ·exact ih j hj
    ·cases ho
   ·cases ho
  ·cases h
theorem Kk{V:List Nat}{Q:Sy}{ρ:List DV}{σ:List Nat}{q:AS}(hr:aO Q ρ σ q)(hf:∀i∈MG Q,∃t k es,ρ[i]? =some (.sl t k es)/\jl es.flatten):Ql (nG (Kg V Q) q)/\Fi (Kg V Q) q:=by
 refine⟨λi hi st t k es he=>?_,λi hi he=>?_⟩
 ·have hi:i<Q.n:=by rw[<-hr.n];exact hi
  simp only[nG]at he;split at he
  ·cases he
  ·rename_i hk;unfold Kg at hk
   cases hx:aG Q.ob i with
   |none=>rw[hx]at hk;simp at hk
   |some x=>
    obtain⟨-,h2⟩:=hr.ob i x hx;rw[he]at h2
    cases x with
    |row st' t' k' x=>
     obtain⟨_,_,_,_,h3⟩:=h2;obtain⟨t2,k2,es2,h4,h5⟩:=hf x (List.mem_filterMap.2 ⟨i,List.mem_range.2 hi,by rw[hx]⟩);rw[h3]at h4;injection h4 with h4;injection h4 with _ _ h4;subst h4
     exact h5
    |dead=>rw[hx]at hk;simp at hk
    |shr=>cases h2.2.2.2.1
    |_=>exact h2.elim
 ·unfold Kg
  cases hx:aG Q.ob i with
  |none=>simp
  |some x=>
   obtain⟨-,h2⟩:=hr.ob i x hx;rw[he]at h2
   cases x with
   |dead=>simp
   |_=>exact h2.elim
theorem JG{V:List Nat}{Q:Sy}{ρ:List DV}{σ:List Nat}{q:AS}{p:Nat}(hr:aO Q ρ σ q)(h:JX Q p=true)(hV:∀i st off,aG Q.sl p=some (.p false [.ptr i st off])->i∈V)(hV2:∀i st k j off,aG Q.sl p=some (.p false [.elt i st k j off])->i∈V):BU (Kg V Q) q (q.sl p):=by
 unfold JX at h;split at h
 ·rename_i i st off h1;split at h
  ·rename_i a ty cs ho;obtain⟨y,y1,y2⟩:=bg (c:=.ptr i st off) rfl (hr.sl _ _ h1);cases y<;>first|exact y2.elim|skip
   obtain⟨rfl,hst,rfl⟩:=y2;obtain⟨o',k1,k2,k3,k4⟩:=hr.own ho hst;cases o'<;>first|exact k2.elim|skip
   rename_i b2 ty' ys;obtain⟨k5,rfl,k6⟩:=k2;obtain rfl:=aT k1 rfl;rw[y1];exact⟨by unfold Kg;simp[hV _ _ _ h1],(af k1).1,_,_,k1⟩
  ·cases h
 ·rename_i i st k j off h1;split at h
  ·rename_i a ty k' x ho;have h:=of_decide_eq_true h;subst h;obtain⟨y,y1,y2⟩:=bg (c:=.elt i st _ j off) rfl (hr.sl _ _ h1);cases y<;>first|exact y2.elim|skip
   obtain⟨rfl,hst,rfl,-,rfl⟩:=y2;obtain⟨o',k1,k2,k3,k4⟩:=hr.own ho hst;cases o'<;>first|exact k2.elim|skip
   rename_i b2 ty' kk es dp;obtain⟨k5,rfl,rfl,rfl,k6⟩:=k2;obtain rfl:=aT k1 rfl;rw[y1];exact⟨by unfold Kg;simp[hV2 _ _ _ _ _ h1],(af k1).1,_,_,_,k1⟩
  ·cases h
 ·rename_i cs h1;obtain⟨y,y1,y2⟩:=bg (c:=.rd cs) rfl (hr.sl _ _ h1);cases y<;>first|exact y2.elim|skip
  rw[y1];trivial
 ·cases h
def IU(P:Program)(N:Nat)(ow:eK)(n:Nat)(F:List Nat):Dt:=λid ops lv S K=>
 if(P.follows .mixedOrders&&(uG ops.toList n F&&jY (aV ops.toList n F) n))&&((aV ops.toList n F).take n).all (λo=>ST o.op)then
  rC P N ow true (aV ops.toList n F).toArray (λQ=>
   if(CA ops.toList F).all (JX Q)&&(KR Q (CA ops.toList F)).all (λi=>decide (i<Q.n))then
    (match It P N ow (Qu P [] []) ((aV ops.toList n F).drop n) lv (OW (KR Q (CA ops.toList F)) Q) (nK K)with
    |some g=>some (dl (((MG Q).map .flat).map .po) g)|none=>none)else none) ((aV ops.toList n F).take n) S S
 else none
theorem GG{n:Nat}{F:List Nat}{id:Nat}{ops:Array Oper}{lv:Nat}{S:Sy}{K:Kt}{pg:Pg}(hh:IU P N ow n F id ops lv S K=some pg){L:Lbl}{ρ:List DV}{σ:List Nat}{Qp:Exit->AS->Prop}
 (hl:lv=L.length) (hr:aO S ρ σ s) (hk:yS P R L ρ Qp K) (hw:W P R pg L ρ):P.follows .mixedOrders=true/\oN P N ops.toList (cX Qp) s:=by
 unfold IU at hh;split at hh
 ·rename_i hc;simp only[Bool.and_eq_true]at hc;obtain⟨⟨hm,hE,hB⟩,hpl⟩:=hc;obtain⟨kds,xs,qF,S',ρ1,σ1,g,f1,f2,f3,f4,f5⟩:=gS hh hr hr (aN.refl _) hw;split at f3
  ·rename_i hcf;simp only[Bool.and_eq_true]at hcf;split at f3
   ·rename_i g' hg';injection f3 with f3;subst f3;obtain⟨ρ2,he,hw2,hp2⟩:=bn (ei f4);obtain⟨rfl,hfl⟩:=Ch he;obtain⟨n1,n2⟩:=Kk (V:=KR S' (CA ops.toList F)) f2 hfl;have ht:wO P N ((aV ops.toList n F).drop n) (cX Qp) (CF P []) (nG (Kg (KR S' (CA ops.toList F)) S') qF):=vR (by simp) hg' hl (LZ hcf.2 f2) ((BH hk).mono (aN.refl _) f5) hw2;refine⟨hm,λw0 a w E hr=>Cy n F _ hE hB (λo ho=>List.all_eq_true.1 hpl o ho) f1 (λp hp=>JG f2 (List.all_eq_true.1 hcf.1 p hp) (λi st off h1=>List.mem_filterMap.2 ⟨p,hp,by rw[h1]⟩) (λi st k j off h1=>List.mem_filterMap.2 ⟨p,hp,by rw[h1]⟩)) n1 n2 (λw0 a w E hr=>l8 (λa w h=>?_) (λ_ _ _ h=>h) (ht w0 a w E hr)) hr⟩;obtain⟨s',E',_,h2⟩:=h;exact⟨s',E',trivial,h2⟩
   ·cases f3
  ·cases f3
 ·cases hh
def EO(P:Program)(N:Nat)(ow:eK)(dn:List (Nat×Nat×Bool×List Nat)):Dt:=λid ops lv S K=>
 match aG dn id with
 |some (n,_,2000000::F)=>IU P N ow n F id ops lv S K
 |_=>Bf P N ow dn id ops lv S K
theorem yX{dn:List (Nat×Nat×Bool×List Nat)}{id:Nat}{ops:Array Oper}{lv:Nat}{S:Sy}{K:Kt}{pg:Pg}(hh:EO P N ow dn id ops lv S K=some pg){L:Lbl}{ρ:List DV}{σ:List Nat}{Qp:Exit->AS->Prop}
 (hl:lv=L.length) (hr:aO S ρ σ s) (hk:yS P R L ρ Qp K) (hw:W P R pg L ρ):P.follows .mixedOrders=true/\(oN P N ops.toList Qp s\/oN P N ops.toList (cX Qp) s):=by
 unfold EO at hh;split at hh
 ·obtain⟨h1,h2⟩:=GG hh hl hr hk hw;exact⟨h1,.inr h2⟩
 ·exact F6 hh hl hr hk hw
def Ol(π:List Nat)(l:List Oper):List Oper:=π.filterMap λi=>(l[i]?).map (Hb λj=>π.idxOf j)
def Ix(π:List Nat)(l:List Oper):Bool:=decide (π.length=l.length)&&(decide π.Nodup&&(π.all (λi=>decide (i<l.length))&&((List.range l.length).all (λi=>decide (i∈π))&&l.all λo=>o.after.all (λe=>decide (e.on<l.length))&&(match o.guard with|some g=>decide (g.1<l.length)|none=>true))))
theorem Ln{π:List Nat}(h:∀i∈π,i<l.length):∀k:Nat,(Ol π l)[k]? =(π[k]?).bind λi=>(l[i]?).map (Hb λj=>π.idxOf j):=by
 have key:∀(f:Nat->Nat) (r:List Nat),(∀i∈r,i<l.length)->∀k:Nat,(r.filterMap λi=>(l[i]?).map (Hb f))[k]? =(r[k]?).bind λi=>(l[i]?).map (Hb f):=by
  intro f r
  induction r with
  |nil=>intro _ k;rfl
  |cons i r ih=>
   intro hr k;have hi:=hr i (List.mem_cons_self ..);rw[List.filterMap_cons,List.getElem?_eq_getElem hi]
   cases k with
   |zero=>simp[List.getElem?_eq_getElem hi]
   |succ k=>simpa using ih (λj hj=>hr j (List.mem_cons_of_mem _ hj)) k
 exact key _ π h
theorem HA{π:List Nat}(h:Ix π l=true):Pm (λj=>π.idxOf j) l.length l (Ol π l):=by
 unfold Ix at h;simp only[Bool.and_eq_true,decide_eq_true_eq,List.all_eq_true,Array.all_eq_true_iff_forall_mem]at h;obtain⟨h1,h2,h3,h5,h4⟩:=h;have hmem:∀i,i<l.length->i∈π:=λi hi=>h5 i (List.mem_range.2 hi)
 have hg:=Ln h3
 have hlen:(Ol π l).length=l.length:=by
  have:∀k,k<l.length->((Ol π l)[k]?).isSome:=by
   intro k hk;have hkp:k<π.length:=by omega
   have hlt:=h3 _ (List.getElem_mem hkp);rw[hg,List.getElem?_eq_getElem hkp,Option.bind_some,List.getElem?_eq_getElem hlt];rfl
  have hle:(Ol π l).length<=π.length:=List.length_filterMap_le _ _;rcases Nat.lt_or_ge (Ol π l).length l.length with hlt|hge
  ·have:=this _ hlt;rw[List.getElem?_eq_none (Nat.le_refl _)]at this;cases this
  ·omega
 refine⟨rfl,hlen,λi hi=>?_,λi j hi hj he=>?_,λj hj=>?_,λi o ho=>?_,λi o ho=>?_⟩
 ·have:=List.idxOf_lt_length_of_mem (hmem i hi);omega
 ·have e1:=List.getElem_idxOf (List.idxOf_lt_length_of_mem (hmem i hi));have e2:=List.getElem_idxOf (List.idxOf_lt_length_of_mem (hmem j hj));rw[<-e1,<-e2];congr 1
 ·have hjp:j<π.length:=by omega
  refine⟨π[j],h3 _ (List.getElem_mem hjp),?_⟩;exact List.Nodup.idxOf_getElem h2 j hjp
 ·have hi:i<l.length:=(List.getElem?_eq_some_iff.1 ho).1;have hlt:=List.idxOf_lt_length_of_mem (hmem i hi);rw[hg,List.getElem?_eq_getElem hlt,Option.bind_some,List.getElem_idxOf hlt,ho];rfl
 ·have:=h4 o (List.mem_of_getElem? ho);refine⟨λe he=>this.1 e he,λj b hgd=>?_⟩;have h6:=this.2;rw[hgd]at h6;simpa using h6
def Bo(P:Program)(N:Nat)(ow:eK)(dn:List (Nat×Nat×Bool×List Nat)):Dt:=λid ops lv S K=>
 match aG dn id with
 |some (n,pr,1000000::r)=>
  if Ix (r.takeWhile (· <1000000)) ops.toList then EO P N ow [(id,n,pr,(r.dropWhile (· <1000000)).drop 1)] id (Ol (r.takeWhile (· <1000000)) ops.toList).toArray lv S K else none
 |_=>EO P N ow dn id ops lv S K
theorem yq{dn:List (Nat×Nat×Bool×List Nat)}{id:Nat}{ops:Array Oper}{lv:Nat}{S:Sy}{K:Kt}{pg:Pg}(hh:Bo P N ow dn id ops lv S K=some pg){L:Lbl}{ρ:List DV}{σ:List Nat}{Qp:Exit->AS->Prop}
 (hl:lv=L.length) (hr:aO S ρ σ s) (hk:yS P R L ρ Qp K) (hw:W P R pg L ρ):P.follows .mixedOrders=true/\(oN P N ops.toList Qp s\/oN P N ops.toList (cX Qp) s):=by
 unfold Bo at hh;split at hh
 ·split at hh
  ·rename_i hp;obtain⟨hm,h⟩:=yX hh hl hr hk hw;have hpm:=HA hp;rw[List.toList_toArray]at h;exact⟨hm,h.imp (yU hpm) (yU hpm)⟩
  ·cases hh
 ·exact yX hh hl hr hk hw
theorem HB{dn:List (Nat×Nat×Bool×List Nat)}:Qx P R N (Bo P N ow dn):=by
 intro id ops lv S K pg hh L ρ σ s Qp hl hr hk hw;obtain⟨hm,h⟩:=yq hh hl hr hk hw;have e:(Code.region id ops true)=.region id ops.toList.toArray true:=by simp
 rw[e];rcases h with h|h
 ·exact ns hm h
 ·exact GI (ns hm h)
end
end Go.Proofs.Ytngaddcgmnonbaa
namespace Go.Proofs.Ytngaddcgmnonbaa
open Go.RowKit
section
variable {P:Program}{N:Nat}{l:List Oper}{Q:Exit->AS->Prop}{s:AS}{k:Nat}
theorem yV{o:Oper}{a:Act}{w:World}{K:Act->World->Prop}{Q Q':Exit->Act->World->Prop}(hq:∀e a w,e≠.normal->Q e a w->Q' e a w)(h:o.wp P a w K Q):o.wp P a w K Q':=by
 unfold Oper.wp at *;generalize (execOp a.eval o).run P w=r at*
 cases r with
 |ok x w'=>
  cases x with
  |enter f args=>
   rw[Oper.upon_enter]at h ⊢;refine Calls.mono h λe w'' he=>?_
   cases e with
   |returned v=>exact he
   |panicked c=>exact hq _ _ _ nofun he
   |outgrown=>exact he.imp λa h=>h.imp λw h=>hq _ _ _ nofun h
  |_=>exact h
 |halt r w'=>
  cases r with
  |panic v=>exact hq _ _ _ nofun h
  |_=>exact h
theorem CS{ops:Array Oper}{i:Nat}{a:Act}{w:World}{K K':Act->World->Prop}{Q Q':Exit->Act->World->Prop}(hq:∀e a w,Q e a w->Q' e a w)(hK:∀a w,K a w->K' a w)(h:wpOp P ops Q i K a w):wpOp P ops Q' i K' a w:=by
 have h:=wpOp_mono hK h;unfold wpOp at *;split
 ·rename_i ho;rw[ho]at h;exact h
 ·rename_i o ho;simp only[ho]at h;split
  ·rename_i hw;rw[if_pos hw]at h;exact h.imp (yV λe a w _ h=>hq e a w h) λh=>⟨h.1,h.2.imp λa h=>h.imp λw h=>hq _ _ _ h⟩
  ·rename_i hw;rw[if_neg hw]at h;exact h
theorem uj{ops:Array Oper}{Q Q':Exit->Act->World->Prop}(hq:∀e a w,Q e a w->Q' e a w):∀{fuel:Nat} {listed:Array Bool} {a:Act} {w:World},wpAny P .any ops Q fuel listed a w->wpAny P .any ops Q' fuel listed a w
 |0,_,_,_,h=>⟨h.1,hq _ _ _ h.2⟩
 |fuel+1,_,_,_,h=>⟨λe=>hq _ _ _ (h.1 e),λi hi=>CS hq (λ_ _ h=>uj hq h) (h.2 i hi)⟩
structure P8(ops:Array Oper)(k n:Nat):Prop where
 sz:ops.size=n
 kn:k<=n
 lo:∀j,j<k->∀o,ops[j]? =some o->∀e∈o.after,Region.binds .any e=true->e.on<j
 hi:∀j,j<k->∀q o,j<q->ops[q]? =some o->∃e∈o.after,Region.binds .any e=true/\j<=e.on
def SS(l:List Oper)(k:Nat):Bool:=decide (k<=l.length)&&(List.range k).all λj=>(match l[j]? with|some o=>o.after.toList.all (λe=>!Region.binds .any e||decide (e.on<j))|none=>true)&&
 (List.range l.length).all λq=>decide (q<=j)||(match l[q]? with|some o=>o.after.toList.any (λe=>Region.binds .any e&&decide (j<=e.on))|none=>true)
theorem OQ(h:SS l k=true):P8 l.toArray k l.length:=by
 unfold SS at h;simp only[Bool.and_eq_true,decide_eq_true_eq,List.all_eq_true,List.mem_range]at h;obtain⟨h1,h2⟩:=h;refine⟨by simp,h1,λj hj o ho e he hb=>?_,λj hj q o hq ho=>?_⟩
 ·have ho:l[j]? =some o:=by simpa using ho
  have h3:=(h2 j hj).1;rw[ho]at h3;have:=List.all_eq_true.1 h3 e (by simpa using he);simpa[hb]using this
 ·have ho:l[q]? =some o:=by simpa using ho
  have hlt:q<l.length:=(List.getElem?_eq_some_iff.1 ho).1;have h3:=(h2 j hj).2 q hlt;rw[ho]at h3;simp only[Bool.or_eq_true,decide_eq_true_eq,List.any_eq_true,Bool.and_eq_true]at h3;rcases h3 with h3|⟨e,he,hb,hle⟩
  ·omega
  ·exact⟨e,by simpa using he,hb,hle⟩
def FK(n k:Nat)(listed:Array Bool):Prop:=listed.size=n/\∀i,i<n->∀d,listed.getD i d=decide (i<k)
theorem FK.zero{n:Nat}:FK n 0 (Array.replicate n false):=⟨by simp,λi hi d=>by simp[hi]⟩
theorem FK.succ{n j:Nat}{listed:Array Bool}(h:FK n j listed)(hj:j<n):FK n (j+1) (listed.setIfInBounds j true):=by
 refine⟨by simp[h.1],λi hi d=>?_⟩;by_cases e:i=j
 ·subst e;simp[h.1,hj]
 ·have:=h.2 i hi d;simp only[Array.getD_eq_getD_getElem?]at this ⊢;rw[Array.getElem?_setIfInBounds_ne (Ne.symm e),this];have:(i<j+1)=(i<j):=by apply propext;omega
  simp[this]
theorem xi{ops:Array Oper}{n j:Nat}{listed:Array Bool}(hc:P8 ops k n)(hj:j<k)(hl:FK n j listed)(i:Nat):i∈Region.ready .any ops listed↔i=j:=by
 have hkn:=hc.kn;rw[mem_ready];constructor
 ·rintro⟨h1,o,ho,h2⟩;have hi:i<n:=by rw[<-hc.sz];exact(Array.getElem?_eq_some_iff.1 ho).1
  rw[hl.2 i hi]at h1;have hij:¬i<j:=by simpa using h1
  apply Classical.byContradiction;intro hne;obtain⟨e,he,hb,hle⟩:=hc.hi j hj i o (by omega) ho;have:=h2 e he hb;rcases Nat.lt_or_ge e.on n with h3|h3
  ·rw[hl.2 _ h3]at this;have:e.on<j:=by simpa using this
   omega
  ·rw[Array.getD_eq_getD_getElem?,Array.getElem?_eq_none (by rw[hl.1];exact h3)]at this;cases this
 ·rintro rfl;have hi:i<n:=by omega
  refine⟨by rw[hl.2 i hi];simp,?_⟩;have:i<ops.size:=by rw[hc.sz];exact hi
  refine⟨ops[i],Array.getElem?_eq_getElem this,λe he hb=>?_⟩;have:=hc.lo i hj _ (Array.getElem?_eq_getElem this) e he hb;rw[hl.2 _ (by omega)];simpa using this
theorem yO{ops:Array Oper}{n:Nat}{Q1 Q2:Exit->Act->World->Prop}(hc:P8 ops k n)(hq:∀e a w,e≠.normal->¬Q1 e a w)(hN:∀a w,Q1 .normal a w->∀listed,FK n k listed->wpAny P .any ops Q2 (n-k) listed a w):
 ∀(r:List Oper) (j:Nat) (listed:Array Bool) (a:Act) (w:World),j+r.length=k->(∀i,i<r.length->r[i]? =ops[j+i]?)->FK n j listed->wpList P ops Q1 r a w->wpAny P .any ops Q2 (n-j) listed a w
 |[],j,listed,a,w,hj,_,hl,h=>by
  obtain rfl:j=k:=by simpa using hj
  exact hN a w h listed hl
 |o::r,j,listed,a,w,hj,hr,hl,h=>by
  have hkn:=hc.kn;have hjk:j<k:=by simp at hj;omega
  have hoj:ops[j]? =some o:=by have:=hr 0 (by simp);simpa using this.symm
  have next:∀a w,wpList P ops Q1 r a w->wpAny P .any ops Q2 (n-(j+1)) (listed.setIfInBounds j true) a w:=λa w h=>
   yO hc hq hN r (j+1) _ a w (by simp at hj;omega) (λi hi=>by have:=hr (i+1) (by simp;omega);simpa[Nat.add_assoc,Nat.add_comm 1 i]using this) (hl.succ (by omega)) h
  rw[show n-j=(n-(j+1))+1 from by omega];refine⟨λe=>?_,λi hi=>?_⟩
  ·have:=(xi hc hjk hl j).2 rfl;rw[e]at this;cases this
  ·obtain rfl:=(xi hc hjk hl i).1 hi;unfold wpOp;rw[hoj];simp only;simp only[wpList]at h;split
   ·rename_i hw;rw[if_pos hw]at h;rcases h with h|⟨_,a',w',h⟩
    ·exact .inl (yV (λe a w hne he=>absurd he (hq e a w hne)) (Oper.wp_mono next h))
    ·exact absurd h (hq _ _ _ nofun)
   ·rename_i hw;rw[if_neg hw]at h;exact next _ _ h
def lM(v:Option Bool)(kp:Bool)(o:Oper):Oper:=match v with|some b=>{o with op:=.move (.const (.bool b)),guard:=none}|none=>if kp then o else{o with op:=.move (.const (.bool true)),guard:=none,dst:=none}
def d9(val:Nat->Option Bool)(kp:Nat->Bool)(k:Nat)(l:List Oper):List Oper:=(l.take k).mapIdx (λi o=>lM (val i) (kp i) o)++l.drop k
variable {val:Nat->Option Bool}{kp:Nat->Bool}
theorem Dr{v:Option Bool}{b:Bool}{o:Oper}:(lM v b o).after=o.after:=by unfold lM;split<;>(try split)<;>rfl
theorem Cc:(d9 val kp k l).length=l.length:=by unfold d9;simp;omega
theorem vQ{i:Nat}(h:k<=i):(d9 val kp k l)[i]? =l[i]?:=by
 unfold d9;rcases Nat.lt_or_ge k l.length with hl|hl
 ·rw[List.getElem?_append_right (by simp;omega)];simp only[List.length_mapIdx,List.length_take,List.getElem?_drop];congr 1;omega
 ·rw[List.drop_eq_nil_of_le hl,List.append_nil,List.getElem?_eq_none (by simp;omega),List.getElem?_eq_none (by omega)]
theorem Aw{i:Nat}(h:i<k):(d9 val kp k l)[i]? =(l[i]?).map (lM (val i) (kp i)):=by
 unfold d9;rcases Nat.lt_or_ge i l.length with hl|hl
 ·rw[List.getElem?_append_left (by simp;omega),List.getElem?_mapIdx,List.getElem?_take,if_pos h]
 ·rw[List.getElem?_eq_none (by simp;omega),List.getElem?_eq_none hl];rfl
theorem B0{i:Nat}{o:Oper}(h:(d9 val kp k l)[i]? =some o):∃o',l[i]? =some o'/\o.after=o'.after:=by
 rcases Nat.lt_or_ge i k with hi|hi
 ·rw[Aw hi]at h
  cases ho:l[i]? with
  |none=>rw[ho]at h;cases h
  |some o'=>rw[ho]at h;injection h with h;subst h;exact⟨o',rfl,Dr⟩
 ·rw[vQ hi]at h;exact⟨o,h,rfl⟩
theorem Oz(hc:P8 l.toArray k l.length):P8 (d9 val kp k l).toArray k l.length:=by
 refine⟨by simp[Cc],hc.kn,λj hj o ho e he hb=>?_,λj hj q o hq ho=>?_⟩
 ·obtain⟨o',h1,h2⟩:=B0 (by simpa using ho);exact hc.lo j hj o' (by simpa using h1) e (by rw[<-h2];exact he) hb
 ·obtain⟨o',h1,h2⟩:=B0 (by simpa using ho);obtain⟨e,he,r⟩:=hc.hi j hj q o' hq (by simpa using h1);exact⟨e,by rw[h2];exact he,r⟩
theorem nc{t:Array Value}{j:Nat}(h:j<k->(val j).isSome=true):yielded (d9 val kp k l).toArray t j=yielded l.toArray t j:=by
 unfold yielded
 have:((d9 val kp k l).toArray[j]?).bind (·.dst)=(l.toArray[j]?).bind (·.dst):=by
  simp only[List.getElem?_toArray];rcases Nat.lt_or_ge j k with hi|hi
  ·rw[Aw hi];obtain⟨b,hb⟩:=Option.isSome_iff_exists.1 (h hi)
   cases l[j]? with
   |none=>rfl
   |some o=>simp[lM,hb]
  ·rw[vQ hi]
 rw[this]
theorem xh{a:Act}{d:Nat}{v:Value}(h:a.tmps.getD d undef=v):a.put (some d) v=a:=by
 subst h;unfold Act.put
 have:a.tmps.setIfInBounds d (a.tmps.getD d undef)=a.tmps:=by
  apply Array.ext
  ·simp
  ·intro i h1 h2;rw[Array.getElem_setIfInBounds];split
   ·rename_i e;subst e;simp[h2]
   ·rfl
 simp only[this]
def Q9(val:Nat->Option Bool)(k:Nat)(l:List Oper)(a:Act):Prop:=∀g b o,g<k->val g=some b->l[g]? =some o->∀d,o.dst=some d->a.tmps.getD d undef=.bool b
def NQ(P:Program)(a:Act)(w:World)(o:Oper):Prop:=∃u,(execOp a.eval o).run P w=.ok (.value u) w/\a.put o.dst u=a/\((execOp a.eval o).runT P w #[]).2=#[]
theorem Lg{v:Option Bool}{o:Oper}{a:Act}{w:World}(h:∀b d,v=some b->o.dst=some d->a.tmps.getD d undef=.bool b):NQ P a w (lM v false o):=by
 cases v with
 |none=>
  have e:execOp a.eval (lM none false o)=pure (.value (.bool true)):=by simp[lM,execOp];rfl
  exact⟨.bool true,by rw[e];rfl,rfl,by rw[e];rfl⟩
 |some b=>
  have e:execOp a.eval (lM (some b) false o)=pure (.value (.bool b)):=by simp[lM,execOp];rfl
  refine⟨.bool b,by rw[e];rfl,?_,by rw[e];rfl⟩;show a.put o.dst (.bool b)=a
  cases hd:o.dst with
  |none=>rfl
  |some d=>exact xh (h b d rfl hd)
def Uh(P:Program)(val:Nat->Option Bool)(kp:Nat->Bool)(k:Nat)(l:List Oper)(a:Act)(w:World):Prop:=∀g o,g<k->val g=none->kp g=true->l[g]? =some o->
 (Region.wanted o (yielded (d9 val kp k l).toArray a.tmps)=false/\a.put o.dst undef=a)\/(Region.wanted o (yielded (d9 val kp k l).toArray a.tmps)=true/\NQ P a w o)
theorem Mq{Q:Exit->Act->World->Prop}{a:Act}{w:World}(hc:P8 (d9 val kp k l).toArray k l.length)(hv:Q9 val k l a)(hkp:Uh P val kp k l a w):∀(m j:Nat) (listed:Array Bool),j+m=k->FK l.length j listed->wpAny P .any (d9 val kp k l).toArray Q (l.length-j) listed a w->∃listed',FK l.length k listed'/\wpAny P .any (d9 val kp k l).toArray Q (l.length-k) listed' a w
 |0,j,listed,hj,hl,h=>by
  have e:j=k:=by omega
  subst e
  exact⟨listed,hl,h⟩
 |m+1,j,listed,hj,hl,h=>by
  have hkn:=hc.kn;rw[show l.length-j=(l.length-(j+1))+1 from by omega]at h;have h1:=h.2 j ((xi hc (by omega) hl j).2 rfl);refine Mq hc hv hkp m (j+1) _ (by omega) (hl.succ (by omega)) ?_;have hj2:j<l.length:=by omega
  have hol:=List.getElem?_eq_getElem hj2;unfold wpOp at h1;have ho:(d9 val kp k l).toArray[j]? =some (lM (val j) (kp j) l[j]):=by simp only[List.getElem?_toArray];rw[Aw (by omega),hol];rfl
  rw[ho]at h1;simp only at h1
  have hx:(Region.wanted (lM (val j) (kp j) l[j]) (yielded (d9 val kp k l).toArray a.tmps)=false/\a.put (lM (val j) (kp j) l[j]).dst undef=a)\/(Region.wanted (lM (val j) (kp j) l[j]) (yielded (d9 val kp k l).toArray a.tmps)=true/\NQ P a w (lM (val j) (kp j) l[j])):=by
   by_cases hvj:val j=none/\kp j=true
   ·have e:lM (val j) (kp j) l[j]=l[j]:=by rw[hvj.1,hvj.2];rfl
    rw[e];exact hkp j _ (by omega) hvj.1 hvj.2 hol
   ·have e:lM (val j) (kp j) l[j]=lM (val j) false l[j]:=by
     cases hv:val j with
     |some b=>rfl
     |none=>cases hk:kp j with
      |false=>rfl
      |true=>exact absurd ⟨hv,hk⟩ hvj
    rw[e];exact .inr ⟨by unfold Region.wanted lM;cases val j<;>rfl,Lg (λb d e1 e2=>hv j b _ (by omega) e1 hol d e2)⟩
  split at h1
  ·rename_i hw;rcases hx with hx|hx
   ·rw[hx.1]at hw;cases hw
   ·obtain⟨_,v,r1,r2,r3⟩:=hx;rcases h1 with h1|⟨h1,_⟩
    ·unfold Oper.wp at h1;rw[r1,Oper.upon_value,r2]at h1;exact h1
    ·unfold Oper.asks at h1;rw[r3]at h1;exact absurd h1.1 (by simp)
  ·rename_i hw;rcases hx with hx|hx
   ·rw[hx.2]at h1;exact h1
   ·exact absurd hx.1 hw
def Ov(val:Nat->Option Bool)(k:Nat)(l:List Oper):Prop:=∀i o g b,k<=i->l[i]? =some o->o.guard=some (g,b)->g<k->(val g).isSome=true
theorem R7{Q:Exit->Act->World->Prop}(hG:Ov val k l):∀{fuel:Nat} {listed:Array Bool} {a:Act} {w:World},(∀i,i<k->listed.getD i true=true)->wpAny P .any (d9 val kp k l).toArray Q fuel listed a w->wpAny P .any l.toArray Q fuel listed a w:=by
 have hrd:∀listed:Array Bool,(∀i,i<k->listed.getD i true=true)->∀i,i∈Region.ready .any l.toArray listed↔i∈Region.ready .any (d9 val kp k l).toArray listed:=by
  intro listed hl i;rw[mem_ready,mem_ready];rcases Nat.lt_or_ge i k with hi|hi
  ·constructor
   ·rintro⟨h1,_⟩;rw[hl i hi]at h1;cases h1
   ·rintro⟨h1,_⟩;rw[hl i hi]at h1;cases h1
  ·simp only[List.getElem?_toArray];rw[vQ hi]
 have hre:∀listed:Array Bool,(∀i,i<k->listed.getD i true=true)->(Region.ready .any l.toArray listed=[]↔Region.ready .any (d9 val kp k l).toArray listed=[]):=by
  intro listed hl;simp only[List.eq_nil_iff_forall_not_mem,hrd listed hl]
 intro fuel
 induction fuel with
 |zero=>intro listed a w hl h;exact⟨(hre listed hl).2 h.1,h.2⟩
 |succ fuel ih=>
  intro listed a w hl h;refine⟨λe=>h.1 ((hre listed hl).1 e),λi hi=>?_⟩;have hi':=(hrd listed hl i).1 hi;have h1:=h.2 i hi'
  have hki:k<=i:=by
   apply Classical.byContradiction;intro hlt;rw[mem_ready]at hi;rw[hl i (by omega)]at hi;cases hi.1
  have h2:wpOp P (d9 val kp k l).toArray Q i (wpAny P .any l.toArray Q fuel (listed.setIfInBounds i true)) a w:=wpOp_mono (λa w h=>ih (λj hj=>by
   have:=hl j hj;rw[Array.getD_eq_getD_getElem?]at this ⊢;rw[Array.getElem?_setIfInBounds_ne (by omega)]
   exact this) h) h1
  unfold wpOp at h2 ⊢;have e:(d9 val kp k l).toArray[i]? =l.toArray[i]?:=by simp only[List.getElem?_toArray];exact vQ hki
  rw[e]at h2;split
  ·rename_i ho;rw[ho]at h2;exact h2
  ·rename_i o ho;rw[ho]at h2;simp only at h2
   have hw:Region.wanted o (yielded (d9 val kp k l).toArray a.tmps)=Region.wanted o (yielded l.toArray a.tmps):=by
    unfold Region.wanted;split
    ·rfl
    ·rename_i g b hg;rw[nc λhgk=>hG i o g b hki (by simpa using ho) hg hgk]
   rw[hw]at h2;exact h2
theorem Sv{n:Nat}{x y:Array Bool}(hx:FK n k x)(hy:FK n k y):x=y:=by
 apply Array.ext
 ·rw[hx.1,hy.1]
 ·intro i h1 h2;have e1:=hx.2 i (by rw[<-hx.1];exact h1) true;have e2:=hy.2 i (by rw[<-hy.1];exact h2) true;rw[Array.getD_eq_getD_getElem?,Array.getElem?_eq_getElem h1]at e1;rw[Array.getD_eq_getD_getElem?,Array.getElem?_eq_getElem h2]at e2;simp only[Option.getD_some]at e1 e2;rw[e1,e2]
def Jf(N:Nat)(val:Nat->Option Bool)(kp:Nat->Bool)(k:Nat)(l:List Oper)(s:AS):Prop:=(∀g o,g<k->val g=none->kp g=true->l[g]? =some o->(∃g' want b,o.guard=some (g',want)/\g'<k/\val g'=some b/\b≠want/\∃d,o.dst=some d/\s.sl d=.tup [])\/
 ((o.guard=none\/∃g' want,o.guard=some (g',want)/\g'<k/\val g'=some want/\∃o' d',l[g']? =some o'/\o'.dst=some d')/\∃t d i st off X,o.op=.move (.tmp t)/\o.dst=some d/\s.sl t=.p false [.ptr i st off]/\s.sl d=.p false [.ptr i st off]/\s.own? i st=some X))/\(∀g b o d,g<k->val g=some b->l[g]? =some o->o.dst=some d->s.sl d=.p false [.d (.sc (.bool b))])/\Ov val k l
theorem DG(hc:SS l k=true)(h:jh P N l.toArray (l.take k) (λe s'=>e=.normal/\∃val kp,Jf N val kp k l s'/\(oN P N (d9 val kp k l) Q s'\/oN P N (d9 val kp k l) (cX Q) s')) s):oN P N l Q s:=by
 intro w0 a w E hr;have hcp:=OQ hc;have hkn:=hcp.kn
 have h1:=yO (Q2:=AQ w0 N Q) (P:=P) hcp (λe a w hne hq=>by obtain⟨s',E',hq,_⟩:=hq;exact hne hq.1) (λa w hq listed hl=>?_) (l.take k) 0 (Array.replicate l.length false) a w (by simp;omega) (λi hi=>by
  simp only[List.getElem?_toArray,Nat.zero_add]
  rw[List.getElem?_take,if_pos (by simp at hi;omega)]) FK.zero (h w0 a w E hr)
 ·simpa using h1
 ·obtain⟨s',E',⟨_,val,kp,⟨hg0,hg1,hg2⟩,hq⟩,hr'⟩:=hq
  have key:wpAny P .any (d9 val kp k l).toArray (AQ w0 N Q) (l.length-0) (Array.replicate l.length false) a w:=by
   have fin:∀{Q'},(∀e a w,AQ w0 N Q' e a w->AQ w0 N Q e a w)->oN P N (d9 val kp k l) Q' s'->wpAny P .any (d9 val kp k l).toArray (AQ w0 N Q) (l.length-0) (Array.replicate l.length false) a w:=by
    intro Q' hQ h;have:=h w0 a w E' hr';simp only[List.size_toArray,Cc]at this;exact uj hQ this
   rcases hq with hq|hq
   ·exact fin (λ_ _ _ h=>h) hq
   ·refine fin (λe a w h=>?_) hq;obtain⟨s,E,h1,h2⟩:=h
    cases e with
    |normal=>exact⟨s,E,h1,h2⟩
    |_=>exact h1.elim
  have hva:Q9 val k l a:=λg b o hgk hv ho d hd=>by
   have:=hr'.slot d;rw[hg1 g b o d hgk hv ho hd]at this;exact bH this
  have hka:Uh P val kp k l a w:=by
   intro g o hgk h1 h2 ho;rcases hg0 g o hgk h1 h2 ho with⟨g',want,b,e1,e2,e3,e4,d0,e5,e6⟩|⟨e0,t,d,i,st,off,X,e1,e2,e3,e4,e5⟩
   ·left;refine⟨?_,?_⟩
    ·unfold Region.wanted;rw[e1];simp only[beq_eq_false_iff_ne];intro e;rw[nc λ_=>by rw[e3];rfl]at e;unfold yielded at e;simp only[List.getElem?_toArray]at e;split at e
     ·rename_i c hc;injection e with e
      cases ho':l[g']? with
      |none=>rw[ho']at hc;cases hc
      |some o'=>
       rw[ho']at hc
       cases hd:o'.dst with
       |none=>simp[hd]at hc
       |some d=>
        have h3:=hva g' b o' e2 e3 ho' d hd;have h4:a.tmps[d]? =some (.bool c):=by simpa[hd]using hc
        rw[Array.getD_eq_getD_getElem?,h4]at h3;simp at h3;exact e4 (h3.symm.trans e)
     ·cases e
    ·rw[e5];have a1:=hr'.slot d0;rw[e6]at a1;obtain⟨vs,b1,b2,_⟩:=a1;have:vs=[]:=List.length_eq_zero_iff.1 (by simpa using b2.symm);subst this;exact xh b1
   ·right;have a1:=hr'.slot t;have a2:=hr'.slot d;rw[e3]at a1;rw[e4]at a2;obtain⟨g1,b1,b2⟩:=(aA a1).2 (af e5).2.2;obtain⟨g2,b3,b4⟩:=(aA a2).2 (af e5).2.2;rw[b1]at b3;injection b3 with b3;injection b3 with b3;injection b3 with b3;subst b3
    have e:execOp a.eval o=pure (.value (a.tmps.getD d undef)):=by
     have:a.eval (.tmp t)=a.tmps.getD d undef:=by show a.tmps.getD t undef=_;rw[b2,b4]
     simp only[execOp,e1,this]
    exact⟨by
     rcases e0 with e0|⟨g',want,e0,e7,e8,o',d',e9,e10⟩
     ·unfold Region.wanted;rw[e0]
     ·unfold Region.wanted;rw[e0];simp only;rw[nc λ_=>by rw[e8];rfl];have h3:=hva g' want o' e7 e8 e9 d' e10
      have h4:a.tmps[d']? =some (.bool want):=by
       rw[Array.getD_eq_getD_getElem?]at h3
       cases hx:a.tmps[d']? with
       |none=>rw[hx]at h3;cases h3
       |some v=>rw[hx]at h3;simp at h3;rw[h3]
      unfold yielded
      simp[e9,e10,h4],_,by rw[e];rfl,by rw[e2];exact xh rfl,by rw[e];rfl⟩
  obtain⟨listed',l1,l2⟩:=Mq (Oz hcp) hva hka k 0 _ (by omega) FK.zero key;rw[Sv hl l1];refine R7 hg2 (λi hi=>?_) l2;rw[l1.2 i (by omega)];simp[hi]
variable {R:List (Bool×List DV)->Prop}{ow:eK}{ρ:List DV}{σ:List Nat}{S:Sy}{L:Lbl}
def yP:List Nat->Sy->(Sy->Option Pg)->Option Pg
 |[],S,f=>f S
 |d::r,S,f=>(match aG S.sl d with
  |some (.p false [.d i])=>(match aG S.kn i with
   |some _=>yP r S f
   |none=>(match yP r {S with kn:=(i,true)::S.kn} f,yP r {S with kn:=(i,false)::S.kn} f with|some a,some b=>some (.ite i a b)|_,_=>none))
  |_=>none)
theorem rp:∀{ds:List Nat} {S:Sy} {f:Sy->Option Pg} {pg:Pg},yP ds S f=some pg->aO S ρ σ s->W P R pg L ρ->∃S2 pg2,aO S2 ρ σ s/\f S2=some pg2/\W P R pg2 L ρ
 |[],S,f,pg,h,hr,hw=>⟨S,pg,hr,h,hw⟩
 |d::r,S,f,pg,h,hr,hw=>by
  simp only[yP]at h;split at h
  ·split at h
   ·exact rp h hr hw
   ·split at h
    ·rename_i i _ _ a b ha hb;injection h with h;subst h;simp only[W]at hw;split at hw
     ·rename_i c hc
      cases c with
      |true=>exact rp ha (hr.know hc) hw
      |false=>exact rp hb (hr.know hc) hw
     ·exact hw.elim
    ·cases h
  ·cases h
def Gl(S:Sy)(l:List Oper)(g:Nat):Option Bool:=match l[g]? with
 |some o=>(match o.dst with|some d=>(match aG S.sl d with|some (.p false [.d i])=>aG S.kn i|_=>none)|none=>none)
 |none=>none
def K4(S:Sy)(k:Nat)(l:List Oper):Bool:=(List.range l.length).all λi=>decide (i<k)||(match l[i]? with|some o=>(match o.guard with|some (g,_)=>decide (k<=g)||(Gl S l g).isSome|none=>true)|none=>true)
theorem Mm(h:K4 S k l=true):Ov (Gl S l) k l:=by
 intro i o g b hki ho hg hgk;unfold K4 at h;have hlt:i<l.length:=(List.getElem?_eq_some_iff.1 ho).1;have:=List.all_eq_true.1 h i (List.mem_range.2 hlt);rw[ho]at this;simp only[hg,Bool.or_eq_true,decide_eq_true_eq]at this;rcases this with h1|h1|h1
 ·omega
 ·omega
 ·exact h1
def Fm(S:Sy)(o:Oper):Bool:=match o.op,o.dst with
 |.move (.tmp t),some d=>(match aG S.sl t,aG S.sl d with
  |some (.p false [.ptr i st off]),some (.p false [.ptr i' st' off'])=>i==i'&&st==st'&&off==off'&&(S.own i st).isSome
  |_,_=>false)
 |_,_=>false
def H4(S:Sy)(k:Nat)(l:List Oper)(g:Nat):Bool:=match l[g]? with
 |some o=>(match o.guard with
  |some (g',want)=>decide (g'<k)&&(match Gl S l g' with
   |some b=>if b=want then Fm S o&&((l[g']?).bind (·.dst)).isSome else(match o.dst with|some d=>(match aG S.sl d with|some (.tup [])=>true|_=>false)|none=>false)
   |none=>false)
  |none=>Fm S o)
 |none=>false
theorem B5{o:Oper}(hr:aO S ρ σ s)(hk:Fm S o=true):∃t d i st off X,o.op=.move (.tmp t)/\o.dst=some d/\s.sl t=.p false [.ptr i st off]/\s.sl d=.p false [.ptr i st off]/\s.own? i st=some X:=by
 unfold Fm at hk;split at hk
 ·rename_i t d e1 e2;split at hk
  ·rename_i i st off i' st' off' h1 h2;simp only[Bool.and_eq_true,beq_iff_eq]at hk;obtain⟨⟨⟨rfl,rfl⟩,rfl⟩,k4⟩:=hk;obtain⟨so,hso⟩:=Option.isSome_iff_exists.1 k4;obtain⟨c1,c2,c3⟩:=bg (c:=.ptr i st off) rfl (hr.sl _ _ h1);obtain⟨d1,d2,d3⟩:=bg (c:=.ptr i st off) rfl (hr.sl _ _ h2);cases c1<;>first|exact c3.elim|skip
   cases d1<;>first|exact d3.elim|skip
   obtain⟨rfl,f1,rfl⟩:=c3;obtain⟨rfl,f2,rfl⟩:=d3;rw[f1]at f2;injection f2 with f2;subst f2;obtain⟨o',k1,_,_,_⟩:=hr.own hso f1;exact⟨t,d,_,_,_,o',e1,e2,c2,d2,k1⟩
  ·cases hk
 ·cases hk
theorem Jv(h:K4 S k l=true)(hr:aO S ρ σ s):Jf N (Gl S l) (H4 S k l) k l s:=by
 refine⟨λg o hgk hv hk ho=>?_,λg b o d hgk hv ho hd=>?_,Mm h⟩
 ·unfold H4 at hk;rw[ho]at hk;simp only at hk;split at hk
  ·rename_i g' want hg;simp only[Bool.and_eq_true,decide_eq_true_eq]at hk;obtain⟨k1,k2⟩:=hk;split at k2
   ·rename_i b hb;split at k2
    ·rename_i hbw;subst hbw;simp only[Bool.and_eq_true]at k2;obtain⟨q1,q2⟩:=k2;obtain⟨d',hd'⟩:=Option.isSome_iff_exists.1 q2
     cases ho':l[g']? with
     |none=>rw[ho']at hd';cases hd'
     |some o'=>rw[ho']at hd';exact .inr ⟨.inr ⟨g',b,hg,k1,hb,o',d',ho',hd'⟩,B5 hr q1⟩
    ·rename_i hbw;split at k2
     ·rename_i d hd;split at k2
      ·rename_i hs;have h1:=hr.sl _ _ hs;refine .inl ⟨g',want,b,hg,k1,hb,hbw,d,hd,?_⟩
       cases hx:s.sl d with
       |tup xs=>rw[hx]at h1;cases xs with
        |nil=>rfl
        |cons=>exact h1.elim
       |und=>rw[hx]at h1;exact h1.elim
       |p b' ys=>rw[hx]at h1;exact h1.elim
      ·cases k2
     ·cases k2
   ·cases k2
  ·rename_i hg;exact .inr ⟨.inl hg,B5 hr hk⟩
 unfold Gl at hv;rw[ho]at hv;simp only[hd]at hv;split at hv
 ·rename_i i hs;have h1:=hr.sl _ _ hs;have h2:=hr.kn _ _ hv
  cases hx:s.sl d with
  |tup=>rw[hx]at h1;exact h1.elim
  |und=>rw[hx]at h1;exact h1.elim
  |p b' ys=>
   rw[hx]at h1;obtain⟨rfl,h1⟩:=h1
   match ys,h1 with
   |[y],h1=>
    obtain⟨x,rfl,hx2⟩:=nk h1.1;rw[h2]at hx2;injection hx2 with hx2;rw[hx2]
 ·cases hv
def TN(k:Nat)(l:List Oper):List Nat:=((l.drop k).filterMap λo=>match o.guard with|some (g,_)=>if g<k then(l[g]?).bind (·.dst)else none|none=>none).eraseDups
def Tn(k:Nat)(l:List Oper)(S:Sy):List Nat:=((l.take k).filterMap (·.dst)).filter λd=>match aG S.sl d with|some (.p false [.d _])=>true|_=>false
def xC(P:Program)(N:Nat)(ow:eK)(dn:List (Nat×Nat×Bool×List Nat)):Dt:=λid ops lv S K=>
 match aG dn id with
 |some (n,pr,3000000::k::b::r)=>if P.follows .mixedOrders&&SS ops.toList k then
  uL P N ow ops.toList.toArray (ops.toList.take k) lv S (λlv e S'=>match e with
   |.normal=>yP (if b=0 then TN k ops.toList else Tn k ops.toList S') S' λS2=>if K4 S2 k ops.toList then Bo P N ow [(id,n,pr,r)] id (d9 (Gl S2 ops.toList) (H4 S2 k ops.toList) k ops.toList).toArray lv S2 K else none
   |_=>none)else none
 |_=>Bo P N ow dn id ops lv S K
theorem nu{dn:List (Nat×Nat×Bool×List Nat)}:Qx P R N (xC P N ow dn):=by
 intro id ops lv S K pg hh L ρ σ s Qp hl hr hk hw;unfold xC at hh;split at hh
 ·rename_i n pr k b r _;split at hh
  ·rename_i hc;rw[Bool.and_eq_true]at hc;have e:(Code.region id ops true)=.region id ops.toList.toArray true:=by simp
   rw[e];refine ns hc.1 (DG hc.2 (ek (R:=R) (Q:=λe s'=>e=.normal/\∃val kp,Jf N val kp k ops.toList s'/\(oN P N (d9 val kp k ops.toList) Qp s'\/oN P N (d9 val kp k ops.toList) (cX Qp) s')) hh hl hr ?_ hw));intro L' ρ1 hL hp e' S1 pg1 hpg σ1 s1 hr1 hw1
   cases e' with
   |normal=>
    refine⟨rfl,?_⟩;obtain⟨S2,pg2,r2,h2,w2⟩:=rp hpg hr1 hw1;split at h2
    ·rename_i hg;refine⟨_,_,Jv hg r2,?_⟩;have:=(yq h2 rfl r2 (hk.mono hL hp) w2).2
     rwa [List.toList_toArray]at this
    ·cases h2
   |_=>cases hpg
  ·cases hh
 ·exact HB _ _ _ _ _ _ hh _ _ _ _ _ hl hr hk hw
end
end Go.Proofs.Ytngaddcgmnonbaa
namespace Go.Proofs.Ytngaddcgmnonbaa
open Go.RowKit
def gY{α:Type}:List α->List α->List α
 |[],r=>r
 |x::e,r=>gY e (x::r)
inductive UP where
 |po (o:PO) (k:UP)
 |cl (f:FuncId) (a:List (Bool×List Nat)) (sh:Sh) (k:UP)
 |mk (f:FuncId) (b:Bool) (xs:List (Nat×Nat)) (j:Nat) (k:UP)
 |ite (x:Nat) (a b:UP)
 |jump (l:Nat) (xs:List Nat)
 |join (n:Nat) (rest k:UP)
 |loop (xs:List Nat) (body:UP)
 |ret (xs:List (Bool×List Nat))
 |sel (xs:List Nat) (k:UP)
abbrev UP.i(n:Int)(k:UP):UP:=.po (.k (.int .i64 n)) k
abbrev UP.f(k:UP):UP:=.po (.k (.bool false)) k
abbrev UP.t(k:UP):UP:=.po (.k (.bool true)) k
abbrev UP.s(a:Array UInt8)(k:UP):UP:=.po (.k (.string ⟨a⟩)) k
abbrev UP.c(n:Nat)(k:UP):UP:=.po (.sc n) k
abbrev UP.b(o:BinOp)(x y:Nat)(k:UP):UP:=.po (.bin o false x y) k
abbrev UP.e(x y:Nat)(k:UP):UP:=.po (.bin .eql false x y) k
abbrev UP.a(x y:Nat)(k:UP):UP:=.po (.bin .add false x y) k
abbrev UP.z(n:Nat)(k:UP):UP:=.po (.isI n) k
abbrev UP.x(a b c:Nat)(k:UP):UP:=.po (.idx a b c) k
abbrev UP.l(n:Nat)(k:UP):UP:=.po (.lenL n) k
abbrev UP.m(n:Nat)(k:UP):UP:=.po (.lenS n) k
abbrev UP.n(n:Nat)(k:UP):UP:=.po (.un .not n) k
abbrev UP.h(a b:Nat)(k:UP):UP:=.po (.chr a b) k
abbrev UP.r(n:Nat):UP:=.ret [(false,[n])]
abbrev aa(a b:Nat):Nat×SV:=(a,.p false [.d b])
abbrev bh(a b c d:Nat):Nat×SV:=(a,.p false [.ptr b c d])
abbrev co(a b c:Nat):Nat×SV:=(a,.p false [.own b c])
abbrev aP:Sh:=[(false,[none],true)]
abbrev aZ:Sh:=[(true,[some (77,2),none,some (37,5),none],true)]
abbrev bm:Sh:=[(false,[none],true),(false,[some (45,0)],true)]
abbrev cc:Sh:=[(true,[some (77,2),none,some (37,5),none],true),(false,[none],true)]
abbrev qY:Sh:=[(false,[some (37,5)],true)]
abbrev wB:Sh:=[(false,[some (37,5)],true),(false,[none],true)]
abbrev Fr:Sh:=[(false,[some (9,1)],true)]
def V(P:Program)(R:List (Bool×List DV)->Prop):UP->Lbl->List DV->Prop
 |.po o k,L,ρ=>(match av ρ o with|some out=>V P R k L (gY out ρ)|none=>False)
 |.cl f a sh k,L,ρ=>∃ys res,cV ρ a=some ys/\dZ P f ys res/\cM sh res=true/\V P R k L (gY (bP res) ρ)
 |.mk f b xs j k,L,ρ=>∃ds ds' n n',gL ρ (xs.map (·.1))=some ds/\ρ[j]? =some (.sc (.int .i64 n))/\Fg P f b ds n ds' n'/\wd xs ds ds'/\V P R k L (gY (ds'++[.sc (.int .i64 n')]) ρ)
 |.ite x a b,L,ρ=>(match ρ[x]? with|some (.sc (.bool c))=>(match c with|true=>V P R a L ρ|false=>V P R b L ρ)|_=>False)
 |.jump l xs,L,ρ=>∃J vs,L[l]? =some J/\gL ρ xs=some vs/\J vs
 |.join n rest k,L,ρ=>∃J:List DV->Prop,(∀vs,vs.length=n->J vs->V P R rest L (gY vs ρ))/\V P R k (L++[J]) ρ
 |.loop xs body,L,ρ=>∃(I:List DV->Nat->Prop) (m:Nat) (vs:List DV),gL ρ xs=some vs/\I vs m/\∀vs m,vs.length=xs.length->I vs m->V P R body (L++[λvs'=>∃m',m'<m/\I vs' m']) (gY vs ρ)
 |.ret xs,L,ρ=>∃vs,cV ρ xs=some vs/\R vs
 |.sel xs k,L,ρ=>(match gL ρ xs with|some vs=>V P R k L vs|none=>False)
def pos:List Nat->Nat->Option Nat
 |[],_=>none
 |j::r,i=>if j=i then some 0 else(match pos r i with|some p=>some (p+1)|none=>none)
theorem Fk:∀{μ:List Nat} {i p:Nat},pos μ i=some p->μ[p]? =some i
 |[],i,p,h=>by simp[pos]at h
 |j::r,i,p,h=>by
  simp only[pos]at h;split at h
  ·rename_i e;injection h with h;subst e h;rfl
  ·split at h
   ·rename_i q hq;injection h with h;subst h;simpa using Fk hq
   ·cases h
def Al(μ:List Nat)(ρ ρ':List DV):Prop:=∀(p i:Nat),μ[p]? =some i->ρ'[p]? =ρ[i]?
theorem Al.look{μ:List Nat}{ρ ρ':List DV}(h:Al μ ρ ρ'){i p:Nat}(hp:pos μ i=some p):ρ'[p]? =ρ[i]?:=h p i (Fk hp)
theorem Al.one{μ:List Nat}{ρ ρ':List DV}(h:Al μ ρ ρ')(hb:∀i∈μ,i<ρ.length)(x:DV):Al (ρ.length::μ) (ρ++[x]) (x::ρ'):=by
 intro p i hp
 cases p with
 |zero=>simp at hp;subst hp;simp
 |succ p=>
  simp only[List.getElem?_cons_succ]at hp ⊢;have:=hb i (List.mem_of_getElem? hp);rw[h p i hp,List.getElem?_append_left this]
theorem Al.many:∀{e:List DV} {μ:List Nat} {ρ ρ':List DV},Al μ ρ ρ'->(∀i∈μ,i<ρ.length)->Al (gY (cR ρ.length e.length) μ) (ρ++e) (gY e ρ')/\∀i∈gY (cR ρ.length e.length) μ,i<(ρ++e).length
 |[],μ,ρ,ρ',h,hb=>by simpa[gY,cR]using⟨h,hb⟩
 |x::e,μ,ρ,ρ',h,hb=>by
  have h1:=h.one hb x
  have h2:∀i∈ρ.length::μ,i<(ρ++[x]).length:=by
   intro i hi;rcases List.mem_cons.1 hi with rfl|hi
   ·simp
   ·have:=hb i hi;simp;omega
  have:=Al.many (e:=e) h1 h2;simpa[gY,cR]using this
def pO(μ:List Nat):Option Nat->Option (Option Nat)
 |none=>some none
 |some i=>(match pos μ i with|some p=>some (some p)|none=>none)
def pL(μ:List Nat):List Nat->Option (List Nat)
 |[]=>some []
 |i::r=>(match pos μ i,pL μ r with|some p,some q=>some (p::q)|_,_=>none)
def RJ(μ:List Nat):List (List Nat)->Option (List (List Nat))
 |[]=>some []
 |i::r=>(match pL μ i,RJ μ r with|some p,some q=>some (p::q)|_,_=>none)
def pA(μ:List Nat):List (Bool×List Nat)->Option (List (Bool×List Nat))
 |[]=>some []
 |(b,i)::r=>(match pL μ i,pA μ r with|some p,some q=>some ((b,p)::q)|_,_=>none)
section
variable {μ:List Nat}{ρ ρ':List DV}
theorem SA(h:Al μ ρ ρ'){i p:Nat}(hp:pos μ i=some p):gI ρ' p=gI ρ i:=by unfold gI;rw[h.look hp]
theorem sH(h:Al μ ρ ρ'){i p:Option Nat}(hp:pO μ i=some p):vF ρ' p=vF ρ i:=by
 cases i with
 |none=>simp only[pO]at hp;injection hp with hp;subst hp;rfl
 |some i=>
  simp only[pO]at hp;split at hp
  ·rename_i q hq;injection hp with hp;subst hp;simp only[vF,SA h hq]
  ·cases hp
theorem pc(h:Al μ ρ ρ'):∀{is ps:List Nat},pL μ is=some ps->gL ρ' ps=gL ρ is
 |[],ps,hp=>by simp only[pL]at hp;injection hp with hp;subst hp;rfl
 |i::is,ps,hp=>by
  simp only[pL]at hp;split at hp
  ·rename_i p q h1 h2;injection hp with hp;subst hp;simp only[gL,h.look h1,pc h h2]
  ·cases hp
theorem IT(h:Al μ ρ ρ'):∀{is ps:List (List Nat)},RJ μ is=some ps->AH ρ' ps=AH ρ is
 |[],ps,hp=>by simp only[RJ]at hp;injection hp with hp;subst hp;rfl
 |i::is,ps,hp=>by
  simp only[RJ]at hp;split at hp
  ·rename_i p q h1 h2;injection hp with hp;subst hp;simp only[AH,pc h h1,IT h h2]
  ·cases hp
theorem wq(h:Al μ ρ ρ'):∀{is ps:List (Bool×List Nat)},pA μ is=some ps->cV ρ' ps=cV ρ is
 |[],ps,hp=>by simp only[pA]at hp;injection hp with hp;subst hp;rfl
 |(b,i)::is,ps,hp=>by
  simp only[pA]at hp;split at hp
  ·rename_i p q h1 h2;injection hp with hp;subst hp;simp only[cV,pc h h1,wq h h2]
  ·cases hp
end
def Oj(μ:List Nat):PO->Option PO
 |.k v=>some (.k v)
 |.e t k=>some (.e t k)
 |.sc x=>(match pos μ x with|some x=>some (.sc x)|none=>none)
 |.isI x=>(match pos μ x with|some x=>some (.isI x)|none=>none)
 |.flat x=>(match pos μ x with|some x=>some (.flat x)|none=>none)
 |.isL t k x=>(match pos μ x with|some x=>some (.isL t k x)|none=>none)
 |.bin op b x y=>(match pos μ x,pos μ y with|some x,some y=>some (.bin op b x y)|_,_=>none)
 |.un op x=>(match pos μ x with|some x=>some (.un op x)|none=>none)
 |.cvI k x=>(match pos μ x with|some x=>some (.cvI k x)|none=>none)
 |.cvS x=>(match pos μ x with|some x=>some (.cvS x)|none=>none)
 |.cvB x=>(match pos μ x with|some x=>some (.cvB x)|none=>none)
 |.lenS x=>(match pos μ x with|some x=>some (.lenS x)|none=>none)
 |.lenL x=>(match pos μ x with|some x=>some (.lenL x)|none=>none)
 |.chr x i=>(match pos μ x,pos μ i with|some x,some i=>some (.chr x i)|_,_=>none)
 |.idx k x i=>(match pos μ x,pos μ i with|some x,some i=>some (.idx k x i)|_,_=>none)
 |.chk k x i=>(match pos μ x,pos μ i with|some x,some i=>some (.chk k x i)|_,_=>none)
 |.cutS x lo hi=>(match pos μ x,pO μ lo,pO μ hi with|some x,some lo,some hi=>some (.cutS x lo hi)|_,_,_=>none)
 |.cutL k x lo hi=>(match pos μ x,pO μ lo,pO μ hi with|some x,some lo,some hi=>some (.cutL k x lo hi)|_,_,_=>none)
 |.app el k b x y=>(match pos μ x,pos μ y with|some x,some y=>some (.app el k b x y)|_,_=>none)
 |.mk el k rows=>(match RJ μ rows with|some r=>some (.mk el k r)|none=>none)
 |.make el k b z n=>(match pos μ n with|some n=>some (.make el k b z n)|none=>none)
 |.set k x j off vs=>(match pos μ x,pos μ j,pL μ vs with|some x,some j,some vs=>some (.set k x j off vs)|_,_,_=>none)
 |.mm mx x y=>(match pos μ x,pos μ y with|some x,some y=>some (.mm mx x y)|_,_=>none)
 |.eqS neg ks xs ys=>(match pL μ xs,pL μ ys with|some xs,some ys=>some (.eqS neg ks xs ys)|_,_=>none)
 |.cutI x lo hi=>(match pos μ x,pO μ lo,pO μ hi with|some x,some lo,some hi=>some (.cutI x lo hi)|_,_,_=>none)
 |.cutJ z m lo hi=>(match pos μ z,pos μ m,pO μ lo,pO μ hi with|some z,some m,some lo,some hi=>some (.cutJ z m lo hi)|_,_,_,_=>none)
 |.atJ z m i=>(match pos μ z,pos μ m,pos μ i with|some z,some m,some i=>some (.atJ z m i)|_,_,_=>none)
 |.viewD x z m=>(match pos μ x,pos μ z,pos μ m with|some x,some z,some m=>some (.viewD x z m)|_,_,_=>none)
 |.cutP x z m=>(match pos μ x,pos μ z,pos μ m with|some x,some z,some m=>some (.cutP x z m)|_,_,_=>none)
 |.emp x=>(match pos μ x with|some x=>some (.emp x)|none=>none)
 |.unc z n=>(match pos μ z with|some z=>some (.unc z n)|none=>none)
 |.cuS z off v=>(match pos μ z,pos μ v with|some z,some v=>some (.cuS z off v)|_,_=>none)
 |.stop k=>some (.stop k)
 |.cpy k x lo n lo' n'=>(match pos μ x,pos μ lo,pos μ n,pos μ lo',pos μ n' with|some x,some lo,some n,some lo',some n'=>some (.cpy k x lo n lo' n')|_,_,_,_,_=>none)
def KI:PO->Nat
 |.sc _|.isI _|.flat _|.isL _ _ _|.chk _ _ _=>0
 |.idx k _ _=>k
 |.cutI _ _ _|.cutJ _ _ _ _|.cpy _ _ _ _ _ _=>2
 |.unc _ n|.stop n=>n
 |_=>1
theorem Lc{μ:List Nat}{ρ ρ':List DV}(h:Al μ ρ ρ'){o o':PO}(ho:Oj μ o=some o'):av ρ' o'=av ρ o:=by
 cases o<;>simp only[Oj]at ho
 all_goals first
  |(injection ho with ho;subst ho;rfl)
  |(split at ho
    ·injection ho with ho;subst ho;rename_i h1 h2 h3;simp only[av,h.look h1,h.look h2,sH h h2,sH h h3,pc h h3]
    ·cases ho)
  |(split at ho
    ·injection ho with ho;subst ho;rename_i h1 h2 h3;simp only[av,h.look h1,sH h h2,sH h h3]
    ·cases ho)
  |(split at ho
    ·injection ho with ho;subst ho;rename_i h1 h2 h3;simp only[av,h.look h1,h.look h2,pc h h3]
    ·cases ho)
  |(split at ho
    ·injection ho with ho;subst ho;rename_i h1 h2 h3;simp only[av,h.look h1,h.look h2,h.look h3]
    ·cases ho)
  |(split at ho
    ·injection ho with ho;subst ho;rename_i h1 h2 h3 h4;simp only[av,h.look h1,h.look h2,sH h h3,sH h h4]
    ·cases ho)
  |(split at ho
    ·injection ho with ho;subst ho;rename_i h1 h2;simp only[av,h.look h1,h.look h2]
    ·cases ho)
  |(split at ho
    ·injection ho with ho;subst ho;rename_i h1 h2;simp only[av,pc h h1,pc h h2]
    ·cases ho)
  |(split at ho
    ·injection ho with ho;subst ho;rename_i h1;simp only[av,h.look h1]
    ·cases ho)
  |(split at ho
    ·injection ho with ho;subst ho;rename_i h1;simp only[av,IT h h1]
    ·cases ho)
  |(split at ho
    ·injection ho with ho;subst ho;rename_i h1 h2 h3 h4 h5;simp only[av,h.look h1,h.look h2,h.look h3,h.look h4,h.look h5]
    ·cases ho)
theorem Gj{ρ:List DV}{o:PO}{out:List DV}(h:av ρ o=some out):out.length=KI o:=by
 cases o with
 |idx k x i=>obtain⟨t,es,kd,z,h1,h2,h3,h4,h5⟩:=iV h;exact h5
 |unc z n=>
  simp only[av]at h;split at h
  ·split at h
   ·rename_i hl;injection h with h;subst h;simpa[KI]using hl
   ·cases h
  ·cases h
 |_=>
  simp only[av]at h
  repeat' split at h
  all_goals first
   |(injection h with h;subst h;rfl)
   |(cases h;done)
   |(unfold mS at h;split at h<;>first|(injection h with h;subst h;rfl)|cases h)
def wX(i:Nat):Nat:=1 <<< i
def JA:List Nat->Nat
 |[]=>0
 |i::r=>wX i ||| JA r
def SP:Option Nat->Nat
 |none=>0
 |some i=>wX i
def SE:List (List Nat)->Nat
 |[]=>0
 |i::r=>JA i ||| SE r
def SX:List (Bool×List Nat)->Nat
 |[]=>0
 |(_,i)::r=>JA i ||| SX r
def Ut:PO->Nat
 |.k _|.e _ _|.stop _=>0
 |.cpy _ x lo n lo' n'=>wX x ||| (wX lo ||| (wX n ||| (wX lo' ||| wX n')))
 |.sc x|.isI x|.flat x|.isL _ _ x|.un _ x|.cvI _ x|.cvS x|.cvB x|.lenS x|.lenL x|.make _ _ _ _ x|.emp x|.unc x _=>wX x
 |.cuS x _ y=>wX x ||| wX y
 |.bin _ _ x y|.chr x y|.idx _ x y|.chk _ x y|.app _ _ _ x y|.mm _ x y=>wX x ||| wX y
 |.cutS x lo hi|.cutL _ x lo hi|.cutI x lo hi=>wX x ||| (SP lo ||| SP hi)
 |.cutJ z m lo hi=>wX z ||| (wX m ||| (SP lo ||| SP hi))
 |.atJ x y z|.viewD x y z|.cutP x y z=>wX x ||| (wX y ||| wX z)
 |.mk _ _ rows=>SE rows
 |.set _ x j _ vs=>wX x ||| (wX j ||| JA vs)
 |.eqS _ _ xs ys=>JA xs ||| JA ys
def fv:Pg->Nat
 |.nd (.po o) k=>Ut o ||| fv k
 |.nd (.call _ a _) k=>SX a ||| fv k
 |.nd (.mark _ _ xs j) k=>JA (xs.map (·.1)) ||| (wX j ||| fv k)
 |.ite x a b=>wX x ||| (fv a ||| fv b)
 |.jump _ xs=>JA xs
 |.join _ rest k=>fv rest ||| fv k
 |.loop xs body=>JA xs ||| fv body
 |.ret xs=>SX xs
def keep(msk:Nat):List Nat->Nat->List Nat×List Nat
 |[],_=>([],[])
 |i::r,p=>if(msk >>> i) % 2=1 then(p::(keep msk r (p+1)).1,i::(keep msk r (p+1)).2)else keep msk r (p+1)
theorem Ej{msk:Nat}{μ0:List Nat}:∀{μ pre:List Nat},μ0=pre++μ->∀(j:Nat) (i:Nat),(keep msk μ pre.length).2[j]? =some i->∃p,(keep msk μ pre.length).1[j]? =some p/\μ0[p]? =some i
 |[],pre,h,j,i,hi=>by simp[keep]at hi
 |x::μ,pre,h,j,i,hi=>by
  have hr:=Ej (msk:=msk) (μ0:=μ0) (μ:=μ) (pre:=pre++[x]) (by simp[h]);simp only[List.length_append,List.length_singleton]at hr;simp only[keep]at hi ⊢;split
  ·rename_i hm;rw[if_pos hm]at hi
   cases j with
   |zero=>simp at hi;subst hi;exact⟨pre.length,by simp,by rw[h];simp⟩
   |succ j=>simpa using hr j i (by simpa using hi)
  ·rename_i hm;rw[if_neg hm]at hi;exact hr j i hi
def P3(msk:Nat)(μ:List Nat)(f:List Nat->Option UP):Option UP:=
 if(keep msk μ 0).2.length+3<μ.length then(match f (keep msk μ 0).2 with|some k=>some (.sel (keep msk μ 0).1 k)|none=>none)else f μ
def cv:Pg->Nat->List Nat->Option UP
 |.nd (.po o) k,m,μ=>(match Oj μ o,cv k (m+KI o) (gY (cR m (KI o)) μ)with|some o,some k=>some (.po o k)|_,_=>none)
 |.nd (.call f a sh) k,m,μ=>P3 (SX a ||| fv k) μ λμ=>(match pA μ a,cv k (m+dJ sh) (gY (cR m (dJ sh)) μ)with|some a,some k=>some (.cl f a sh k)|_,_=>none)
 |.nd (.mark f b xs j) k,m,μ=>P3 (JA (xs.map (·.1)) ||| (wX j ||| fv k)) μ λμ=>(match pL μ (xs.map (·.1)),pos μ j,cv k (m+(xs.length+1)) (gY (cR m (xs.length+1)) μ)with|some ys,some j,some k=>some (.mk f b (ys.zip (xs.map (·.2))) j k)|_,_,_=>none)
 |.ite x a b,m,μ=>(match pos μ x,cv a m μ,cv b m μ with|some x,some a,some b=>some (.ite x a b)|_,_,_=>none)
 |.jump l xs,m,μ=>(match pL μ xs with|some xs=>some (.jump l xs)|none=>none)
 |.join n rest k,m,μ=>P3 (fv rest ||| fv k) μ λμ=>(match cv rest (m+n) (gY (cR m n) μ),cv k m μ with|some rest,some k=>some (.join n rest k)|_,_=>none)
 |.loop xs body,m,μ=>P3 (JA xs ||| fv body) μ λμ=>(match pL μ xs,cv body (m+xs.length) (gY (cR m xs.length) μ)with|some xs,some body=>some (.loop xs body)|_,_=>none)
 |.ret xs,m,μ=>(match pA μ xs with|some xs=>some (.ret xs)|none=>none)
section
variable {P:Program}{R:List (Bool×List DV)->Prop}
theorem Al.keep{μ:List Nat}{ρ ρ' vs:List DV}{msk:Nat}(h:Al μ ρ ρ')(hb:∀i∈μ,i<ρ.length)(hv:gL ρ' (keep msk μ 0).1=some vs):Al (keep msk μ 0).2 ρ vs/\∀i∈(keep msk μ 0).2,i<ρ.length:=by
 have hk:=Ej (msk:=msk) (μ0:=μ) (μ:=μ) (pre:=[]) rfl;simp only[List.length_nil]at hk;refine⟨λj i hi=>?_,λi hi=>?_⟩
 ·obtain⟨p,h1,h2⟩:=hk j i hi;obtain⟨x,x1,x2⟩:=(E9 hv).at h1;rw[x1,<-h p i h2,x2]
 ·obtain⟨j,hj⟩:=List.getElem?_of_mem hi;obtain⟨p,h1,h2⟩:=hk j i hj;exact hb i (List.mem_of_getElem? h2)
theorem Ar{msk:Nat}{μ:List Nat}{f:List Nat->Option UP}{up:UP}{L:Lbl}{ρ ρ':List DV}{Z:Prop}(h:P3 msk μ f=some up)(ha:Al μ ρ ρ')(hb:∀i∈μ,i<ρ.length)(hv:V P R up L ρ')
 (hk:∀μ up ρ',f μ=some up->Al μ ρ ρ'->(∀i∈μ,i<ρ.length)->V P R up L ρ'->Z):Z:=by
 unfold P3 at h;split at h
 ·split at h
  ·rename_i k hf;injection h with h;subst h;simp only[V]at hv;split at hv
   ·rename_i vs hg;obtain⟨h1,h2⟩:=ha.keep hb hg;exact hk _ _ _ hf h1 h2 hv
   ·exact hv.elim
  ·cases h
 ·exact hk _ _ _ h ha hb hv
theorem CU{μ:List Nat}:∀{is ps:List Nat},pL μ is=some ps->ps.length=is.length
 |[],ps,hp=>by simp only[pL]at hp;injection hp with hp;subst hp;rfl
 |i::is,ps,hp=>by
  simp only[pL]at hp;split at hp
  ·rename_i p q h1 h2;injection hp with hp;subst hp;simp[CU h2]
  ·cases hp
theorem lW:∀{xs ys:List (Nat×Nat)} {ds ds':List DV},xs.map (·.2)=ys.map (·.2)->wd xs ds ds'->wd ys ds ds'
 |[],[],[],[],_,_=>trivial
 |(a,b)::xs,(c,d)::ys,ds,ds',h,hm=>by
  simp only[List.map_cons,List.cons.injEq]at h;obtain⟨rfl,h⟩:=h
  match b,ds,ds',hm with
  |0,d::ds,d'::ds',hm=>exact⟨hm.1,lW h hm.2⟩
  |1,d::ds,d'::ds',hm=>exact⟨hm.1,lW h hm.2⟩
  |2,d::ds,d'::ds',hm=>exact lW (ds:=ds) (ds':=ds') h hm
 |[],_::_,_,_,h,_=>by simp at h
 |_::_,[],_,_,h,_=>by simp at h
theorem rQ:∀{xs:List (Nat×Nat)} {ds ds':List DV},wd xs ds ds'->ds'.length=xs.length
 |[],[],[],_=>rfl
 |(a,0)::xs,d::ds,d'::ds',hm=>by simp[rQ hm.2]
 |(a,1)::xs,d::ds,d'::ds',hm=>by simp[rQ hm.2]
 |(a,2)::xs,d::ds,d'::ds',hm=>by simp[rQ (ds:=ds) (show wd xs ds ds' from hm)]
theorem Bc:∀(pg:Pg) {m:Nat} {μ:List Nat} {up:UP} {L:Lbl} {ρ ρ':List DV},cv pg m μ=some up->m=ρ.length->Al μ ρ ρ'->(∀i∈μ,i<ρ.length)->V P R up L ρ'->W P R pg L ρ:=by
 intro pg
 induction pg with
 |nd n k ih=>
  intro m μ up L ρ ρ' h hm ha hb hv;subst hm
  cases n with
  |po o=>
   simp only[cv]at h;split at h
   ·rename_i o' k' h1 h2;injection h with h;subst h;simp only[V]at hv;rw[Lc ha h1]at hv;simp only[W];split at hv
    ·rename_i out ho
     try rw[ho]
     have hl:=Gj ho;obtain⟨a1,a2⟩:=ha.many (e:=out) hb;rw[hl]at a1 a2;exact ih h2 (by simp[hl]) a1 a2 hv
    ·exact hv.elim
   ·cases h
  |call f a sh=>
   simp only[cv]at h;refine Ar h ha hb hv ?_;intro μ up ρ' h ha hb hv;split at h
   ·rename_i a' k' h1 h2;injection h with h;subst h;simp only[V]at hv;obtain⟨ys,res,v1,v2,v3,v4⟩:=hv;rw[wq ha h1]at v1;simp only[W];have hl:=iJ v3;obtain⟨a1,a2⟩:=ha.many (e:=bP res) hb;rw[hl]at a1 a2;exact⟨ys,res,v1,v2,v3,ih h2 (by simp[hl]) a1 a2 v4⟩
   ·cases h
  |mark f b xs j=>
   simp only[cv]at h;refine Ar h ha hb hv ?_;intro μ up ρ' h ha hb hv;split at h
   ·rename_i ys j' k' h1 h3 h2;injection h with h;subst h;simp only[V]at hv;obtain⟨ds,ds',n,n',v1,v2,v3,v4,v5⟩:=hv;have hyl:=CU h1;rw[List.length_map]at hyl
    have e1:(ys.zip (xs.map (·.2))).map (·.1)=ys:=by rw[List.map_fst_zip (by simp[hyl])]
    have e2:(ys.zip (xs.map (·.2))).map (·.2)=xs.map (·.2):=by rw[List.map_snd_zip (by simp[hyl])]
    rw[e1,pc ha h1]at v1;rw[ha.look h3]at v2;have v4':=lW e2 v4;have hl:=rQ v4';simp only[W];obtain⟨a1,a2⟩:=ha.many (e:=ds'++[.sc (.int .i64 n')]) hb;have hl2:(ds'++[DV.sc (.int .i64 n')]).length=xs.length+1:=by simp[hl]
    rw[hl2]at a1 a2;exact⟨ds,ds',n,n',v1,v2,v3,v4',ih h2 (by rw[List.length_append,hl2]) a1 a2 v5⟩
   ·cases h
 |ite x a b iha ihb=>
  intro m μ up L ρ ρ' h hm ha hb hv;simp only[cv]at h;split at h
  ·rename_i x' a' b' h1 h2 h3;injection h with h;subst h;simp only[V]at hv;simp only[W];rw[ha.look h1]at hv;split at hv
   ·rename_i c hc
    try rw[hc]
    cases c with
    |true=>exact iha h2 hm ha hb hv
    |false=>exact ihb h3 hm ha hb hv
   ·exact hv.elim
  ·cases h
 |jump l xs=>
  intro m μ up L ρ ρ' h hm ha hb hv;simp only[cv]at h;split at h
  ·rename_i ys h1;injection h with h;subst h;simp only[V,pc ha h1]at hv;exact hv
  ·cases h
 |join n rest k ihr ihk=>
  intro m μ up L ρ ρ' h hm ha hb hv;subst hm;simp only[cv]at h;refine Ar h ha hb hv ?_;intro μ up ρ' h ha hb hv;split at h
  ·rename_i r' k' h1 h2;injection h with h;subst h;simp only[V]at hv;obtain⟨J,j1,j2⟩:=hv;refine⟨J,λvs hl hJ=>?_,ihk h2 rfl ha hb j2⟩;obtain⟨a1,a2⟩:=ha.many (e:=vs) hb;rw[hl]at a1 a2;exact ihr h1 (by simp[hl]) a1 a2 (j1 vs hl hJ)
  ·cases h
 |loop xs body ih=>
  intro m μ up L ρ ρ' h hm ha hb hv;subst hm;simp only[cv]at h;refine Ar h ha hb hv ?_;intro μ up ρ' h ha hb hv;split at h
  ·rename_i ys b' h1 h2;injection h with h;subst h;simp only[V]at hv;obtain⟨I,m,vs,v1,v2,v3⟩:=hv;rw[pc ha h1]at v1;refine⟨I,m,vs,v1,v2,λvs m hl hI=>?_⟩;obtain⟨a1,a2⟩:=ha.many (e:=vs) hb;rw[hl]at a1 a2;exact ih h2 (by simp[hl]) a1 a2 (v3 vs m (by rw[hl,CU h1]) hI)
  ·cases h
 |ret xs=>
  intro m μ up L ρ ρ' h hm ha hb hv;simp only[cv]at h;split at h
  ·rename_i ys h1;injection h with h;subst h;simp only[V,wq ha h1]at hv;exact hv
  ·cases h
def ON(P:Program)(N:Nat)(ow:eK)(hs:List aY)(dn:List (Nat×Nat×Bool×List Nat))(c:Code)(sh:List (Bool×Nat))(rvs:List ResultVar)(ty:List (List (Option (Nat×Nat)))):Option UP:=
 match y8 P N ow hs (xC P N ow dn) c 0 (nI sh) (ET P rvs ty)with
 |some pg=>cv pg ((sh.map (·.2)).sum) (gY (cR 0 ((sh.map (·.2)).sum)) [])
 |none=>none
theorem fG(args:List (Bool×List DV)):((si args).map (·.2)).sum=(cn args).length:=by
 induction args with
 |nil=>rfl
 |cons a r ih=>obtain⟨b,ds⟩:=a;simp only[si,List.map_cons,List.sum_cons,cn,List.length_append]at ih ⊢;rw[ih]
theorem HS{ow:eK}{hs:List aY}{dn:List (Nat×Nat×Bool×List Nat)}{f:FuncId}{fn:Func}{c:Code}{args:List (Bool×List DV)}{res:List Rs}{ty:List (List (Option (Nat×Nat)))}{sh:List (Bool×Nat)}{up:UP}{N:Nat}{rvs:List ResultVar}
 (hf:P.funcs[f]? =some fn) (hb:fn.body=some c) (hc:bf P f=true) (hN:fn.ntmps=N) (hrv:fn.results.toList=rvs)
 (hg:ON P N ow hs dn c sh rvs ty=some up) (hl:sh.length<=N) (hsh:si args=sh) (hw:V P (iR res) up [] (gY (cn args) [])):aW P f args res:=by
 subst hN hrv hsh;unfold ON at hg;split at hg
 ·rename_i pg hp;have hlen:args.length<=fn.ntmps:=by simpa[si]using hl
  refine Hu nu hf hb hc hlen rfl hp ?_;rw[fG]at hg;obtain⟨a1,a2⟩:=Al.many (e:=cn args) (μ:=[]) (ρ:=[]) (ρ':=[]) (λp i h=>by simp at h) (by simp);simp only[List.nil_append,List.length_nil]at a1 a2;exact Bc pg hg rfl a1 a2 hw
 ·cases hg
end
section
variable {P:Program}
def He(P:Program)(fn:Func):List (Bool×Nat):=fn.params.toList.map λt=>((pI P t).getD false,(gO P 9 t).length)
def bk(P:Program)(f:FuncId)(fn:Func)(ow:eK)(hs:List aY)(dn:List (Nat×Nat×Bool×List Nat)):Option (List (Bool×Nat)×UP):=
 match fn.body with
 |some c=>if bf P f&&decide (fn.params.toList.length<=fn.ntmps)then(match ON P fn.ntmps ow hs dn c (He P fn) fn.results.toList (fn.resultTypes.toList.map (gO P 9))with|some up=>some (He P fn,up)|none=>none)else none
 |none=>none
theorem ax{ow:eK}{hs:List aY}{dn:List (Nat×Nat×Bool×List Nat)}{f:FuncId}{fn:Func}{args:List (Bool×List DV)}{res:List Rs}{sh:List (Bool×Nat)}{up:UP}
 (hf:P.funcs[f]? =some fn) (hg:bk P f fn ow hs dn=some (sh,up)) (hsh:si args=sh) (hw:V P (iR res) up [] (gY (cn args) [])):aW P f args res:=by
 unfold bk at hg;split at hg
 ·rename_i c hc;split at hg
  ·rename_i hb;rw[Bool.and_eq_true,decide_eq_true_eq]at hb;split at hg
   ·rename_i up' hu;injection hg with hg;injection hg with e1 e2;subst e1 e2;exact HS hf hc hb.1 rfl rfl hu (by simpa[He]using hb.2) hsh hw
   ·cases hg
  ·cases hg
 ·cases hg
end
end Go.Proofs.Ytngaddcgmnonbaa
namespace Go.Proofs.Ytngaddcgmnonbaa
open Go.RowKit
section
variable {P:Program}{ρ ρ':List DV}{σ:List Nat}{S S':Sy}{s s0:AS}{ps:List PO}
def yQ:List (Bool×List SC)->List (List (Option (Nat×Nat)))->Sy->Option (List PO×List (Bool×List Nat))
 |[],_,S=>some ([],[])
 |(b,cs)::r,ty,S=>(match t9 false cs (ty.headD []) S with
  |some (p,xs,S1)=>(match yQ r ty.tail S1 with|some (q,l)=>some (p++q,(b,xs)::l)|none=>none)
  |none=>none)
theorem Ci:∀{xs:List (Bool×List SC)} {ty:List (List (Option (Nat×Nat)))} {l:List (Bool×List Nat)} {S:Sy} {ps:List PO} {ρ ρ':List DV} {rvs:List ResultVar} {ys:List (Bool×List AC)},
 yQ xs ty S=some (ps,l)->aq ps ρ=some ρ'->aO S ρ σ s->P2 P s rvs ys->RT ρ σ xs ys->∃ds,cV ρ' l=some ds/\nF P s rvs (ds.map λd=>(d.1,d.2,false))
 |[],ty,l,S,ps,ρ,ρ',rvs,ys,h,he,hr,hv,ht=>by
  simp only[yQ]at h;injection h with h;injection h with e1 e2;subst e1 e2
  match ys,ht with
  |[],_=>
   cases rvs with
   |nil=>exact⟨[],rfl,trivial⟩
   |cons=>exact hv.elim
 |(b,cs)::r,ty,l,S,ps,ρ,ρ',rvs,ys,h,he,hr,hv,ht=>by
  simp only[yQ]at h;split at h
  ·rename_i p xs S1 h1;split at h
   ·rename_i q l' h2;injection h with h;injection h with e1 e2;subst e1 e2
    match ys,rvs,ht,hv with
    |y::ys,rv::rvs,ht,hv=>
     obtain⟨ρ1,a1,a2⟩:=ac he;obtain⟨ds,g1,g2,-,g3⟩:=eT h1 a1 hr ht.1.2;obtain⟨dss,d1,d2⟩:=Ci h2 a2 g3 hv.2 (RT.mono (ai a1) (aN.refl _) ht.2);refine⟨(b,ds)::dss,by simp only[cV,g1.app_pre (ai a2),d1],?_⟩;simp only[List.map_cons,nF];refine⟨trivial,?_,d2⟩;rw[hv.1];exact⟨ht.1.1,g2 rfl⟩
   ·cases h
  ·cases h
def JN(P:Program)(rvs:List ResultVar)(ty:List (List (Option (Nat×Nat)))):Kt:=λ_ e S=>
 match e with
 |.normal|.ret=>(match td P rvs S with
  |some (p,xs,S1)=>(match yQ xs ty S1 with|some (q,l)=>some (dl ((p++q).map .po) (.ret l))|none=>none)
  |none=>none)
 |_=>none
def Q6(res:List Rs)(vs:List (Bool×List DV)):Prop:=(vs.map λd=>(d.1,d.2,false))=res
theorem H9{rvs:List ResultVar}{ty:List (List (Option (Nat×Nat)))}{res:List Rs}{L:Lbl}:yS P (Q6 res) L ρ (FW P rvs res) (JN P rvs ty):=by
 intro L' ρ1 hL hp e S pg hpg σ s hr hw
 have key:∀p xs S1 q l,td P rvs S=some (p,xs,S1)->yQ xs ty S1=some (q,l)->pg=dl ((p++q).map .po) (.ret l)->nF P s rvs res:=by
  intro p xs S1 q l h1 h2 e;subst e;obtain⟨ρ2,he,hw2,-⟩:=bn (ei hw);simp only[W]at hw2;obtain⟨vs,w1,w2⟩:=hw2;obtain⟨ρ3,a1,a2⟩:=ac he;obtain⟨ys,y1,y2,y3⟩:=qR h1 a1 hr;obtain⟨ds,d1,d2⟩:=Ci (P:=P) h2 a2 y3 y1 y2;rw[w1]at d1;injection d1 with d1;subst d1;rw[w2]at d2;exact d2
 unfold JN at hpg;split at hpg
 ·split at hpg
  ·split at hpg
   ·injection hpg with hpg;exact Or.inr (key _ _ _ _ _ (by assumption) (by assumption) hpg.symm)
   ·cases hpg
  ·cases hpg
 ·split at hpg
  ·split at hpg
   ·injection hpg with hpg;exact Or.inr (key _ _ _ _ _ (by assumption) (by assumption) hpg.symm)
   ·cases hpg
  ·cases hpg
 ·cases hpg
def ME(P:Program)(N:Nat)(ow:eK)(hs:List aY)(dn:List (Nat×Nat×Bool×List Nat))(c:Code)(sh:List (Bool×Nat))(rvs:List ResultVar)(ty:List (List (Option (Nat×Nat)))):Option UP:=
 match y8 P N ow hs (xC P N ow dn) c 0 (nI sh) (JN P rvs ty)with
 |some pg=>cv pg ((sh.map (·.2)).sum) (gY (cR 0 ((sh.map (·.2)).sum)) [])
 |none=>none
def DM(P:Program)(f:FuncId)(fn:Func)(ow:eK)(hs:List aY)(dn:List (Nat×Nat×Bool×List Nat)):Option (List (Bool×Nat)×UP):=
 match fn.body with
 |some c=>if bf P f&&decide (fn.params.toList.length<=fn.ntmps)then(match ME P fn.ntmps ow hs dn c (He P fn) fn.results.toList (fn.resultTypes.toList.map (gO P 9))with|some up=>some (He P fn,up)|none=>none)else none
 |none=>none
theorem Dj{ow:eK}{hs:List aY}{dn:List (Nat×Nat×Bool×List Nat)}{f:FuncId}{fn:Func}{args:List (Bool×List DV)}{res:List Rs}{sh:List (Bool×Nat)}{up:UP}
 (hf:P.funcs[f]? =some fn) (hg:DM P f fn ow hs dn=some (sh,up)) (hsh:si args=sh) (hw:V P (Q6 res) up [] (gY (cn args) [])):aW P f args res:=by
 unfold DM at hg;split at hg
 ·rename_i c hc;split at hg
  ·rename_i hb;rw[Bool.and_eq_true,decide_eq_true_eq]at hb;split at hg
   ·rename_i up' hu;injection hg with hg;injection hg with e1 e2;subst e1 e2;unfold ME at hu;split at hu
    ·rename_i pg hp;rw[<-hsh]at hp hu;have hlen:args.length<=fn.ntmps:=by have:=hb.2;rw[<-show(He P fn).length=fn.params.toList.length from by simp[He],<-hsh]at this;simpa[si]using this
     refine zb hf hc hb.1 hlen (wK (L:=[]) nu c hp rfl (wu args) H9 ?_);rw[fG]at hu;obtain⟨a1,a2⟩:=Al.many (e:=cn args) (μ:=[]) (ρ:=[]) (ρ':=[]) (λp i h=>by simp at h) (by simp);simp only[List.nil_append,List.length_nil]at a1 a2;exact Bc pg hu rfl a1 a2 hw
    ·cases hu
   ·cases hg
  ·cases hg
 ·cases hg
end
section
variable {P:Program}
def Kh(P:Program)(ts:List TypeId):List (Bool×Nat):=ts.map λt=>((pI P t).getD false,(gO P 9 t).length)
end
end Go.Proofs.Ytngaddcgmnonbaa
