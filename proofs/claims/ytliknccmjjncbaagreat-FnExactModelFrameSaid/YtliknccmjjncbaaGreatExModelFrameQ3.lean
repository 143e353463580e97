/- Proved: for every input the law 'FnExactModelFrame' returns true and its arguments read behind the call as before: part 3 of its proof. No condition. -/
import Derived.WalkKit
import Derived.Lib.Hide
import Derived.WalkSpells
import Derived.Laws.OwnMore
import Derived.Deep.AppendLies
import Derived.Deep.Draws
import Derived.Maps.AppendAt
import Derived.RegionTactic
import Derived.OwnWalk
import Derived.Below
import Derived.Laws.AppendOwnNone
import Derived.Deep.QuietTactic
import Derived.BigQuiet
import Derived.StillTailTactics
import Derived.Laws.Cells
import Derived.Laws.IdiomCopy
import Derived.ChangeKeysEq
import Derived.Laws.BytesArg
import Derived.Laws.StructEq
import Derived.Laws.Tables
import Derived.Great.BuildSlice
import Derived.StillTail
import Derived.ArgAppend
import Derived.OrdersHeld
import Derived.Test.YtliknccmjjncbaaGreatProg
import Derived.Test.YtliknccmjjncbaaGreatExModelFrameQ2
set_option linter.unusedVariables false
set_option linter.unusedSimpArgs false
namespace Go.Proofs.YtliknccmjjncbaaGreat
open Go.RowKit
inductive Pg where
 |nd (n:Nd) (k:Pg)
 |ite (x:Nat) (a b:Pg)
 |jump (l:Nat) (xs:List Nat)
 |join (n:Nat) (rest k:Pg)
 |loop (xs:List Nat) (body:Pg)
 |ret (xs:List (Bool×List Nat))
abbrev Lbl:=List (List DV->Prop)
def W(P:Program)(R:List (Bool×List DV)->Prop):Pg->Lbl->List DV->Prop
 |.nd (.po o) k,L,ρ=>(match aG ρ o with|some out=>W P R k L (ρ++out)|none=>False)
 |.nd (.mark f b xs j) k,L,ρ=>∃ds ds' n n',gL ρ (xs.map (·.1))=some ds/\ρ[j]? =some (.sc (.int .i64 n))/\jb P f b ds n ds' n'/\xM xs ds ds'/\W P R k L (ρ++(ds'++[.sc (.int .i64 n')]))
 |.nd (.call f a sh) k,L,ρ=>∃ys res,ca ρ a=some ys/\eC P f ys res/\er sh res=true/\W P R k L (ρ++bW res)
 |.ite x a b,L,ρ=>(match ρ[x]? with|some (.sc (.bool c))=>(match c with|true=>W P R a L ρ|false=>W P R b L ρ)|_=>False)
 |.jump l xs,L,ρ=>∃J vs,L[l]? =some J/\gL ρ xs=some vs/\J vs
 |.join n rest k,L,ρ=>∃J:List DV->Prop,(∀vs,vs.length=n->J vs->W P R rest L (ρ++vs))/\W P R k (L++[J]) ρ
 |.loop xs body,L,ρ=>∃(I:List DV->Nat->Prop) (m:Nat) (vs:List DV),gL ρ xs=some vs/\I vs m/\∀vs m,vs.length=xs.length->I vs m->W P R body (L++[λvs'=>∃m',m'<m/\I vs' m']) (ρ++vs)
 |.ret xs,L,ρ=>∃vs,ca ρ xs=some vs/\R vs
def dq:List Nd->Pg->Pg
 |[],k=>k
 |n::r,k=>.nd n (dq r k)
theorem lV{P:Program}{R:List (Bool×List DV)->Prop}{k:Pg}{L:Lbl}:∀{l:List Nd} {ρ:List DV},W P R (dq l k) L ρ->WN P l (λρ'=>W P R k L ρ'/\aW ρ ρ') ρ:=by
 have key:∀{l:List Nd} {ρ ρ0:List DV},aW ρ0 ρ->W P R (dq l k) L ρ->WN P l (λρ'=>W P R k L ρ'/\aW ρ0 ρ') ρ:=by
  intro l
  induction l with
  |nil=>intro ρ ρ0 hp h;exact⟨h,hp⟩
  |cons n r ih=>
   intro ρ ρ0 hp h
   cases n with
   |po o=>
    simp[dq,W,WN]at h ⊢;split
    ·rename_i out ho;rw[ho]at h;exact ih (hp.trans (aW.app _ _)) h
    grind
   |call f a sh=>
    simp[dq,W,WN]at h ⊢;obtain⟨ys,res,h1,h2,h3,h4⟩:=h
    exact⟨ys,res,h1,h2,h3,ih (hp.trans (aW.app _ _)) h4⟩
   |mark f b xs j=>
    simp[dq,W,WN]at h ⊢;obtain⟨ds,ds',n,n',h1,h2,h3,h4,h5⟩:=h;exact⟨ds,ds',n,n',h1,h2,h3,h4,ih (hp.trans (aW.app _ _)) h5⟩
 simp_all[aW.refl]
section
variable (base:Nat)(π ψ φ:List Nat)
def mD(p i:Nat):Bool:=if p<base then decide (p=i)else decide (π[p-base]? =some i)
def T9:List Nat->List Nat->Bool
 |[],[]=>true
 |p::ps,i::is=>mD base π p i&&T9 ps is
 |_,_=>false
def mC:SC->SC->Bool
 |.d p,.d i=>mD base π p i
 |.nil,.nil=>true
 |.own i st,.own i' st'=>decide (φ[i]? =some i'/\ψ[st]? =some st')
 |.ptr i st off,.ptr i' st' off'=>decide (φ[i]? =some i'/\ψ[st]? =some st'/\off'=off)
 |.elt i st k j off,.elt i' st' k' j' off'=>decide (φ[i]? =some i'/\ψ[st]? =some st'/\k'=k/\off'=off)&&mD base π j j'
 |.sub i st k z m,.sub i' st' k' z' m'=>decide (φ[i]? =some i'/\ψ[st]? =some st'/\k'=k)&&(mD base π z z'&&mD base π m m')
 |.emp,.emp=>true
 |.rd ps,.rd is=>T9 base π ps is
 |.fn f ps,.fn f2 is=>decide (f=f2)&&T9 base π ps is
 |_,_=>false
def PC:List SC->List SC->Bool
 |[],[]=>true
 |x::xs,y::ys=>mC base π ψ φ x y&&PC xs ys
 |_,_=>false
def mT:List (Bool×List SC)->List (Bool×List SC)->Bool
 |[],[]=>true
 |x::xs,y::ys=>decide (x.1=y.1)&&(PC base π ψ φ x.2 y.2&&mT xs ys)
 |_,_=>false
def mV:SV->SV->Bool
 |.p b cs,.p b' cs'=>decide (b=b')&&PC base π ψ φ cs cs'
 |.tup xs,.tup ys=>mT base π ψ φ xs ys
 |_,_=>false
def mH:Option (Nat×Nat×Nat×Nat)->Option (Nat×Nat×Nat×Nat)->Bool
 |none,none=>true
 |some (j,off,n,sn),some (j',off',n',sn')=>decide (φ[n]? =some n'/\ψ[sn]? =some sn'/\off=off')&&mD base π j j'
 |_,_=>false
def mO:SO->SO->Bool
 |.var st t cs,.var st' t' cs'=>decide (ψ[st]? =some st'/\t=t')&&PC base π ψ φ cs cs'
 |.row st t k x,.row st' t' k' x'=>decide (ψ[st]? =some st'/\t=t'/\k=k')&&mD base π x x'
 |.frz st x,.frz st' x'=>decide (ψ[st]? =some st')&&mD base π x x'
 |.dx st x,.dx st' x'=>decide (ψ[st]? =some st')&&mD base π x x'
 |.cur st id t z,.cur st' id' t' z'=>decide (ψ[st]? =some st'/\id=id'/\t=t')&&mD base π z z'
 |.pvr st t cs,.pvr st' t' cs'=>decide (ψ[st]? =some st'/\t=t')&&PC base π ψ φ cs cs'
 |.shr st t k x,.shr st' t' k' x'=>decide (ψ[st]? =some st'/\t=t'/\k=k')&&mD base π x x'
 |.opn st k x q,.opn st' k' x' q'=>decide (ψ[st]? =some st'/\k=k')&&(mD base π x x'&&mH base π ψ φ q q')
 |_,_=>false
def Ud(H S:Sy):Bool:=
 (H.sl.all λp=>match aS S.sl p.1 with|some v=>mV base π ψ φ p.2 v|none=>false)&&
 ((H.ob.all λp=>decide (p.1<H.n)&&(match p.2 with|.dead=>true|o=>match φ[p.1]? with|some i=>(match aS S.ob i with|some o'=>mO base π ψ φ o o'|none=>false)|none=>false))&&
 ((H.kn.all λp=>decide (p.1<base/\aS S.kn p.1=some p.2))&&
 (decide (φ.length=H.n/\φ.Nodup/\ψ.length=H.c/\H.m=base+π.length)&&φ.all λi=>decide (i<S.n))))
end
section
variable {base:Nat}{π ψ φ:List Nat}{ρ ρ' vs:List DV}{σ:List Nat}{H S:Sy}{s:AS}
def fφ(φ:List Nat)(i:Nat):Nat:=(φ[i]?).getD 0
def sψ(ψ σ:List Nat):List Nat:=ψ.map λst=>(σ[st]?).getD 0
theorem fL{st st' x:Nat}(h:ψ[st]? =some st')(hx:σ[st']? =some x):(sψ ψ σ)[st]? =some x:=by
 grind[sψ]
theorem py{i i':Nat}(h:φ[i]? =some i'):fφ φ i=i':=by grind[fφ]
structure EO(base:Nat)(π:List Nat)(ρ ρ' vs:List DV):Prop where
 len:ρ.length=base
 pre:aW ρ ρ'
 vs:RD ρ' π vs
theorem RD.at:∀{xs:List Nat} {ds:List DV} {i j:Nat},RD ρ xs ds->xs[i]? =some j->∃x,ds[i]? =some x/\ρ[j]? =some x
 |x::xs,d::ds,0,j,h,hi=>by simp at hi;subst hi;exact⟨d,rfl,h.1⟩
 |x::xs,d::ds,i+1,j,h,hi=>by obtain⟨y,h1,h2⟩:=RD.at (i:=i) h.2 (by simpa using hi);grind
 |[],[],i,j,h,hi=>by grind
 |[],_::_,_,_,h,_=>h.elim
 |_::_,[],_,_,h,_=>h.elim
theorem nC(M:EO base π ρ ρ' vs){p i:Nat}{x:DV}(h:mD base π p i=true)(hx:ρ'[i]? =some x):(ρ++vs)[p]? =some x:=by
 unfold mD at h;split at h
 ·rename_i hp;obtain rfl:=of_decide_eq_true h;obtain⟨e,rfl⟩:=M.pre;rw[List.getElem?_append_left (by rw[M.len];exact hp)]at hx ⊢;exact hx
 ·rename_i hp;obtain⟨y,y1,y2⟩:=M.vs.at (of_decide_eq_true h);rw[hx]at y2;cases y2;rw[List.getElem?_append_right (by rw[M.len];omega),M.len];exact y1
theorem G0(M:EO base π ρ ρ' vs):∀{ps is:List Nat} {xs:List DV},T9 base π ps is=true->RD ρ' is xs->RD (ρ++vs) ps xs
 |[],[],[],_,_=>trivial
 |p::ps,i::is,x::xs,h,hx=>by
  simp[T9,Bool.and_eq_true]at h
  exact⟨nC M h.1 hx.1,G0 M h.2 hx.2⟩
 |[],[],_::_,_,hx=>hx.elim
 |_::_,_::_,[],_,hx=>hx.elim
 |[],_::_,_,h,_=>by grind[T9]
 |_::_,[],_,h,_=>by grind[T9]
theorem W6(M:EO base π ρ ρ' vs){c c':SC}{y:AC}(h:mC base π ψ φ c c'=true)(hy:RC ρ' σ c' y):∃z,RC (ρ++vs) (sψ ψ σ) c z/\sD (fφ φ) z=y:=by
 cases c<;>cases c'<;>first|(simp[mC]at h;done)|skip
 ·obtain⟨x,rfl,hx⟩:=sy hy;exact⟨.d x,nC M h hx,rfl⟩
 ·cases y<;>first|exact hy.elim|exact⟨.nil,trivial,rfl⟩
 ·cases y<;>first|exact hy.elim|skip
  rename_i i st i' st' a b;simp[mC,decide_eq_true_eq]at h;obtain⟨rfl,h1⟩:=hy;exact⟨.own i b,⟨rfl,fL h.2 h1⟩,by grind[sD,py]⟩
 ·cases y<;>first|exact hy.elim|skip
  rename_i i st off i' st' off' a b d;simp[mC,decide_eq_true_eq]at h;obtain⟨rfl,h1,rfl⟩:=hy;obtain⟨g1,g2,rfl⟩:=h;exact⟨.ptr i b d,⟨rfl,fL g2 h1,rfl⟩,by grind[sD,py]⟩
 ·cases y<;>first|exact hy.elim|skip
  rename_i i st k j off i' st' k' j' off' a b kk jj d;simp[mC,Bool.and_eq_true,decide_eq_true_eq]at h;obtain⟨rfl,h1,rfl,⟨kd,z,z1,z2,rfl⟩,rfl⟩:=hy;obtain⟨⟨g1,g2,rfl,rfl⟩,g3⟩:=h;exact⟨.elt i b kk z.toNat d,⟨rfl,fL g2 h1,rfl,⟨kd,z,nC M g3 z1,z2,rfl⟩,rfl⟩,by grind[sD,py]⟩
 ·cases y<;>first|exact hy.elim|skip
  exact⟨.rd _,G0 M h hy,rfl⟩
 ·cases y<;>first|exact hy.elim|skip
  simp[mC,Bool.and_eq_true,decide_eq_true_eq]at h;exact⟨.fn _ _,⟨hy.1.trans h.1.symm,G0 M h.2 hy.2⟩,rfl⟩
 ·cases y<;>first|exact hy.elim|skip
  rename_i i st k z m i' st' k' z' m' a b kk lo n;simp[mC,Bool.and_eq_true,decide_eq_true_eq]at h;obtain⟨rfl,h1,rfl,⟨u,u1,u2,rfl⟩,⟨v,v1,v2,rfl⟩⟩:=hy;obtain⟨⟨g1,g2,rfl⟩,g3,g4⟩:=h;exact⟨.sub i b kk u.toNat v.toNat,⟨rfl,fL g2 h1,rfl,⟨u,nC M g3 u1,u2,rfl⟩,⟨v,nC M g4 v1,v2,rfl⟩⟩,by grind[sD,py]⟩
 ·cases y<;>first|exact hy.elim|exact⟨.emp,trivial,rfl⟩
theorem AK(M:EO base π ρ ρ' vs):∀{cs cs':List SC} {ys:List AC},PC base π ψ φ cs cs'=true->cm ρ' σ cs' ys->∃zs,cm (ρ++vs) (sψ ψ σ) cs zs/\zs.map (sD (fφ φ))=ys
 |[],[],[],_,_=>⟨[],trivial,rfl⟩
 |c::cs,c'::cs',y::ys,h,hy=>by
  simp[PC,Bool.and_eq_true]at h;obtain⟨z,z1,z2⟩:=W6 M h.1 hy.1;obtain⟨zs,w1,w2⟩:=AK M h.2 hy.2
  exact⟨z::zs,⟨z1,w1⟩,by grind⟩
 |[],[],_::_,_,hy=>hy.elim
 |_::_,_::_,[],_,hy=>hy.elim
 |[],_::_,_,h,_=>by grind[PC]
 |_::_,[],_,h,_=>by grind[PC]
theorem R2(M:EO base π ρ ρ' vs):∀{xs xs':List (Bool×List SC)} {ys:List (Bool×List AC)},mT base π ψ φ xs xs'=true->RT ρ' σ xs' ys->∃zs,RT (ρ++vs) (sψ ψ σ) xs zs/\(zs.map λx=>(x.1,x.2.map (sD (fφ φ))))=ys
 |[],[],[],_,_=>⟨[],trivial,rfl⟩
 |x::xs,x'::xs',y::ys,h,hy=>by
  simp[mT,Bool.and_eq_true,decide_eq_true_eq]at h;obtain⟨z,z1,z2⟩:=AK M h.2.1 hy.1.2;obtain⟨zs,w1,w2⟩:=R2 M h.2.2 hy.2;refine⟨(x.1,z)::zs,⟨⟨rfl,z1⟩,w1⟩,?_⟩
  simp[List.map_cons,z2,w2,h.1,<-hy.1.1]
 |[],[],_::_,_,hy=>hy.elim
 |_::_,_::_,[],_,hy=>hy.elim
 |[],_::_,_,h,_=>by grind[mT]
 |_::_,[],_,h,_=>by grind[mT]
theorem W1(M:EO base π ρ ρ' vs){v v':SV}{y:AV}(h:mV base π ψ φ v v'=true)(hy:RV ρ' σ v' y):∃z,RV (ρ++vs) (sψ ψ σ) v z/\K4 (fφ φ) z=y:=by
 cases v<;>cases v'<;>first|(simp[mV]at h;done)|skip
 ·cases y<;>first|exact hy.elim|skip
  simp[mV,Bool.and_eq_true,decide_eq_true_eq]at h;obtain⟨rfl,h1⟩:=hy;obtain⟨zs,z1,z2⟩:=AK M h.2 h1;obtain⟨rfl,-⟩:=h;exact⟨.p _ zs,⟨rfl,z1⟩,by grind[K4]⟩
 ·cases y<;>first|exact hy.elim|skip
  obtain⟨zs,z1,z2⟩:=R2 M h hy;exact⟨.tup zs,z1,by grind[K4]⟩
theorem XM(M:EO base π ρ ρ' vs){q q' y:Option (Nat×Nat×Nat×Nat)}(h:mH base π ψ φ q q'=true)(hy:RH ρ' σ q' y):∃z,RH (ρ++vs) (sψ ψ σ) q z/\(z.map λq=>(q.1,q.2.1,fφ φ q.2.2.1,q.2.2.2))=y:=by
 cases q<;>cases q'<;>first|(simp[mH]at h;done)|skip
 ·cases y<;>first|exact hy.elim|exact⟨none,trivial,rfl⟩
 ·cases y<;>first|exact hy.elim|skip
  rename_i q q' y;obtain⟨j,off,n,sn⟩:=q;obtain⟨j',off',n',sn'⟩:=q';obtain⟨a,b,c,d⟩:=y;simp[mH,Bool.and_eq_true,decide_eq_true_eq]at h;obtain⟨⟨kd,z,z1,z2,rfl⟩,rfl,rfl,h3⟩:=hy;obtain⟨⟨g1,g2,rfl⟩,g3⟩:=h;exact⟨some (z.toNat,_,n,d),⟨⟨kd,z,nC M g3 z1,z2,rfl⟩,rfl,rfl,fL g2 h3⟩,by grind[py]⟩
theorem V1(M:EO base π ρ ρ' vs){o o':SO}{y:Ob}(h:mO base π ψ φ o o'=true)(hy:RO ρ' σ o' y):∃z,RO (ρ++vs) (sψ ψ σ) o z/\Fo (fφ φ) z=y:=by
 cases o<;>cases o'<;>first|(simp[mO]at h;done)|skip
 ·cases y<;>first|exact hy.elim|skip
  simp[mO,Bool.and_eq_true,decide_eq_true_eq]at h;obtain⟨h1,rfl,h2⟩:=hy;obtain⟨⟨g1,rfl⟩,g2⟩:=h;obtain⟨zs,z1,z2⟩:=AK M g2 h2;exact⟨.var _ _ zs,⟨fL g1 h1,rfl,z1⟩,by grind[Fo]⟩
 ·cases y<;>first|exact hy.elim|skip
  simp[mO,Bool.and_eq_true,decide_eq_true_eq]at h;obtain⟨h1,rfl,rfl,rfl,h2⟩:=hy;obtain⟨⟨g1,rfl,rfl⟩,g2⟩:=h;exact⟨.row _ _ _ _ true,⟨fL g1 h1,rfl,rfl,rfl,nC M g2 h2⟩,rfl⟩
 ·cases y<;>first|exact hy.elim|skip
  simp[mO,Bool.and_eq_true,decide_eq_true_eq]at h;obtain⟨h1,h2⟩:=hy;exact⟨.frz _ _,⟨fL h.1 h1,nC M h.2 h2⟩,rfl⟩
 ·cases y<;>first|exact hy.elim|skip
  simp[mO,Bool.and_eq_true,decide_eq_true_eq]at h;obtain⟨h1,h2⟩:=hy;exact⟨.dx _ _,⟨fL h.1 h1,nC M h.2 h2⟩,rfl⟩
 ·cases y<;>first|exact hy.elim|skip
  simp[mO,Bool.and_eq_true,decide_eq_true_eq]at h;obtain⟨h1,rfl,rfl,h2⟩:=hy;obtain⟨⟨g1,rfl,rfl⟩,g2⟩:=h;exact⟨.cur _ _ _ _ _,⟨fL g1 h1,rfl,rfl,nC M g2 h2⟩,rfl⟩
 ·cases y<;>first|exact hy.elim|skip
  simp[mO,Bool.and_eq_true,decide_eq_true_eq]at h;obtain⟨h1,rfl,h2,h3⟩:=hy;obtain⟨⟨g1,rfl⟩,g2,g3⟩:=h;obtain⟨z,z1,z2⟩:=XM M g3 h3;exact⟨.opn _ _ _ _ z,⟨fL g1 h1,rfl,nC M g2 h2,z1⟩,by grind[Fo]⟩
 ·cases y<;>first|exact hy.elim|skip
  simp[mO,Bool.and_eq_true,decide_eq_true_eq]at h;obtain⟨h1,rfl,h2⟩:=hy;obtain⟨⟨g1,rfl⟩,g2⟩:=h;obtain⟨zs,z1,z2⟩:=AK M g2 h2;exact⟨.pvr _ _ zs,⟨fL g1 h1,rfl,z1⟩,by grind[Fo]⟩
 ·cases y<;>first|exact hy.elim|skip
  simp[mO,Bool.and_eq_true,decide_eq_true_eq]at h;obtain⟨h1,rfl,rfl,rfl,h2⟩:=hy;obtain⟨⟨g1,rfl,rfl⟩,g2⟩:=h;exact⟨.row _ _ _ _ false,⟨fL g1 h1,rfl,rfl,rfl,nC M g2 h2⟩,rfl⟩
theorem p7{α:Type}:∀{l:List (Nat×α)} {i:Nat} {x:α},aS l i=some x->(i,x)∈l
 |(j,y)::r,i,x,h=>by
  simp[aS]at h;split at h
  ·grind
  ·exact List.mem_cons_of_mem _ (p7 h)
 |[],i,x,h=>by grind[aS]
theorem QI(h:Ud base π ψ φ H S=true)(hr:aV S ρ' σ s)(M:EO base π ρ ρ' vs):∃s',Re s s'/\aV H (ρ++vs) (sψ ψ σ) s':=by
 simp only[Ud,Bool.and_eq_true,decide_eq_true_eq]at h;obtain⟨h1,h2,h3,⟨h4,h5,h6,h7⟩,h8⟩:=h
 have hsl:∀t,∃y:AV,(∀v,aS H.sl t=some v->RV (ρ++vs) (sψ ψ σ) v y/\K4 (fφ φ) y=s.sl t)/\(aS H.sl t=none->y=.und):=by
  intro t
  cases ht:aS H.sl t with
  |none=>grind
  |some v=>
   have:=List.all_eq_true.1 h1 _ (p7 ht);simp only at this;split at this
   ·rename_i v' hv';obtain⟨z,z1,z2⟩:=W1 M this (hr.sl t v' hv');exact⟨z,λw hw=>by grind,by simp⟩
   grind
 have hob:∀i,∃y:Ob,(∀o,aS H.ob i=some o->i<H.n/\RO (ρ++vs) (sψ ψ σ) o y)/\(y=.dead\/Fo (fφ φ) y=s.ob (fφ φ i)):=by
  intro i
  cases hi:aS H.ob i with
  |none=>grind
  |some o=>
   have:=List.all_eq_true.1 h2 _ (p7 hi);simp[Bool.and_eq_true,decide_eq_true_eq]at this;obtain⟨hlt,this⟩:=this;split at this
   ·exact⟨.dead,λw hw=>by grind[RO],.inl rfl⟩
   ·split at this
    ·rename_i i' hi';split at this
     ·rename_i o' ho';obtain⟨z,z1,z2⟩:=V1 M this (hr.ob i' o' ho').2
      grind[py]
     grind
    grind
 obtain⟨f,hf⟩:=Classical.axiomOfChoice hsl;obtain⟨g,hg⟩:=Classical.axiomOfChoice hob;have hφ:∀i,i<H.n->∃i',φ[i]? =some i':=λi hi=>⟨_,List.getElem?_eq_getElem (by omega)⟩
 refine⟨⟨f,g,H.n,s.c⟩,Re.reindex (φ:=fφ φ) ?_ ?_ (Nat.le_refl _) (λi hi=>(hg i).2) (λt=>?_),rfl,?_,?_,λt v hv=>((hf t).1 v hv).1,λi o ho=>(hg i).1 o ho,λi b hb=>?_⟩
 ·intro i hi;obtain⟨i',hi'⟩:=hφ i hi;rw[py hi',hr.n];exact of_decide_eq_true (List.all_eq_true.1 h8 i' (List.mem_of_getElem? hi'))
 ·grind[py,List.getElem?_inj]
 ·cases ht:aS H.sl t with
  |none=>grind
  |some v=>grind
 ·grind[sψ]
 ·rw[h7,List.length_append,M.len,<-M.vs.len]
 ·have:=List.all_eq_true.1 h3 _ (p7 hb);simp[decide_eq_true_eq]at this;have hk:=hr.kn i b this.2;obtain⟨e,rfl⟩:=M.pre;rw[List.getElem?_append_left (by rw[M.len];exact this.1)]at hk ⊢;exact hk
end
end Go.Proofs.YtliknccmjjncbaaGreat
namespace Go.Proofs.YtliknccmjjncbaaGreat
open Go.RowKit
section
variable {P:Program}{N:Nat}{o:Oper}{ρ ρ':List DV}{σ σ':List Nat}{S S':Sy}{s s':AS}{K:List DV->Prop}{dq:List Nd}
def WC(S:Sy):Operand->Sy
 |.tmp t=>(match aS S.sl t with
  |some (.p false [.ptr i st 0])=>(match S.own i st with
   |some (.var _ _ [.d x])=>{S with ob:=(i,.dead)::S.ob,sl:=(t,.p false [.rd [x]])::S.sl}
   |_=>S)
  |_=>S)
 |_=>S
theorem VD{x:Operand}(hr:aV S ρ σ s):∃s',Fz s s'/\aV (WC S x) ρ σ s':=by
 have hid:∃s',Fz s s'/\aV S ρ σ s':=⟨s,λ_ _ _ _ E h=>⟨E,h⟩,hr⟩;unfold WC;split
 ·rename_i t;split
  ·rename_i i st hx;split
   ·rename_i a T y ho;obtain⟨z,z1,z2⟩:=bk (c:=.ptr i st 0) rfl (hr.sl _ _ hx);cases z<;>first|exact z2.elim|skip
    rename_i i' st' off';obtain⟨rfl,hst,rfl⟩:=z2;obtain⟨o',n1,n2,n3,n4⟩:=hr.own ho hst;cases o'<;>first|exact n2.elim|skip
    rename_i b T' cs';obtain⟨n5,rfl,n6⟩:=n2;obtain rfl:=bj n1 rfl
    cases cs' with
    |nil=>exact n6.elim
    |cons c r=>
     cases r with
     |cons=>exact n6.2.elim
     |nil=>
      obtain⟨d,rfl,hd⟩:=sy n6.1
      have hk:aV {S with ob:=(i',SO.dead)::S.ob} ρ σ (s.kill i'):=
       hr.upd (s':=s.kill i') (i:=i') (n':=S.n) (c':=S.c) (so:=.dead) (aW.refl _) hr.c hr.n (Nat.le_refl _) n4 rfl (λj hj=>by simp_all[AS.kill,aJ]) trivial
      exact⟨_,λw0 N a w E h=>T8 h z1 n1,hk.put (d:=some t) (v:=.p false [.rd [y]]) (x:=.p false [.rd [d]]) ⟨rfl,⟨hd,trivial⟩,trivial⟩⟩
   ·exact hid
  ·exact hid
 ·exact hid
theorem IZ:∀{xs:List Operand} {S:Sy} {s:AS},aV S ρ σ s->∃s',Fz s s'/\aV (xs.foldl WC S) ρ σ s'
 |[],S,s,hr=>⟨s,λ_ _ _ _ E h=>⟨E,h⟩,hr⟩
 |x::xs,S,s,hr=>by
  obtain⟨s1,f1,r1⟩:=VD (x:=x) hr;obtain⟨s2,f2,r2⟩:=IZ (xs:=xs) r1;exact⟨s2,f1.trans f2,r2⟩
def yi(S:Sy):List Operand->Option (List Nat)
 |[]=>some []
 |.tmp t::xs=>(match aS S.sl t,yi S xs with|some (.p false [.rd [x]]),some is=>some (x::is)|_,_=>none)
 |_=>none
theorem FB(hr:aV S ρ σ s):∀{xs:List Operand} {is:List Nat},yi S xs=some is->∃ds,RD ρ is ds/\IC s xs ds
 |[],is,h=>by simp[yi]at h;subst h;exact⟨[],trivial,trivial⟩
 |.tmp t::xs,is,h=>by
  simp only[yi]at h;split at h
  ·rename_i x is' hx hxs;cases h;obtain⟨ds,k1,k2⟩:=FB hr hxs;obtain⟨z,z1,z2⟩:=bk (c:=.rd [x]) rfl (hr.sl _ _ hx);cases z<;>first|exact z2.elim|skip
   rename_i cs
   cases cs with
   |nil=>exact z2.elim
   |cons d r=>
    cases r with
    |cons=>exact z2.2.elim
    |nil=>exact⟨d::ds,⟨z2.1,k1⟩,z1,k2⟩
  grind
 |.const _::_,_,h=>by grind[yi]
 |.global _::_,_,h=>by grind[yi]
 |.func _::_,_,h=>by grind[yi]
def Yh(S:Sy)(d:Option Nat)(f:Nat)(xs:List Operand):Option (List Nd×Sy):=
 match yi (xs.foldl WC S) xs with
 |some is=>some ([],(xs.foldl WC S).put d (.p false [.fn f is]))
 |none=>none
theorem QQ{f:FuncId}{xs:Array Operand}(ho:o.op=.makeFunc (.func f) #[] xs)(h:Yh S o.dst f xs.toList=some (dq,S'))(hd:dB N o.dst=true)(hr:aV S ρ σ s)(hw:WN P dq K ρ):gd P N o s S' K:=by
 unfold Yh at h;split at h
 ·rename_i is hc;cases h;obtain⟨s1,f1,r1⟩:=IZ (xs:=xs.toList) hr;obtain⟨ds,k1,k2⟩:=FB r1 hc;exact JC f1 ⟨_,σ,_,(Yw (P:=P) ho k2).toO (cn hd),r1.put ⟨rfl,⟨rfl,k1⟩,trivial⟩,hw⟩
 ·cases h
theorem eC.fn{f k:Nat}{ys:List (Bool×List DV)}{res:List Rs}(h:eC P ((2000+k)*1000000+f) ys res)(hsz:P.funcs.size<=1000000)(hf:f<1000000)(hk:k<900000):sx P f (yj k ys) res:=by
 generalize he:(2000+k)*1000000+f=f' at h
 have far:∀{g:Nat},1000000<=g->bc P g=true->False:=λhg hc=>by
  unfold bc at hc;rw[Array.getElem?_eq_none (Nat.le_trans hsz hg)]at hc;cases hc
 cases h with
 |n h=>exact(far (by omega) h.1).elim
 |p h=>exact(far (by omega) h.1).elim
 |c h=>exact(far (by omega) h.1).elim
 |w h=>exact(far (by omega) h.1).elim
 |@g f2 b2 _ _ hb h=>exact(far (g:=f2) (by omega) h.1).elim
 |v _ h=>omega
 |@a f2 k2 _ _ hk2 h=>
  rcases Nat.lt_or_ge f2 1000000 with h2|h2
  ·have e1:f=f2:=by omega
   have e2:k=k2:=by omega
   rw[e1,e2];exact h
  ·exact(far h2 h.1).elim
theorem Dp:∀{as0 bs:List (Bool×List Nat)} {ys zs:List (Bool×List DV)},ca ρ as0=some ys->ca ρ bs=some zs->ca ρ (as0++bs)=some (ys++zs)
 |[],bs,ys,zs,h,k=>by simp[ca]at h;subst h;exact k
 |a::as0,bs,ys,zs,h,k=>by
  simp only[ca]at h;split at h
  ·rename_i d ds h1 h2;cases h;simp only[List.cons_append,ca,h1,Dp h2 k]
  ·cases h
theorem DK:∀{is:List Nat} {ds:List DV},RD ρ is ds->ca ρ (is.map λx=>(false,[x]))=some (ds.map λd=>(false,[d]))
 |[],[],_=>rfl
 |i::is,d::ds,h=>by simp[ca,gL,h.1,DK h.2]
 |[],_::_,h=>h.elim
 |_::_,[],h=>h.elim
def G8(P:Program)(ow:iI)(S:Sy)(d:Option Nat)(t:Nat)(args:List Operand)(ts:List TypeId):Option (List Nd×Sy):=
 match aS S.sl t with
 |some (.p false [.fn f is])=>(match Nv P ow f,ya true P args ts S with
  |some sh,some (p,as0,S1)=>if decide (P.funcs.size<=1000000/\f<1000000/\is.length<1000)then some (p.map .po++[.call ((2000+is.length)*1000000+f) (as0++is.map λx=>(false,[x])) sh],(iF ow.dx sh S1.m (S1.bind (dV sh))).2.put d (pc (iF ow.dx sh S1.m (S1.bind (dV sh))).1))else none
  |_,_=>none)
 |_=>none
theorem Hy{ow:iI}{t:Nat}{args:Array Operand}{ts:Array TypeId}(ho:o.op=.call ⟨.value (.tmp t),args,ts⟩)(h:G8 P ow S o.dst t args.toList ts.toList=some (dq,S'))(hd:dB N o.dst=true)(hr:aV S ρ σ s)(hw:WN P dq K ρ):gd P N o s S' K:=by
 unfold G8 at h;split at h
 ·rename_i f is hx;split at h
  ·rename_i sh p as0 S1 hsh has;split at h
   ·rename_i hc;obtain⟨hsz,hf,hl⟩:=of_decide_eq_true hc;cases h;obtain⟨ρ1,he,hw2⟩:=bp (m7 hw);simp only[WN]at hw2;obtain⟨ys,res,w1,w2,w3,w4⟩:=hw2;obtain⟨ys',y1,y2,y3,y4⟩:=pJ has he hr;obtain⟨z,z1,z2⟩:=bk (c:=.fn f is) rfl (hr.sl _ _ hx);cases z<;>first|exact z2.elim|skip
    rename_i f' ds;obtain⟨rfl,hds⟩:=z2;rw[Dp y1 (DK (hds.mono (aj he)))]at w1;cases w1;have hm:=w2.fn hsz hf (by omega);have hdl:ds.length=is.length:=hds.len.symm
    have hfm:yj is.length (ys'++ds.map λd=>(false,[d]))=ox ys'++sH (ds.map λd=>(false,[d])):=by
     unfold yj;rw[if_pos hl,List.length_append,List.length_map,hdl,Nat.add_sub_cancel,List.take_left',List.drop_left']<;>rfl
    rw[hfm]at hm;have hb:=y4.bind (out:=bW res) (eg w3);obtain⟨σ',p1,p2,p3⟩:=ji (m:=S1.m) w3 (dG y4.m rfl) hb;exact⟨_,σ',_,(Ro (s:=s) ow.dx ho z1 hm (y3 rfl)).toO (cn hd),p2.put (u7 p3),w4⟩
   ·cases h
  ·cases h
 ·cases h
def UR(P:Program)(ow:iI)(S:Sy)(o:Oper):Option (List Nd×Sy):=
 match o.op with
 |.makeFunc (.func f) ⟨[]⟩ xs=>Yh S o.dst f xs.toList
 |.call ⟨.value (.tmp t),args,ts⟩=>G8 P ow S o.dst t args.toList ts.toList
 |_=>none
theorem Rx{ow:iI}(h:UR P ow S o=some (dq,S'))(hd:dB N o.dst=true)(hr:aV S ρ σ s)(hw:WN P dq K ρ):gd P N o s S' K:=by
 unfold UR at h;split at h
 ·rename_i ho;exact QQ ho h hd hr hw
 ·rename_i ho;exact Hy ho h hd hr hw
 ·cases h
def FC:List (List SC)->Option (List (List Nat))
 |[]=>some []
 |e::r=>match Fb e,FC r with|some x,some xs=>some (x::xs)|_,_=>none
def Lx(P:Program)(S:Sy)(d:Option Nat)(t:TypeId)(len:Nat)(parts:List (Nat×Operand)):Option (List Nd×Sy):=
 match dN P t with
 |some (el,k)=>if(aT P el).isSome=true/\0<k/\parts.length=len/\len*k<=16777216 then(match RE k parts 0 S with
  |some (p,es,S1)=>(match FC es with
   |some rows=>some ((p++[PO.mk el k rows]).map .po,((S1.bind 1).push (.shr S1.c el k S1.m)).put d (.p false [.own S1.n S1.c]))
   |none=>none)
  |none=>none)else none
 |none=>none
theorem C7:∀{es:List (List SC)} {rows:List (List Nat)} {ys:List (List AC)},FC es=some rows->Ee ρ σ es ys->∃ds,JR ρ rows=some ds/\ys=ds.map (λe=>e.map .d)
 |[],rows,[],h,_=>by simp[FC]at h;subst h;exact⟨[],rfl,rfl⟩
 |[],_,_::_,_,h=>h.elim
 |_::_,_,[],_,h=>h.elim
 |e::es,rows,y::ys,h,hr=>by
  simp only[FC]at h;split at h
  ·rename_i x xs h1 h2;cases h;obtain⟨ds,k1,k2⟩:=C7 h2 hr.2;obtain⟨d,rfl,k3⟩:=Ei h1 hr.1;exact⟨d::ds,by simp[JR,wl k3,k1],by simp[k2]⟩
  ·cases h
theorem Kw{t:TypeId}{len:Nat}{parts:Array (Nat×Operand)}(ho:o.op=.buildSlice t len parts)(h:Lx P S o.dst t len parts.toList=some (dq,S'))(hd:dB N o.dst=true)(hr:aV S ρ σ s)(hw:WN P dq K ρ):gd P N o s S' K:=by
 unfold Lx at h;split at h
 ·rename_i el k ht;split at h
  ·rename_i hcnd;obtain⟨hz,hk,hl,hs⟩:=hcnd;split at h
   ·rename_i p es S1 hb;split at h
    ·rename_i rows hrw;cases h;obtain⟨ρ',he,hK⟩:=bp hw;obtain⟨ρ1,a1,a2⟩:=ai he;obtain⟨ys,y1,y2,y3⟩:=lA hb a1 hr;obtain⟨ds,d1,rfl⟩:=C7 hrw y2;have hu:∀e∈ds,e.length=k:=λe he=>by simpa using(kO y1).2 (e.map .d) (List.mem_map.2 ⟨e,he,rfl⟩)
     obtain⟨out,o1,rfl⟩:=az a2;rw[zV d1 hu]at o1;cases o1;have hst:=(mM (s:=s) ho ht hz hk hl hs y1).toO (N:=N) (cn hd)
     have hown:((s.push (.arr s.c el k (ds.map λe=>e.map .d))).put o.dst (.p false [.own s.n s.c])).own? s.n s.c=some (.arr s.c el k (ds.map λe=>e.map .d)):=by
      unfold AS.own?;rw[AS.put_n,AS.put_ob];simp[AS.push,af,Ob.st]
     have hp:=(y3.bind (out:=[DV.sl el k ds]) (k:=1) rfl).push (so:=.shr S1.c el k S1.m) (ob:=.row s.c el k ds false) ⟨y3.last _,rfl,rfl,rfl,by rw[<-y3.m];simp⟩;refine⟨_,_,_,λw0 a w E h0=>Oper.wp_mono (λa' w' hx=>?_) (hst w0 a w E h0),hp.put (d:=o.dst) (v:=.p false [.own S1.n S1.c]) (x:=.p false [.own s.n s.c]) ⟨rfl,⟨y3.n,y3.last _⟩,trivial⟩,hK⟩;obtain⟨E',hx⟩:=hx;have:=LG false hx hown (by simp)
     have e:({ ((s.push (.arr s.c el k (ds.map λe=>e.map .d))).put o.dst (.p false [.own s.n s.c]))with ob:=upd ((s.push (.arr s.c el k (ds.map λe=>e.map .d))).put o.dst (.p false [.own s.n s.c])).ob s.n (.row s.c el k ds false)}:AS)=(s.push (.row s.c el k ds false)).put o.dst (.p false [.own s.n s.c]):=by
      cases o.dst<;>simp[AS.put,AS.push,Rk]
     exact⟨_,e▸this⟩
    ·cases h
   ·cases h
  ·cases h
 ·cases h
def SU(P:Program)(S:Sy)(t:TypeId)(x y:Operand):Option (List Nd×Sy):=
 match gW S x with
 |some (p,v,S1)=>(match gW S1 y with
  |some (q,u,S2)=>(match one v,sY S2 u with
   |some (.elt i st k j off),some xs=>(match S2.ownR i st,vj true xs (Ev P 9 t) S2 with
    |some (.row a t' k' z),some (r,vs,S3)=>if k'=k/\cG P t=some xs.length/\off+xs.length<=k then
     some ((p++(q++(r++[PO.set k z j off vs]))).map .po,{ (S3.bind 1)with ob:=(i,.shr st t' k S3.m)::S3.ob})else none
    |_,_=>none)
   |_,_=>none)
  |none=>none)
 |none=>none
theorem NW{t:TypeId}{x y:Operand}(ho:o.op=.store t x y)(hdn:o.dst=none)(h:SU P S t x y=some (dq,S'))(hr:aV S ρ σ s)(hw:WN P dq K ρ):gd P N o s S' K:=by
 unfold SU at h;split at h
 ·rename_i p v S1 hv;split at h
  ·rename_i q u S2 hu;split at h
   ·rename_i i st k j off xs hone hcs;split at h
    ·rename_i a t' k' z r vs S3 hown hrd;split at h
     ·rename_i hl;obtain⟨rfl,hl1,hl2⟩:=hl;cases h;obtain⟨ρ',he,hK⟩:=bp hw;obtain⟨ρ1,a1,a2⟩:=ai he;obtain⟨ρ2,b1,b2⟩:=ai a2;obtain⟨ρ3,c1,c2⟩:=ai b2;obtain⟨k1,k2⟩:=aU hv a1 hr;obtain⟨m1,m2⟩:=aU hu b1 k2;obtain⟨ys,y1,y2⟩:=fK m2 hcs m1;obtain⟨zz,z1,z2⟩:=bk hone (k1.mono (aj b1) (aW.refl _));cases zz<;>first|exact z2.elim|skip
      rename_i i' st' kk' j' off';obtain⟨rfl,hst,rfl,⟨kd,zi,hz1,hz2,rfl⟩,rfl⟩:=z2;obtain⟨ds,g1,-,g2,g3⟩:=eP hrd c1 m2 y2;obtain⟨o',n1,n2,n3,n4⟩:=m2.ownR hown hst;cases o'<;>first|exact n2.elim|skip
      rename_i b ty kr es dp;obtain⟨n5,rfl,rfl,-,n6⟩:=n2;obtain rfl:=bj n1 rfl;have hp3:=aj c1;obtain⟨hs1,hs2,hs3⟩:=Bg hrd;obtain⟨out,o1,rfl⟩:=az c2;simp only[aG,hp3.get n6,hp3.get hz1,wl g1]at o1;split at o1
      ·rename_i hcn;split at o1
       ·rename_i e hee;cases o1;refine⟨_,σ,_,Qi ho hdn z1 n1 hee y1 (by rw[<-y2.len];omega) (by rw[<-y2.len];omega) (g2 rfl),?_,hK⟩;have hb3:=g3.bind (out:=[DV.sl ty kr (es.set zi.toNat (plug off' ds e))]) (k:=1) rfl
        exact hb3.upd (s':=s.shal i' b ty kr (es.set zi.toNat (plug off' ds e))) (i:=i') (n':=(S3.bind 1).n) (c':=(S3.bind 1).c) (so:=.shr st ty kr S3.m) (aW.refl _) hb3.c hb3.n (Nat.le_refl _) (by rw[show(S3.bind 1).n=S3.n from rfl,hs2];exact n4) rfl (λj hj=>aJ _ _ hj)
         (by simp[AS.shal,af];exact⟨hst,rfl,rfl,rfl,by rw[<-g3.m];simp⟩)
       grind
      grind
     grind
    grind
   grind
  grind
 grind
def UY(P:Program)(S:Sy)(o:Oper):Option (List Nd×Sy):=
 match o.op with
 |.buildSlice t len parts=>Lx P S o.dst t len parts.toList
 |.store t x y=>if o.dst.isNone then SU P S t x y else none
 |_=>none
theorem Pu(h:UY P S o=some (dq,S'))(hd:dB N o.dst=true)(hr:aV S ρ σ s)(hw:WN P dq K ρ):gd P N o s S' K:=by
 unfold UY at h;split at h
 ·rename_i ho;exact Kw ho h hd hr hw
 ·rename_i ho;split at h
  ·rename_i hn;exact NW ho (by simpa using hn) h hr hw
  ·cases h
 ·cases h
end
end Go.Proofs.YtliknccmjjncbaaGreat
namespace Go.Proofs.YtliknccmjjncbaaGreat
open Go.RowKit
section
variable {P:Program}{N:Nat}{o:Oper}{ρ ρ':List DV}{σ σ':List Nat}{S S':Sy}{s s':AS}{ps:List PO}{K:List DV->Prop}
def SF(P:Program)(ow:iI)(S:Sy)(o:Oper):Option (List Nd×Sy):=
 match UR P ow S o with|some r=>some r|none=>(match YU P ow S o with|some r=>some r|none=>UY P S o)
theorem Pp{ow:iI}{dq:List Nd}(h:SF P ow S o=some (dq,S'))(hd:dB N o.dst=true)(hr:aV S ρ σ s)(hw:WN P dq K ρ):gd P N o s S' K:=by
 unfold SF at h;split at h
 ·cases h;exact Rx (by assumption) hd hr hw
 ·split at h
  ·cases h;exact Uw (by assumption) hd hr hw
  ·exact Pu h hd hr hw
end
end Go.Proofs.YtliknccmjjncbaaGreat
namespace Go.Proofs.YtliknccmjjncbaaGreat
open Go.RowKit
theorem Kk{s:AS}{el k t:Nat}(hk:0<k)(ht:s.sl t=.p false [.nil]):Re s {s.push (.row s.c el k [] true)with sl:=upd s.sl t (.p false [.own s.n s.c])}:=by
 intro w0 N a w E hr;have h1:=Ay (el:=el) hr hk;refine⟨_,⟨h1.size,h1.defers,h1.bel,h1.obj,λq=>?_,h1.A_lt,h1.A_m,h1.A_o,h1.mm,h1.oo,h1.m_lt,h1.anc,h1.mF,h1.oF⟩⟩;by_cases e:q=t
 ·subst e;simp only[af];refine aN ⟨by simp[AS.push],λ_=>?_⟩;have:=hr.slot q;rw[ht]at this;obtain h2:a.tmps.getD q undef=.slice none 0 0:=aE this
  grind[af]
 ·simp only[aJ _ _ e];exact h1.slot q
theorem Ij{s:AS}{el k i j st t:Nat}{cs:List AC}(hk:0<k)(hi:s.own? i st=some (.var st t cs))(hj:cs[j]? =some .nil):
 Re s {s.push (.row s.c el k [] true)with ob:=upd (upd s.ob s.n (.row s.c el k [] true)) i (.var st t (cs.set j (.own s.n s.c)))}:=by
 intro w0 N a w E hr;have h1:=Ay (el:=el) hr hk;obtain⟨hin,hob,hlv⟩:=am hi;have hne:i≠s.n:=by omega
 have hlt:i<(s.push (.row s.c el k [] true)).n:=by grind[AS.push]
 have hO:=h1.obj i hlt;have hob':(s.push (.row s.c el k [] true)).ob i=.var st t cs:=by simp_all[AS.push,aJ]
 rw[hob']at hO;obtain⟨g,vals,q0,q1,q2,q3,q4,q5,q6⟩:=hO
 have hlvs:AS.lv {s.push (.row s.c el k [] true)with ob:=upd (upd s.ob s.n (.row s.c el k [] true)) i (.var st t (cs.set j (.own s.n s.c)))}=(s.push (.row s.c el k [] true)).lv:=by
  funext q;unfold AS.lv;by_cases e:q=i
  ·grind[AS.push,af,aJ,Ob.st]
  ·simp[AS.push,aJ _ _ e];rfl
 refine⟨_,⟨h1.size,h1.defers,h1.bel,λq hq=>?_,λq=>?_,h1.A_lt,h1.A_m,h1.A_o,h1.mm,h1.oo,h1.m_lt,h1.anc,h1.mF,h1.oF⟩⟩
 ·rw[hlvs];by_cases e:q=i
  ·subst e;simp only[af];refine⟨g,vals,q0,q1,q2,q3,q4,q5,by rw[List.length_set];exact q6.1,λm x u hx hu=>?_⟩;rw[List.getElem?_set]at hx;split at hx
   ·rename_i hjm;subst hjm;split at hx
    ·cases hx;refine⟨by simp[AS.push],λ_=>?_⟩;obtain h2:u=.slice none 0 0:=q6.2 j _ u hj hu
     grind[af]
    grind
   ·exact q6.2 m x u hx hu
  ·simp only[aJ _ _ e];exact h1.obj q hq
 ·rw[hlvs];exact h1.slot q
section
variable {P:Program}{N:Nat}{ρ ρ':List DV}{σ σ':List Nat}{S S':Sy}{s s':AS}
structure Nl where
 slot:Bool
 i:Nat
 j:Nat
 el:Nat
 k:Nat
def Tc(S:Sy)(x:Nl):List PO×Sy:=
 ([],S)
theorem RF{x:Nl}(he:ay (Tc S x).1 ρ=some ρ')(hr:aV S ρ σ s):∃σ' s',Re s s'/\aV (Tc S x).2 ρ' σ' s':=by
 have he:ay [] ρ=some ρ':=he;show∃σ' s',Re s s'/\aV S ρ' σ' s'
 grind[ay,Re.refl]
def QG(S:Sy)(i st:Nat):Sy:=match S.own i st with
 |some (.row _ ty k x)=>{S with ob:=(i,.shr st ty k x)::S.ob}
 |_=>S
theorem JO{i st st':Nat}(hr:aV S ρ σ s)(hst:σ[st]? =some st'):∃s',Re s s'/\aV (QG S i st) ρ σ s':=by
 unfold QG;split
 ·rename_i a ty k x ho;obtain⟨o',k1,k2,k3,k4⟩:=hr.own ho hst;cases o'<;>first|exact k2.elim|skip
  rename_i b ty' kr es dp;obtain⟨k5,rfl,rfl,-,hx⟩:=k2;obtain rfl:=bj k1 rfl
  exact⟨s.shal i b ty' kr es,λw0 N a w E h=>let⟨E',h1,_⟩:=II h k1;⟨E',h1⟩,
   hr.upd (s':=s.shal i b ty' kr es) (i:=i) (n':=S.n) (c':=S.c) (so:=.shr st ty' kr x) (aW.refl _) hr.c hr.n (Nat.le_refl _) k4 rfl (λj hj=>by simp_all[AS.shal,aJ]) (by simp[AS.shal,af];exact⟨hst,rfl,rfl,rfl,hx⟩)⟩
 ·exact⟨s,λ_ _ _ _ E h=>⟨E,h⟩,hr⟩
def Qt(S:Sy)(t:Nat):List PO×Sy:=
 match aS S.sl t with
 |some (.p false [.own i st])=>(match S.own i st with
  |some (.row _ _ _ _)=>([],QG S i st)
  |_=>([],S))
 |_=>([],S)
theorem QJ{t:Nat}(he:ay (Qt S t).1 ρ=some ρ')(hr:aV S ρ σ s):∃σ' s',Re s s'/\aV (Qt S t).2 ρ' σ' s':=by
 have triv:ay [] ρ=some ρ'->∃σ' s',Re s s'/\aV S ρ' σ' s':=λh=>by
  grind[ay,Re.refl]
 have hst:∀{i st},aS S.sl t=some (.p false [.own i st])->∃st',σ[st]? =some st':=λhl=>by
  obtain⟨y,y1,y2⟩:=bk (c:=.own _ _) rfl (hr.sl _ _ hl);cases y<;>first|exact y2.elim|exact⟨_,y2.2⟩
 unfold Qt at he ⊢;split
 ·rename_i i st hsl;simp[hsl]at he;obtain⟨st',hst⟩:=hst hsl;split
  ·rename_i a ty k x ho;simp[ho,ay]at he;subst he;exact⟨σ,JO hr hst⟩
  grind
 grind
def L8(S:Sy)(x:Nl)(st:Nat):Sy:=match sV S x.i st with
 |some (_,_,cs)=>(match cs[x.j-500]? with
  |some (.own i2 st2)=>(match sV (RB S (.own i2 st2)) x.i st,(RB S (.own i2 st2)).own i2 st2 with
   |some (pv,T,cs'),some (.frz _ y)=>if cs'[x.j-500]? =some (.own i2 st2)then{RB S (.own i2 st2)with ob:=(x.i,TC pv st T (cs'.set (x.j-500) (.d y)))::(RB S (.own i2 st2)).ob}else S
   |_,_=>S)
  |_=>S)
 |none=>S
theorem Lu{x:Nl}{st st':Nat}(hr:aV S ρ σ s)(hst:σ[st]? =some st'):∃s',Re s s'/\aV (L8 S x st) ρ σ s':=by
 unfold L8;split
 ·rename_i pv0 T0 cs hV;split
  ·rename_i i2 st2 hc;obtain⟨acs,k1,k2,k3⟩:=Fx hV hr hst;obtain⟨y0,hy0,hc0⟩:=k2.get hc;obtain⟨s1,f1,hr1⟩:=Ot hr hc0;generalize hS1:RB S (.own i2 st2)=S1 at *;split
   ·rename_i pv T cs' a y hV1 ho;split
    ·rename_i hc';obtain⟨acs1,p1,p2,p3⟩:=Fx hV1 hr1 hst;obtain⟨y1,hy1,hc1⟩:=p2.get hc';cases y1<;>first|exact hc1.elim|skip
     obtain⟨rfl,hst2⟩:=hc1;obtain⟨o',n1,n2,n3,n4⟩:=hr1.own ho hst2;cases o'<;>first|exact n2.elim|skip
     obtain⟨n5,n6⟩:=n2;obtain rfl:=bj n1 rfl;refine⟨_,λw0 N a w E h=>by obtain⟨E1,h1⟩:=f1 w0 N a w E h;exact Qe h1 p1 hy1 n1,?_⟩;exact hr1.upd (i:=x.i) (n':=S1.n) (c':=S1.c) (so:=TC pv st T (cs'.set (x.j-500) (.d y))) (aW.refl _) hr1.c hr1.n (Nat.le_refl _) p3 rfl (λq hq=>by simp[AS.datD,aJ _ _ hq]) (by simp only[AS.datD,af];exact Im hst (cm.setV (x:=.d y) (y:=.d _) n6 p2))
    ·exact⟨s,λ_ _ _ _ E h=>⟨E,h⟩,hr⟩
   ·exact⟨s,λ_ _ _ _ E h=>⟨E,h⟩,hr⟩
  ·exact⟨s,λ_ _ _ _ E h=>⟨E,h⟩,hr⟩
 ·exact⟨s,λ_ _ _ _ E h=>⟨E,h⟩,hr⟩
def OP(S:Sy)(x:Nl)(st:Nat):Sy:=match sV S x.i st with
 |some (_,_,cs)=>(match cs[x.j-750]? with
  |some (.own i2 st2)=>QG S i2 st2
  |_=>S)
 |none=>S
theorem Ny{x:Nl}{st st':Nat}(hr:aV S ρ σ s)(hst:σ[st]? =some st'):∃s',Re s s'/\aV (OP S x st) ρ σ s':=by
 unfold OP;split
 ·rename_i pv0 T0 cs hV;split
  ·rename_i i2 st2 hc;obtain⟨acs,k1,k2,k3⟩:=Fx hV hr hst;obtain⟨y0,hy0,hc0⟩:=k2.get hc;cases y0<;>first|exact hc0.elim|exact JO hr hc0.2
  ·exact⟨s,λ_ _ _ _ E h=>⟨E,h⟩,hr⟩
 ·exact⟨s,λ_ _ _ _ E h=>⟨E,h⟩,hr⟩
def IV(S:Sy)(x:Nl):List PO×Sy:=if 500<=x.j/\x.j<1000 then(match aS S.ob x.i with
 |some o=>if o.st.getD 0<S.c then([],if x.j<750 then L8 S x (o.st.getD 0)else OP S x (o.st.getD 0))else([],S)
 |none=>([],S))else match aS S.ob x.i with
 |some o=>(match sV S x.i (o.st.getD 0)with
  |some (pv,T,cs)=>if o.st.getD 0<S.c then(if 1000<=x.j then(if cs[x.j % 1000]? =some .nil then([.e x.el (x.j / 1000)],{ (S.bind 1)with ob:=(x.i,TC pv (o.st.getD 0) T (cs.set (x.j % 1000) (.d S.m)))::S.ob})else([],S))
   else match IU x.i (o.st.getD 0) pv T cs x.j S with|some (p,_,S')=>(p,S')|none=>([],S))else([],S)
  |none=>([],S))
 |none=>([],S)
theorem Me{x:Nl}(he:ay (IV S x).1 ρ=some ρ')(hr:aV S ρ σ s):∃σ' s',Re s s'/\aV (IV S x).2 ρ' σ' s':=by
 have triv:ay [] ρ=some ρ'->∃σ' s',Re s s'/\aV S ρ' σ' s':=λh=>by
  grind[ay,Re.refl]
 unfold IV at he ⊢;by_cases hfz:500<=x.j/\x.j<1000
 ·rw[if_pos hfz]at he ⊢;split at he
  ·split at he
   ·rename_i o ho hlt;have hg:=(List.getElem?_eq_getElem (by rw[hr.c];exact hlt):σ[o.st.getD 0]? =some _);simp only[ay]at he;cases he;rw[if_pos hlt];by_cases h75:x.j<750
    ·rw[if_pos h75];exact⟨σ,Lu hr hg⟩
    ·rw[if_neg h75];exact⟨σ,Ny hr hg⟩
   ·rename_i hlt;rw[if_neg hlt];exact triv he
  ·exact triv he
 rw[if_neg hfz]at he ⊢;generalize aS S.ob x.i=o at he ⊢
 cases o with
 |none=>grind
 |some o=>
  simp only at he ⊢;generalize hV:sV S x.i (o.st.getD 0)=v at he ⊢
  cases v with
  |none=>grind
  |some v=>
   obtain⟨pv,T,cs⟩:=v;simp only at he ⊢;by_cases hlt:o.st.getD 0<S.c
   ·rw[if_pos hlt]at he ⊢;have hst:∃st',σ[o.st.getD 0]? =some st':=⟨_,List.getElem?_eq_getElem (by rw[hr.c];omega)⟩;obtain⟨st',hst⟩:=hst;by_cases hj:1000<=x.j
    ·rw[if_pos hj]at he ⊢;by_cases hn:cs[x.j % 1000]? =some .nil
     ·rw[if_pos hn]at he ⊢;obtain⟨out,o1,rfl⟩:=az he;simp[aG]at o1;cases o1;obtain⟨acs,k1,k2,k3⟩:=Fx hV hr hst;obtain⟨y,hy,hyc⟩:=k2.get hn;cases y<;>first|exact hyc.elim|skip
      have hb:=hr.bind (out:=[DV.sl x.el (x.j / 1000) []]) (k:=1) rfl;have hcs:cm (ρ++[DV.sl x.el (x.j / 1000) []]) σ (cs.set (x.j % 1000) (.d S.m)) (acs.set (x.j % 1000) (.d (.sl x.el (x.j / 1000) []))):=cm.setV (x:=.d S.m) (y:=.d (.sl x.el (x.j / 1000) [])) (by show(ρ++[_])[S.m]? =_;rw[<-hr.m];simp) (k2.mono (aW.app _ _) (aW.refl _));have hu:=hb.upd (s':=s.nilD x.i st' x.el (x.j / 1000) (x.j % 1000) pv T acs) (i:=x.i) (n':=S.n) (c':=S.c) (so:=TC pv (o.st.getD 0) T (cs.set (x.j % 1000) (.d S.m))) (aW.refl _) hr.c hb.n (Nat.le_refl _) k3 rfl (λq hq=>by simp_all[AS.nilD,AS.datD,aJ]) (by simp_all[AS.nilD,AS.datD,af,Im]);exact⟨σ,_,λw0 N a w E h=>PI h (by omega) k1 hy,hu⟩
     grind
    rw[if_neg hj]at he ⊢;generalize hc:IU x.i (o.st.getD 0) pv T cs x.j S=q at he ⊢
    cases q with
    |none=>grind
    |some q=>
     obtain⟨p,cs',S'⟩:=q;obtain⟨acs,k1,k2,-⟩:=Fx hV hr hst;obtain⟨s',σ',acs',f1,f2,f3,-⟩:=N8 hc he hr hst k1 k2;exact⟨σ',s',f1,f3⟩
   grind
def Dj(S:Sy)(x:Nl):List PO×Sy:=
 if x.k=0/\x.j=7 then Qt S x.i else if 0<x.k then(if x.slot then(match aS S.sl x.i with
  |some (.p false [.nil])=>([.e x.el x.k],((S.bind 1).push (.row S.c x.el x.k S.m)).put (some x.i) (.p false [.own S.n S.c]))
  |_=>([],S))
 else(match aS S.ob x.i with
  |some (.var st t cs)=>(match cs[x.j]? with
   |some .nil=>([.e x.el x.k],{ ((S.bind 1).push (.row S.c x.el x.k S.m))with ob:=(x.i,.var st t (cs.set x.j (.own S.n S.c)))::((S.bind 1).push (.row S.c x.el x.k S.m)).ob})
   |_=>([],S))
  |_=>([],S)))else if x.slot then Tc S x else IV S x
theorem cm.set{cs:List SC}{ys:List AC}{c:SC}{y:AC}(h:cm ρ σ cs ys)(hc:RC ρ σ c y):∀j,cm ρ σ (cs.set j c) (ys.set j y):=by
 intro j
 induction j generalizing cs ys with
 |zero=>match cs,ys,h with
  |[],[],_=>exact trivial
  |x::xs,y'::ys,h=>exact⟨hc,h.2⟩
 |succ j ih=>match cs,ys,h with
  |[],[],_=>exact trivial
  |x::xs,y'::ys,h=>exact⟨h.1,ih h.2⟩
theorem MZ{x:Nl}(he:ay (Dj S x).1 ρ=some ρ')(hr:aV S ρ σ s):∃σ' s',Re s s'/\aV (Dj S x).2 ρ' σ' s':=by
 unfold Dj at he ⊢;split
 ·grind[QJ]
 rename_i hk7;rw[if_neg hk7]at he;split
 ·rename_i hk;rw[if_pos hk]at he;split
  ·rename_i hs;rw[if_pos hs]at he;split
   ·rename_i hn;rw[hn]at he;simp[ay,aG]at he;cases he;have h1:=hr.sl _ _ hn
    cases hx:s.sl x.i with
    |p b cs=>
     rw[hx]at h1;obtain⟨rfl,h1⟩:=h1
     match cs,h1 with
     |[c],h1=>
      cases c<;>first|exact h1.1.elim|skip
      refine⟨σ++[s.c],_,Kk (el:=x.el) hk hx,?_⟩;have:=((hr.bind (out:=[DV.sl x.el x.k []]) (k:=1) rfl).push (so:=.row S.c x.el x.k S.m) (ob:=.row s.c x.el x.k [] true) ⟨hr.last _,rfl,rfl,rfl,by rw[<-hr.m];simp⟩).put (d:=some x.i) (v:=.p false [.own S.n S.c]) (x:=.p false [.own s.n s.c]) ⟨rfl,⟨hr.n,hr.last _⟩,trivial⟩
      exact this
    |tup=>rw[hx]at h1;exact h1.elim
    |und=>rw[hx]at h1;exact h1.elim
   grind[ay,absurd,id,Re.refl]
  ·rename_i hs;rw[if_neg hs]at he;split
   ·rename_i st t cs ho;rw[ho]at he;simp only at he;split
    ·rename_i hj;rw[hj]at he;simp[ay,aG]at he;cases he;obtain⟨hlt,h1⟩:=hr.ob _ _ ho
     cases hx:s.ob x.i with
     |var st' t' ys=>
      rw[hx]at h1;obtain⟨h2,rfl,h3⟩:=h1;obtain⟨y,y1,y2⟩:=h3.get hj;cases y<;>first|exact y2.elim|skip
      have hown:s.own? x.i st'=some (.var st' t' ys):=by
       unfold AS.own?;rw[hr.n,if_pos hlt,hx];simp[Ob.st]
      refine⟨σ++[s.c],_,Ij (el:=x.el) hk hown y1,?_⟩;have hb:=(hr.bind (out:=[DV.sl x.el x.k []]) (k:=1) rfl).push (so:=.row S.c x.el x.k S.m) (ob:=.row s.c x.el x.k [] true) ⟨hr.last _,rfl,rfl,rfl,by rw[<-hr.m];simp⟩;refine hb.upd (s':={s.push (.row s.c x.el x.k [] true)with ob:=upd (upd s.ob s.n (.row s.c x.el x.k [] true)) x.i (.var st' t' (ys.set x.j (.own s.n s.c)))}) (i:=x.i) (n':=((S.bind 1).push (.row S.c x.el x.k S.m)).n) (c':=((S.bind 1).push (.row S.c x.el x.k S.m)).c) (so:=.var st t' (cs.set x.j (.own S.n S.c))) (aW.refl _) hb.c hb.n (Nat.le_refl _) (by grind[Sy.push,Sy.bind]) rfl (λj hj=>by simp_all[AS.push,aJ]) ?_;simp[af]
      exact⟨(aW.app _ _).get h2,rfl,cm.set (c:=.own S.n S.c) (y:=.own s.n s.c) (cm.mono (aW.app _ _) (aW.app _ _) h3) ⟨hr.n,hr.last _⟩ _⟩
     |arr=>rw[hx]at h1;exact h1.elim
     |row=>rw[hx]at h1;exact h1.elim
     |frz=>rw[hx]at h1;exact h1.elim
     |dx=>rw[hx]at h1;exact h1.elim
     |opn=>rw[hx]at h1;exact h1.elim
     |pvr=>rw[hx]at h1;exact h1.elim
     |cur=>rw[hx]at h1;exact h1.elim
     |dead=>rw[hx]at h1;exact h1.elim
    grind[ay,absurd,id,Re.refl]
   grind[ay,absurd,id,Re.refl]
 ·rename_i hk;rw[if_neg hk]at he;split
  ·grind[RF]
  grind[Me]
def yO:List Nl->Sy->List PO×Sy
 |[],S=>([],S)
 |x::r,S=>((Dj S x).1++(yO r (Dj S x).2).1,(yO r (Dj S x).2).2)
theorem EL:∀{l:List Nl} {S:Sy} {ρ ρ':List DV} {σ:List Nat} {s:AS},ay (yO l S).1 ρ=some ρ'->aV S ρ σ s->∃σ' s',Re s s'/\aV (yO l S).2 ρ' σ' s'
 |[],S,ρ,ρ',σ,s,he,hr=>by
  grind[yO,ay,Re.refl]
 |x::r,S,ρ,ρ',σ,s,he,hr=>by
  simp[yO]at he ⊢;obtain⟨ρ1,a1,a2⟩:=ai he;obtain⟨σ1,s1,r1,h1⟩:=MZ a1 hr;obtain⟨σ2,s2,r2,h2⟩:=EL a2 h1;exact⟨σ2,s2,r1.trans r2,h2⟩
end
end Go.Proofs.YtliknccmjjncbaaGreat
namespace Go.Proofs.YtliknccmjjncbaaGreat
open Go.RowKit
structure BE where
 φ:List (Nat×Nat)
 ψ:List (Nat×Nat)
 π:List (Nat×Nat)
def uD(p i:Nat)(a:BE):BE:={a with π:=(p,i)::a.π}
def YB:List Nat->List Nat->BE->BE
 |p::ps,i::is,a=>YB ps is (uD p i a)
 |_,_,a=>a
def uI(i i' st st':Nat)(a:BE):BE:={a with φ:=(i,i')::a.φ,ψ:=(st,st')::a.ψ}
def uC:SC->SC->BE->BE
 |.d p,.d i,a=>uD p i a
 |.own i st,.own i' st',a=>uI i i' st st' a
 |.ptr i st _,.ptr i' st' _,a=>uI i i' st st' a
 |.elt i st _ j _,.elt i' st' _ j' _,a=>uD j j' (uI i i' st st' a)
 |.rd ps,.rd is,a=>YB ps is a
 |.fn _ ps,.fn _ is,a=>YB ps is a
 |.sub i st _ z m,.sub i' st' _ z' m',a=>uD m m' (uD z z' (uI i i' st st' a))
 |_,_,a=>a
def VZ:List SC->List SC->BE->BE
 |x::xs,y::ys,a=>VZ xs ys (uC x y a)
 |_,_,a=>a
def uT:List (Bool×List SC)->List (Bool×List SC)->BE->BE
 |x::xs,y::ys,a=>uT xs ys (VZ x.2 y.2 a)
 |_,_,a=>a
def uV:SV->SV->BE->BE
 |.p _ cs,.p _ cs',a=>VZ cs cs' a
 |.tup xs,.tup ys,a=>uT xs ys a
 |_,_,a=>a
def uH:Option (Nat×Nat×Nat×Nat)->Option (Nat×Nat×Nat×Nat)->BE->BE
 |some (j,_,n,sn),some (j',_,n',sn'),a=>uD j j' (uI n n' sn sn' a)
 |_,_,a=>a
def uO:SO->SO->BE->BE
 |.var st _ cs,.var st' _ cs',a=>VZ cs cs' {a with ψ:=(st,st')::a.ψ}
 |.row st _ _ x,.row st' _ _ x',a=>uD x x' {a with ψ:=(st,st')::a.ψ}
 |.frz st x,.frz st' x',a=>uD x x' {a with ψ:=(st,st')::a.ψ}
 |.dx st x,.dx st' x',a=>uD x x' {a with ψ:=(st,st')::a.ψ}
 |.cur st _ _ x,.cur st' _ _ x',a=>uD x x' {a with ψ:=(st,st')::a.ψ}
 |.pvr st _ cs,.pvr st' _ cs',a=>VZ cs cs' {a with ψ:=(st,st')::a.ψ}
 |.shr st _ _ x,.shr st' _ _ x',a=>uD x x' {a with ψ:=(st,st')::a.ψ}
 |.opn st _ x q,.opn st' _ x' q',a=>uH q q' (uD x x' {a with ψ:=(st,st')::a.ψ})
 |_,_,a=>a
def Zb(S:Sy):List (Nat×SV)->BE->BE
 |[],a=>a
 |(t,v)::r,a=>Zb S r (match aS S.sl t with|some v'=>uV v v' a|none=>a)
def Yn(S:Sy):List (Nat×SO)->BE->BE
 |[],a=>a
 |(i,o)::r,a=>Yn S r (match aS S.ob ((aS a.φ i).getD i)with|some o'=>uO o o' a|none=>a)
def We(H S:Sy):BE:=Yn S H.ob (Yn S H.ob (Zb S H.sl ⟨[],[],[]⟩))
structure aQ where
 key:Nat
 np:Nat
 H:Sy
 nils:List Nl
def Nz:List aQ->Nat->Option aQ
 |[],_=>none
 |h::r,k=>if h.key=k then some h else Nz r k
def XT(h:aQ)(base:Nat)(S:Sy):Option (List PO×List Nat):=
 let r:=yO h.nils S
 let a:=We h.H r.2
 let π:=(List.range h.np).map λj=>(aS a.π (base+j)).getD 0
 let ψ:=(List.range h.H.c).map λj=>(aS a.ψ j).getD 0
 let φ:=(List.range h.H.n).map λj=>(aS a.φ j).getD j
 if Ud base π ψ φ h.H r.2 then some (r.1,π)else none
section
variable {P:Program}{R:List (Bool×List DV)->Prop}{N:Nat}{ow:iI}{ρ ρ':List DV}{σ σ':List Nat}{S S':Sy}{s s':AS}{L:Lbl}{Q:Exit->AS->Prop}
theorem Oi{h:aQ}{base:Nat}{ps:List PO}{π:List Nat}(hf:XT h base S=some (ps,π))(hl:ρ.length=base)(hp:aW ρ ρ')(hr:aV S ρ' σ s){ρ2 vs:List DV}(he:ay ps ρ'=some ρ2)(hv:gL ρ2 π=some vs):
 vs.length=h.np/\π.length=h.np/\∃σ' s',Re s s'/\aV h.H (ρ++vs) σ' s':=by
 unfold XT at hf;simp only at hf;split at hf
 ·rename_i hm;injection hf with hf;injection hf with e1 e2;subst e1;obtain⟨σ1,s1,r1,h1⟩:=EL he hr;have hlen:π.length=h.np:=by rw[<-e2];simp
  rw[e2]at hm;obtain⟨s2,r2,h2⟩:=QI hm h1 (M:=⟨hl,hp.trans (aj he),IR hv⟩);exact⟨by rw[<-(IR hv).len,hlen],hlen,_,s2,r1.trans r2,h2⟩
 grind
abbrev Kt:=Nat->Exit->Sy->Option Pg
def La(P:Program)(R:List (Bool×List DV)->Prop)(L:Lbl)(ρ:List DV)(Q:Exit->AS->Prop)(K:Kt):Prop:=
 ∀L' ρ',aW L L'->aW ρ ρ'->∀e S pg,K L'.length e S=some pg->∀σ s,aV S ρ' σ s->W P R pg L' ρ'->Q e s
theorem La.mono{K:Kt}{L2:Lbl}{ρ2:List DV}(h:La P R L ρ Q K)(hL:aW L L2)(hp:aW ρ ρ2):La P R L2 ρ2 Q K:=
 λL' ρ' h1 h2=>h L' ρ' (hL.trans h1) (hp.trans h2)
theorem Kj{c:Code}{Q':Exit->AS->Prop}(h:tN P N c Q' s)(hq:∀e s,Q' e s->∃s',Re s s'/\Q e s'):tN P N c Q s:=λw0 a w E hr=>by
 refine Code.wp_mono (λe a w he=>?_) (h w0 a w E hr);obtain⟨s1,E1,h1,h2⟩:=he;obtain⟨s2,r2,h3⟩:=hq e s1 h1;obtain⟨E2,h4⟩:=r2 w0 N a w E1 h2;exact⟨s2,E2,h3,h4⟩
def YV(h:aQ)(base l:Nat)(S:Sy):Option Pg:=match XT h base S with|some (ps,π)=>some (dq (ps.map .po) (.jump l π))|none=>none
theorem Ns{h:aQ}{base l:Nat}{pg:Pg}(hf:YV h base l S=some pg)(hl:ρ.length=base)(hp:aW ρ ρ')(hr:aV S ρ' σ s)(hw:W P R pg L ρ'):
 ∃J vs σ' s',L[l]? =some J/\J vs/\vs.length=h.np/\Re s s'/\aV h.H (ρ++vs) σ' s':=by
 unfold YV at hf;split at hf
 ·rename_i ps π hfit;cases hf;obtain⟨ρ2,he,hw2,-⟩:=bp (lV hw);simp[W]at hw2;obtain⟨J,vs,j1,j2,j3⟩:=hw2;obtain⟨f1,f2,σ',s',f3,f4⟩:=Oi hfit hl hp hr he j2
  grind
 grind
def jK(h:aQ)(base l:Nat)(K:Kt):Kt:=λlv e S'=>match e with|.normal=>YV h base l S'|e=>K lv e S'
def Dl(hs:List aQ)(key lv:Nat)(S:Sy)(K:Kt)(body:Nat->Kt->Option Pg):Option Pg:=
 match Nz hs key with
 |none=>body lv K
 |some h=>if h.H.m=S.m+h.np then(match K lv .normal h.H,body (lv+1) (jK h S.m lv K)with|some rest,some k=>some (.join h.np rest k)|_,_=>none)else none
def Zj(Q:Exit->AS->Prop):Exit->AS->Prop
 |.normal,s=>∃s',Re s s'/\Q .normal s'
 |e,s=>Q e s
theorem uL{hs:List aQ}{key lv:Nat}{K:Kt}{body:Nat->Kt->Option Pg}{c:Code}{pg:Pg}(h:Dl hs key lv S K body=some pg)(hl:lv=L.length)(hr:aV S ρ σ s)(hk:La P R L ρ Q K)(hw:W P R pg L ρ)
 (hb:∀lv K' pg L' Q',body lv K'=some pg->lv=L'.length->La P R L' ρ Q' K'->W P R pg L' ρ->tN P N c Q' s):tN P N c Q s:=by
 unfold Dl at h;split at h
 ·grind
 ·rename_i hh _;split at h
  ·rename_i hm;split at h
   ·rename_i rest k h1 h2;cases h;simp[W]at hw;obtain⟨J,w1,w2⟩:=hw;refine Kj (Q':=Zj Q) (hb _ _ _ (L++[J]) (Zj Q) h2 (by grind) ?_ w2) ?_
    ·intro L' ρ' hL hp e S' pg' hpg σ' s' hr' hw';unfold jK at hpg
     cases e with
     |normal=>
      obtain⟨J',vs,σ2,s2,j1,j2,j3,j4,j5⟩:=Ns hpg hr.m hp hr' hw';rw[hL.get (i:=lv) (x:=J) (by grind)]at j1;cases j1
      exact⟨s2,j4,hk L (ρ++vs) (aW.refl _) (aW.app _ _) _ _ _ (hl▸h1) _ _ j5 (w1 vs j3 j2)⟩
     |_=>exact hk L' ρ' ((aW.app _ _).trans hL) hp _ _ _ hpg _ _ hr' hw'
    ·intro e s1 h1
     cases e with
     |normal=>exact h1
     |_=>exact⟨s1,Re.refl _,h1⟩
   grind
  grind
def TS(P:Program)(S:Sy)(o:Oper):Option (List PO×Nat×Sy×Sy):=match o.op with
 |.call ⟨.builtin .append,⟨[X,Y]⟩,⟨[t,t']⟩⟩=>if t'=t then(match dN P t with
  |some (el,k)=>(match aT P el,dW P el with
   |some zs,some b=>if zs.length=k/\0<k then(match gW S Y with
    |some (q,u,S1)=>(match gW S1 X with
     |some (p,v,S2)=>(match one v,one u with
      |some .emp,some cy=>(match Jl P (S2.bind 1) el k cy with
       |some (r,y,S3)=>some (q++(p++([PO.e el k]++(r++([PO.app el k b S2.m y]++[PO.emp S3.m])))),S3.m+1,{ (S3.bind 1).bind 1 with kn:=(S3.m+1,true)::S3.kn}.put o.dst (.p false [.emp]),
        (({ (S3.bind 1).bind 1 with kn:=(S3.m+1,false)::S3.kn}:Sy).push (.shr S3.c el k S3.m)).put o.dst (.p false [.own S3.n S3.c]))
       |none=>none)
      |_,_=>none)
     |none=>none)
    |none=>none)else none
   |_,_=>none)
  |none=>none)else none
 |_=>none
theorem QU{ps:List PO}{i:Nat}{Sa Sb:Sy}{o:Oper}{a b:Pg}(h:TS P S o=some (ps,i,Sa,Sb))(hd:dB N o.dst=true)(hr:aV S ρ σ s)(hw:W P R (dq (ps.map .po) (.ite i a b)) L ρ):
 ∃ρ' σ' s',eb P N o s s'/\aW ρ ρ'/\((aV Sa ρ' σ' s'/\W P R a L ρ')\/(aV Sb ρ' σ' s'/\W P R b L ρ')):=by
 unfold TS at h;split at h
 ·rename_i X Y t t' hop;split at h
  ·rename_i htt;subst htt;split at h
   ·rename_i el k ht;split at h
    ·rename_i zs by_ hz hby
     split at h
     ·rename_i hzk;split at h
      ·rename_i q u S1 hu;split at h
       ·rename_i p v S2 hv;split at h
        ·rename_i cy hone hcy;split at h
         ·rename_i r y S3 hsrc;injection h with h;injection h with e1 h;injection h with e2 h;injection h with e3 e4;subst e1 e2 e3 e4;obtain⟨ρ',he,hw2,hpre⟩:=bp (lV hw);obtain⟨ρ1,c1,c2⟩:=ai he;obtain⟨ρ2,d1,d2⟩:=ai c2;obtain⟨ρ3,f1,f2⟩:=ai (ps:=[PO.e el k]) d2;obtain⟨ρ4,g1,g2⟩:=ai f2;obtain⟨ρ5,i1,i2⟩:=ai (ps:=[PO.app el k by_ S2.m y]) (qs:=[PO.emp S3.m]) g2;obtain⟨out,o1,rfl⟩:=az f1;simp only[aG]at o1;cases o1;obtain⟨es0,fs,t',a1,a2,a3,a4,rfl⟩:=jQ i1;obtain⟨out2,o2,rfl⟩:=az i2;obtain⟨k1,k2⟩:=aU hu c1 hr;obtain⟨m1,m2⟩:=aU hv d1 k2;obtain⟨acx,x1,x2⟩:=bk hone m1;obtain⟨acy,y1,y2⟩:=bk hcy k1;cases acx<;>first|exact x2.elim|skip
          have m3:=m2.bind (out:=[DV.sl el k []]) (k:=1) rfl
          have hes0:es0=[]:=by
           have h0:(ρ2++[DV.sl el k []])[S2.m]? =some (.sl el k []):=by rw[<-m2.m];simp
           rw[(aj g1).get h0]at a1
           grind
          subst hes0;simp only[List.nil_append,List.length_nil,Nat.zero_add]at *;obtain⟨b1,b2,-,-,-⟩:=F2 hsrc g1 m3 (y2.mono ((aj d1).trans (aW.app _ _)) (aW.refl _)) a2;have b3:=b2.bind (out:=[DV.sl el k fs]) (k:=1) rfl;have hSm:(ρ4++[DV.sl el k fs])[S3.m]? =some (.sl el k fs):=by rw[<-b2.m];simp
          simp only[aG,hSm]at o2;cases o2;have b4:=b3.bind (out:=[DV.sc (.bool fs.isEmpty)]) (k:=1) rfl
          have hi:(ρ4++[DV.sl el k fs]++[DV.sc (.bool fs.isEmpty)])[S3.m+1]? =some (.sc (.bool fs.isEmpty)):=by
           have:=b3.m;rw[List.getElem?_append_right (by rw[this];exact Nat.le_refl _),this];simp[Sy.bind]
          simp only[W,hi]at hw2
          cases fs with
          |nil=>
           refine⟨_,σ,_,PB (by_:=by_) hop (cn hd) ht hz hzk.1 x1 y1 b1,hpre,.inl ⟨?_,hw2⟩⟩
           exact(b4.know hi).put (d:=o.dst) (v:=.p false [.emp]) (x:=.p false [.emp]) ⟨rfl,trivial,trivial⟩
          |cons f0 fs=>
           refine⟨_,σ++[s.c],_,Ps hop (cn hd) ht hz hzk.1 hzk.2 hby x1 y1 b1 (by simp) (by assumption) a4,hpre,.inr ⟨?_,hw2⟩⟩;have hp:=(b4.know hi).push (so:=.shr S3.c el k S3.m) (ob:=.row s.c el k (f0::fs) false) ⟨b4.last _,rfl,rfl,rfl,(aW.app _ _).get hSm⟩;exact hp.put (d:=o.dst) (v:=.p false [.own S3.n S3.c]) (x:=.p false [.own s.n s.c]) ⟨rfl,⟨b4.n,b4.last _⟩,trivial⟩
         grind
        grind
       grind
      grind
     grind
    grind
   grind
  grind
 grind
def Mj(P:Program)(ow:iI)(o:Oper)(S:Sy)(k:Sy->Option Pg):Option Pg:=match TS P S o with
 |some (ps,i,Sa,Sb)=>(match k Sa,k Sb with|some a,some b=>some (dq (ps.map .po) (.ite i a b))|_,_=>none)
 |none=>match SF P ow S o with|some (n,S')=>(match k S' with|some g=>some (dq n g)|none=>none)|none=>none
def Bc(P:Program)(N:Nat)(ow:iI)(ops:Array Oper):List Oper->Nat->Sy->Kt->Option Pg
 |[],lv,S,K=>K lv .normal S
 |o::r,lv,S,K=>if dB N o.dst then(match o.guard with
  |none=>Mj P ow o S λS'=>Bc P N ow ops r lv S' K
  |some (g,want)=>(match kb ops g with
   |some t=>if t<N then(match aS S.sl t with
    |some (.tup [])=>Bc P N ow ops r lv (S.put o.dst (.tup [])) K
    |some (.p false [.d i])=>(match aS S.kn i with
     |some b=>if b=want then Mj P ow o S λS'=>Bc P N ow ops r lv S' K else Bc P N ow ops r lv (S.put o.dst (.tup [])) K
     |none=>(match(Mj P ow o {S with kn:=(i,want)::S.kn} λS'=>Bc P N ow ops r lv S' K),Bc P N ow ops r lv ({S with kn:=(i,!want)::S.kn}.put o.dst (.tup [])) K with
      |some a,some b=>some (if want then .ite i a b else .ite i b a)
      |_,_=>none))
    |_=>none)else none
   |none=>none))else none
theorem E5{o:Oper}{k:Sy->Option Pg}{pg:Pg}(h:Mj P ow o S k=some pg)(hd:dB N o.dst=true)(hr:aV S ρ σ s)(hw:W P R pg L ρ):
 ∃ρ' σ' s' S' g,eb P N o s s'/\aV S' ρ' σ' s'/\k S'=some g/\W P R g L ρ'/\aW ρ ρ':=by
 unfold Mj at h;split at h
 ·grind[QU]
 split at h
 ·rename_i n S' ho;split at h
  ·rename_i g hg;cases h;obtain⟨ρ',σ',s',h1,h2,h3,h4⟩:=Pp ho hd hr (lV hw)
   grind
  grind
 grind
theorem qh{i t:Nat}{b:Bool}(hr:aV S ρ σ s)(ht:aS S.sl t=some (.p false [.d i]))(hb:ρ[i]? =some (.sc (.bool b))):s.sl t=.p false [.d (.sc (.bool b))]:=by
 obtain⟨y,y1,y2⟩:=cJ (v:=.p false [.d i]) rfl (hr.sl t _ ht);rw[hb]at y2;grind
theorem iV{ops:Array Oper}{K:Kt}:∀{l:List Oper} {lv:Nat} {S:Sy} {pg:Pg} {ρ:List DV} {σ:List Nat} {s:AS},Bc P N ow ops l lv S K=some pg->lv=L.length->aV S ρ σ s->La P R L ρ Q K->W P R pg L ρ->lu P N ops l Q s
 |[],lv,S,pg,ρ,σ,s,h,hl,hr,hk,hw=>F4 (hk L ρ (aW.refl _) (aW.refl _) _ _ _ (by rw[<-hl];exact h) _ _ hr hw)
 |o::r,lv,S,pg,ρ,σ,s,h,hl,hr,hk,hw=>by
  simp only[Bc]at h;split at h
  ·rename_i hd;split at h
   ·rename_i hg;obtain⟨ρ',σ',s',S',g,r1,r2,r3,r4,r5⟩:=E5 h hd hr hw;exact Dh hg r1 (iV r3 hl r2 (hk.mono (aW.refl _) r5) r4)
   ·rename_i g want hg;split at h
    ·rename_i t hgs;split at h
     ·rename_i htN;split at h
      ·rename_i ht
       have hs:s.sl t=.tup []:=by
        have:=hr.sl t _ ht
        cases hx:s.sl t with
        |tup ys=>rw[hx]at this;cases ys with
         |nil=>rfl
         |cons=>exact this.elim
        |p=>rw[hx]at this;exact this.elim
        |und=>rw[hx]at this;exact this.elim
       exact ms hg hgs hs htN (cn hd) (iV h hl (hr.put (v:=.tup []) (x:=.tup []) trivial) hk hw)
      ·rename_i i ht;split at h
       ·rename_i b hb;have hs:=qh hr ht (hr.kn i b hb);split at h
        ·rename_i e;subst e;obtain⟨ρ',σ',s',S',g',r1,r2,r3,r4,r5⟩:=E5 h hd hr hw;exact jC hg hgs hs htN r1 (iV r3 hl r2 (hk.mono (aW.refl _) r5) r4)
        ·rename_i e;exact gX hg hgs hs htN e (cn hd) (iV h hl (hr.put (v:=.tup []) (x:=.tup []) trivial) hk hw)
       ·split at h
        ·rename_i ga gb h1 h2;cases h
         have hw':∃b,ρ[i]? =some (.sc (.bool b))/\(if b=want then W P R ga L ρ else W P R gb L ρ):=by
          grind[W]
         obtain⟨b,hb,hw'⟩:=hw';have hs:=qh hr ht hb;split at hw'
         ·rename_i e;subst e;obtain⟨ρ',σ',s',S',g',r1,r2,r3,r4,r5⟩:=E5 h1 hd (hr.know hb) hw';exact jC hg hgs hs htN r1 (iV r3 hl r2 (hk.mono (aW.refl _) r5) r4)
         ·rename_i e;have hb':ρ[i]? =some (.sc (.bool (!want))):=by rw[hb];cases b<;>cases want<;>simp_all
          exact gX hg hgs hs htN e (cn hd) (iV h2 hl ((hr.know hb').put (v:=.tup []) (x:=.tup []) trivial) hk hw')
        grind
      grind
     grind
    grind
  grind
end
end Go.Proofs.YtliknccmjjncbaaGreat
namespace Go.Proofs.YtliknccmjjncbaaGreat
open Go.RowKit
def Rc:Code->Option Nat
 |.region id _ _=>some id
 |.seq a b=>(match Rc a with|some i=>some i|none=>Rc b)
 |.block _ a=>Rc a
 |.loop a=>Rc a
 |.cond _ a b=>(match Rc a with|some i=>some i|none=>Rc b)
 |_=>none
abbrev Dt:=Nat->Array Oper->Nat->Sy->Kt->Option Pg
def RK(y:Nat->Sy->Option Pg)(K:Kt):Kt:=λlv e S=>match e with|.normal=>y lv S|e=>K lv e S
def So(id:Nat)(K:Kt):Kt:=λlv e S=>match e with|.exit id'=>if id'=id then K lv .normal S else K lv (.exit id') S|e=>K lv e S
def RQ(S:Sy)(c:Operand)(gx gy:Sy->Option Pg):Option Pg:=
 match gW S c with
 |some (p,.p false [.d i],S1)=>(match aS S1.kn i with
  |some b=>(match(if b then gx S1 else gy S1)with|some g=>some (dq (p.map .po) g)|none=>none)
  |none=>(match gx {S1 with kn:=(i,true)::S1.kn},gy {S1 with kn:=(i,false)::S1.kn}with|some a,some b=>some (dq (p.map .po) (.ite i a b))|_,_=>none))
 |_=>none
def Em(P:Program)(N:Nat)(ow:iI)(hs:List aQ)(D:Dt):Code->Nat->Sy->Kt->Option Pg
 |.skip,lv,S,K=>K lv .normal S
 |.exit id,lv,S,K=>K lv (.exit id) S
 |.ret,lv,S,K=>K lv .ret S
 |.seq x y,lv,S,K=>Em P N ow hs D x lv S (RK (λlv S'=>Em P N ow hs D y lv S' K) K)
 |.block id x,lv,S,K=>Dl hs (2000000+id) lv S K λlv K=>Em P N ow hs D x lv S (So id K)
 |.cond c x y,lv,S,K=>Dl hs (1000000+(match Rc x with|some i=>i|none=>(Rc y).getD 0)) lv S K λlv K=>RQ S c (λS=>Em P N ow hs D x lv S K) (λS=>Em P N ow hs D y lv S K)
 |.region id ops false,lv,S,K=>Dl hs id lv S K λlv K=>Bc P N ow ops ops.toList lv S K
 |.region id ops true,lv,S,K=>Dl hs id lv S K λlv K=>D id ops lv S K
 |.loop c,lv,S,K=>(match Nz hs (3000000+(Rc c).getD 0)with
  |some h=>if h.H.m=(yO h.nils S).2.m+h.np then(match XT h (yO h.nils S).2.m (yO h.nils S).2,Em P N ow hs D c (lv+1) h.H (jK h (yO h.nils S).2.m lv K)with
   |some ([],π),some body=>some (dq ((yO h.nils S).1.map .po) (.loop π body))
   |_,_=>none)else none
  |none=>none)
 |_,_,_,_=>none
section
variable {P:Program}{R:List (Bool×List DV)->Prop}{N:Nat}{ow:iI}{hs:List aQ}{D:Dt}
def X4(P:Program)(R:List (Bool×List DV)->Prop)(N:Nat)(D:Dt):Prop:=
 ∀id ops lv S K pg,D id ops lv S K=some pg->∀(L:Lbl) ρ σ s Q,lv=L.length->aV S ρ σ s->La P R L ρ Q K->W P R pg L ρ->tN P N (.region id ops true) Q s
theorem DT(hD:X4 P R N D):∀(c:Code) {lv:Nat} {S:Sy} {K:Kt} {pg:Pg} {L:Lbl} {ρ:List DV} {σ:List Nat} {s:AS} {Q:Exit->AS->Prop},Em P N ow hs D c lv S K=some pg->lv=L.length->aV S ρ σ s->La P R L ρ Q K->W P R pg L ρ->tN P N c Q s:=by
 intro c
 induction c with
 |skip=>intro lv S K pg L ρ σ s Q h hl hr hk hw;exact Lq (hk L ρ (aW.refl _) (aW.refl _) _ _ _ (by rw[<-hl];exact h) _ _ hr hw)
 |exit id=>intro lv S K pg L ρ σ s Q h hl hr hk hw;exact L6 (hk L ρ (aW.refl _) (aW.refl _) _ _ _ (by rw[<-hl];exact h) _ _ hr hw)
 |ret=>intro lv S K pg L ρ σ s Q h hl hr hk hw;exact P5 (hk L ρ (aW.refl _) (aW.refl _) _ _ _ (by rw[<-hl];exact h) _ _ hr hw)
 |seq x y ihx ihy=>
  intro lv S K pg L ρ σ s Q h hl hr hk hw;simp[Em]at h;refine PY (ihx h hl hr ?_ hw);intro L' ρ' hL hp e S' pg' hpg σ' s' hr' hw';unfold RK at hpg
  cases e with
  |normal=>exact ihy hpg rfl hr' (hk.mono hL hp) hw'
  |_=>exact hk L' ρ' hL hp _ _ _ hpg _ _ hr' hw'
 |block id x ih=>
  intro lv S K pg L ρ σ s Q h hl hr hk hw;simp[Em]at h;refine uL h hl hr hk hw λlv K' pg L' Q' hb hl' hk' hw'=>?_
  refine Kx (ih hb hl' hr ?_ hw');intro L2 ρ2 hL hp e S2 pg2 hpg σ2 s2 hr2 hw2;unfold So at hpg
  cases e with
  |exit id'=>
   simp only at hpg;simp[Fg];split at hpg
   ·rename_i e;rw[if_pos e];exact hk' L2 ρ2 hL hp _ _ _ hpg _ _ hr2 hw2
   ·rename_i e;rw[if_neg e];exact hk' L2 ρ2 hL hp _ _ _ hpg _ _ hr2 hw2
  |_=>exact hk' L2 ρ2 hL hp _ _ _ hpg _ _ hr2 hw2
 |cond c x y ihx ihy=>
  intro lv S K pg L ρ σ s Q h hl hr hk hw;simp[Em]at h;refine uL h hl hr hk hw λlv K' pg L' Q' hb hl' hk' hw'=>?_
  unfold RQ at hb;split at hb
  ·rename_i p i S1 hv;split at hb
   ·rename_i b hkn;split at hb
    ·rename_i g hg;cases hb;obtain⟨ρ1,he,hw1,hp1⟩:=bp (lV hw');obtain⟨k1,k2⟩:=aU hv he hr;obtain⟨z,z1,z2⟩:=cJ (i:=i) rfl k1;rw[k2.kn i b hkn]at z2;cases z2;refine FT z1 ?_
     cases b with
     |true=>exact ihx hg hl' k2 (hk'.mono (aW.refl _) hp1) hw1
     |false=>exact ihy hg hl' k2 (hk'.mono (aW.refl _) hp1) hw1
    grind
   ·split at hb
    ·rename_i ga gb h1 h2;cases hb;obtain⟨ρ1,he,hw1,hp1⟩:=bp (lV hw');obtain⟨k1,k2⟩:=aU hv he hr;obtain⟨z,z1,z2⟩:=cJ (i:=i) rfl k1;simp[W]at hw1;split at hw1
     ·rename_i b hb;rw[hb]at z2;cases z2;refine FT z1 ?_
      cases b with
      |true=>exact ihx h1 hl' (k2.know hb) (hk'.mono (aW.refl _) hp1) hw1
      |false=>exact ihy h2 hl' (k2.know hb) (hk'.mono (aW.refl _) hp1) hw1
     grind
    grind
  grind
 |region id ops dr=>
  intro lv S K pg L ρ σ s Q h hl hr hk hw
  cases dr with
  |false=>
   simp[Em]at h
   grind[uL,Hj,iV]
  |true=>
   simp[Em]at h;refine uL h hl hr hk hw λlv K' pg L' Q' hb hl' hk' hw'=>?_
   exact hD _ _ _ _ _ _ hb _ _ _ _ _ hl' hr hk' hw'
 |loop c ih=>
  intro lv S K pg L ρ σ s Q h hl hr hk hw;simp[Em]at h;split at h
  ·rename_i hh _;split at h
   ·rename_i hm;split at h
    ·rename_i π body hf hb;cases h;obtain⟨ρ1,he,hw1,hp1⟩:=bp (lV hw);obtain⟨σ1,s1,re1,hr1⟩:=EL he hr;simp[W]at hw1;obtain⟨I,m,vs,v1,v2,v3⟩:=hw1;obtain⟨f1,f2,σ2,s2,f3,f4⟩:=Oi hf hr1.m (aW.refl _) hr1 rfl v1;refine Ts (re1.trans f3) (GV (λs m=>∃vs σ,vs.length=hh.np/\I vs m/\aV hh.H (ρ1++vs) σ s) m ⟨vs,σ2,f1,v2,f4⟩ ?_);rintro s3 m3 ⟨vs3,σ3,g1,g2,g3⟩;refine ih hb (L:=L++[λvs'=>∃m',m'<m3/\I vs' m']) (by grind) g3 ?_ (v3 vs3 m3 (by rw[g1,f2]) g2);intro L' ρ' hL hp e S' pg' hpg σ' s' hr' hw';unfold jK at hpg
     cases e with
     |normal=>
      obtain⟨J',vs',σ4,s4,j1,j2,j3,j4,j5⟩:=Ns hpg hr1.m ((aW.app _ _).trans hp) hr' hw';rw[hL.get (i:=lv) (x:=λvs'=>∃m',m'<m3/\I vs' m') (by grind)]at j1
      grind
     |_=>exact hk L' ρ' ((aW.app _ _).trans hL) (hp1.trans ((aW.app _ _).trans hp)) _ _ _ hpg _ _ hr' hw'
    grind
   grind
  grind
 |_=>intro lv S K pg L ρ σ s Q h;simp[Em]at h
end
section
variable {P:Program}{ρ ρ':List DV}{σ:List Nat}{S S':Sy}{s s0:AS}{ps:List PO}
def YN(P:Program)(S:Sy):ResultVar->Option (List PO×Bool×List SC×Sy)
 |.tmp t=>(match aS S.sl t with|some (.p b cs)=>some ([],b,cs,S)|_=>none)
 |.cell t ty=>(match aS S.sl t with
  |some v=>(match one v with|some c=>(match Js P S ty c with|some (p,.p b cs,S1)=>some (p,b,cs,S1)|_=>none)|none=>none)
  |none=>none)
def Fl(P:Program):List ResultVar->Sy->Option (List PO×List (Bool×List SC)×Sy)
 |[],S=>some ([],[],S)
 |rv::r,S=>(match YN P S rv with
  |some (p,b,cs,S1)=>(match Fl P r S1 with|some (q,xs,S2)=>some (p++q,(b,cs)::xs,S2)|none=>none)
  |none=>none)
def XZ(P:Program)(s0:AS):List ResultVar->List (Bool×List AC)->Prop
 |[],[]=>True
 |rv::rvs,y::ys=>O8 P s0 rv=some (.p y.1 y.2)/\XZ P s0 rvs ys
 |_,_=>False
theorem SJ{rv:ResultVar}{b:Bool}{cs:List SC}(h:YN P S rv=some (ps,b,cs,S'))(he:ay ps ρ=some ρ')(hr:aV S ρ σ s0):∃ys,O8 P s0 rv=some (.p b ys)/\cm ρ' σ cs ys/\aV S' ρ' σ s0:=by
 unfold YN at h;split at h
 ·split at h
  ·rename_i ht;injection h with h;injection h with e1 h;injection h with e2 h;injection h with e3 e4;subst e1 e2 e3 e4;simp only[ay]at he;cases he;have:=hr.sl _ _ ht;rename_i t b cs _
   cases hx:s0.sl t with
   |p b' ys=>rw[hx]at this;obtain⟨rfl,h2⟩:=this;grind[O8]
   |tup=>rw[hx]at this;exact this.elim
   |und=>rw[hx]at this;exact this.elim
  grind
 ·split at h
  ·rename_i t ty v ht;split at h
   ·rename_i c hc;split at h
    ·rename_i p b' cs' S1 hl;cases h;obtain⟨y,y1,y2⟩:=bk hc (hr.sl _ _ ht);obtain⟨x,x1,x2,x3⟩:=GD hl he hr y2
     cases x with
     |p b2 ys=>obtain⟨rfl,h2⟩:=x2;grind[O8]
     |tup=>exact x2.elim
     |und=>exact x2.elim
    grind
   grind
  grind
theorem D9:∀{rvs:List ResultVar} {xs:List (Bool×List SC)} {S S':Sy} {ps:List PO} {ρ ρ':List DV},Fl P rvs S=some (ps,xs,S')->ay ps ρ=some ρ'->aV S ρ σ s0->∃ys,XZ P s0 rvs ys/\RT ρ' σ xs ys/\aV S' ρ' σ s0
 |[],xs,S,S',ps,ρ,ρ',h,he,hr=>by
  simp only[Fl]at h;cases h;simp only[ay]at he;cases he
  exact⟨[],trivial,trivial,hr⟩
 |rv::r,xs,S,S',ps,ρ,ρ',h,he,hr=>by
  simp[Fl]at h;split at h
  ·rename_i p b cs S1 h1;split at h
   ·rename_i q xs' S2 h2;cases h;obtain⟨ρ1,a1,a2⟩:=ai he;obtain⟨ys,y1,y2,y3⟩:=SJ h1 a1 hr;obtain⟨zs,z1,z2,z3⟩:=D9 h2 a2 y3;exact⟨(b,ys)::zs,⟨y1,z1⟩,⟨⟨rfl,cm.mono (aj a2) (aW.refl _) y2⟩,z2⟩,z3⟩
   grind
  grind
def Ky:List (Bool×List SC)->List (List (Option (Nat×Nat)))->Sy->Option (List PO×List (Bool×List Nat))
 |[],_,S=>some ([],[])
 |(b,cs)::r,ty,S=>(match bY cs (ty.headD []) S with
  |some (p,xs,S1)=>(match Ky r ty.tail S1 with|some (q,l)=>some (p++q,(b,xs)::l)|none=>none)
  |none=>none)
theorem IT:∀{xs:List (Bool×List SC)} {ty:List (List (Option (Nat×Nat)))} {l:List (Bool×List Nat)} {S:Sy} {ps:List PO} {ρ ρ':List DV} {s:AS} {rvs:List ResultVar} {ys:List (Bool×List AC)},
 Ky xs ty S=some (ps,l)->ay ps ρ=some ρ'->aV S ρ σ s->XZ P s0 rvs ys->RT ρ σ xs ys->∃ds,ca ρ' l=some ds/\c9 P s0 rvs (ds.map λd=>(d.1,d.2,true)) s
 |[],ty,l,S,ps,ρ,ρ',s,rvs,ys,h,he,hr,hv,ht=>by
  simp only[Ky]at h;cases h
  match ys,ht with
  |[],_=>
   cases rvs with
   |nil=>exact⟨[],rfl,trivial⟩
   |cons=>exact hv.elim
 |(b,cs)::r,ty,l,S,ps,ρ,ρ',s,rvs,ys,h,he,hr,hv,ht=>by
  simp[Ky]at h;split at h
  ·rename_i p xs S1 h1;split at h
   ·rename_i q l' h2;cases h
    match ys,rvs,ht,hv with
    |y::ys,rv::rvs,ht,hv=>
     obtain⟨ρ1,a1,a2⟩:=ai he;obtain⟨s1,ds,g1,g2,g3,-⟩:=eR h1 a1 hr ht.1.2;obtain⟨dss,d1,d2⟩:=IT h2 a2 g3 hv.2 (RT.mono (aj a1) (aW.refl _) ht.2);refine⟨(b,ds)::dss,by simp[ca,g2.app_pre (aj a2),d1],?_⟩;simp only[List.map_cons,c9];refine⟨trivial,?_⟩;rw[hv.1];exact⟨ht.1.1,s1,g1,d2⟩
   grind
  grind
def DA(P:Program)(rvs:List ResultVar)(ty:List (List (Option (Nat×Nat)))):Kt:=λ_ e S=>
 match e with
 |.normal|.ret=>(match Fl P rvs S with
  |some (p,xs,S1)=>(match Ky xs ty S1 with|some (q,l)=>some (dq ((p++q).map .po) (.ret l))|none=>none)
  |none=>none)
 |_=>none
def pd(res:List Rs)(vs:List (Bool×List DV)):Prop:=(vs.map λd=>(d.1,d.2,true))=res
theorem BA{rvs:List ResultVar}{ty:List (List (Option (Nat×Nat)))}{res:List Rs}{L:Lbl}:La P (pd res) L ρ (DO P rvs res) (DA P rvs ty):=by
 intro L' ρ1 hL hp e S pg hpg σ s hr hw
 have key:∀p xs S1 q l,Fl P rvs S=some (p,xs,S1)->Ky xs ty S1=some (q,l)->pg=dq ((p++q).map .po) (.ret l)->c9 P s rvs res s:=by
  intro p xs S1 q l h1 h2 e;subst e;obtain⟨ρ2,he,hw2,-⟩:=bp (lV hw);simp[W]at hw2;obtain⟨vs,w1,w2⟩:=hw2;obtain⟨ρ3,a1,a2⟩:=ai he;obtain⟨ys,y1,y2,y3⟩:=D9 h1 a1 hr;obtain⟨ds,d1,d2⟩:=IT (P:=P) (s0:=s) h2 a2 y3 y1 y2;rw[w1]at d1;cases d1;rw[w2]at d2;exact d2
 unfold DA at hpg;split at hpg
 ·split at hpg
  ·split at hpg
   ·injection hpg with hpg;exact Or.inl (key _ _ _ _ _ (by assumption) (by omega) hpg.symm)
   grind
  grind
 ·split at hpg
  ·split at hpg
   ·injection hpg with hpg;exact Or.inl (key _ _ _ _ _ (by assumption) (by omega) hpg.symm)
   grind
  grind
 grind
def VR:List (Bool×Nat)->Nat->Nat->List (Nat×SV)
 |[],_,_=>[]
 |(b,n)::r,t,m=>(t,.p b ((db m n).map .d))::VR r (t+1) (m+n)
def fu:List (Bool×List DV)->List DV
 |[]=>[]
 |(_,ds)::r=>ds++fu r
def Eo(args:List (Bool×List DV)):List (Bool×Nat):=args.map λa=>(a.1,a.2.length)
theorem Iu:∀{args:List (Bool×List DV)} {t0 t:Nat} {pre:List DV} {x:SV},aS (VR (Eo args) t0 pre.length) t=some x->∃b ds m,t0<=t/\args[t-t0]? =some (b,ds)/\x=.p b ((db m ds.length).map .d)/\RD (pre++fu args) (db m ds.length) ds
 |[],t0,t,pre,x,h=>by grind[Eo,VR,aS]
 |(b,ds)::r,t0,t,pre,x,h=>by
  simp[Eo,List.map_cons,VR,aS]at h;split at h
  ·rename_i e;subst e;injection h with h;refine⟨b,ds,pre.length,Nat.le_refl _,by simp,h.symm,?_⟩;have:RD (pre++ds) (db pre.length ds.length) ds:=Es;simp[fu];rw[<-List.append_assoc];exact this.mono (aW.app _ _)
  ·rename_i e;obtain⟨b',ds',m,h1,h2,h3,h4⟩:=Iu (args:=r) (t0:=t0+1) (t:=t) (pre:=pre++ds) (x:=x) (by grind[Eo])
   grind[fu]
def su(sh:List (Bool×Nat)):Sy:=⟨VR sh 0 0,[],0,0,(sh.map (·.2)).sum,[]⟩
theorem Gg(args:List (Bool×List DV)):aV (su (Eo args)) (fu args) [] (lF args):=by
 refine⟨rfl,rfl,?_,λt x hx=>?_,λi x hx=>by grind[su,aS],λi b hb=>by grind[su,aS]⟩
 ·simp[su]
  induction args with
  |nil=>rfl
  |cons a r ih=>grind[fu,Eo,List.length_append]
 ·obtain⟨b,ds,m,h1,h2,h3,h4⟩:=Iu (pre:=[]) hx;subst h3;rw[Nat.sub_zero]at h2;simp[lF,h2];exact⟨rfl,RD.toC (by assumption)⟩
theorem Mp{ow:iI}{hs:List aQ}{D:Dt}{f:FuncId}{fn:Func}{c:Code}{args:List (Bool×List DV)}{res:List Rs}{ty:List (List (Option (Nat×Nat)))}{sh:List (Bool×Nat)}{pg:Pg}(hD:X4 P (pd res) fn.ntmps D)
 (hf:P.funcs[f]? =some fn) (hb:fn.body=some c) (hc:bc P f=true) (hN:args.length<=fn.ntmps) (hsh:Eo args=sh)
 (hg:Em P fn.ntmps ow hs D c 0 (su sh) (DA P fn.results.toList ty)=some pg) (hw:W P (pd res) pg [] (fu args)):aB P f args res:=by
 subst hsh;exact Dm hf hb hc hN (DT hD c hg rfl (Gg args) BA hw)
end
end Go.Proofs.YtliknccmjjncbaaGreat
namespace Go.Proofs.YtliknccmjjncbaaGreat
open Go.RowKit
section
variable {P:Program}{R:List (Bool×List DV)->Prop}{N:Nat}{ow:iI}{ρ ρ':List DV}{σ σ' σh σq:List Nat}{S S' H Q H' Q':Sy}{s s' h q:AS}{ps:List PO}{o:Oper}{K:List DV->Prop}{n:List Nd}{L:Lbl}{pr:Bool}
theorem aV.sync(hr:aV S ρ σ s)(hp:aW ρ ρ'):aV {S with m:=ρ'.length} ρ' σ s:=hr.more hp rfl
def Kf(P:Program)(S:Sy):Op->SR
 |.build t parts=>(match Aa P S t parts.toList with|some (ps,cs,S')=>some (ps,.p true cs,S')|none=>none)
 |op=>W2 P S op
theorem qg{op:Op}{v:SV}(hh:Kf P S op=some (ps,v,S'))(he:ay ps ρ=some ρ')(hr:aV S ρ σ s):∃x,oW P s op=some x/\RV ρ' σ v x/\aV S' ρ' σ s:=by
 unfold Kf at hh;split at hh
 ·split at hh
  ·rename_i ps' cs S1 hb;cases hh;obtain⟨ht,z,ys,z1,z2,z3,z4⟩:=DL hb he hr;exact⟨.p true ys,by simp_all[oW,if_true],⟨rfl,z3⟩,z4⟩
  grind
 ·rename_i hnb;obtain⟨x,x1,x2,x3⟩:=LW hh he hr
  grind[oW]
def qE:List SC->List (Option (Nat×Nat))->Option (List PO)
 |[],_=>some []
 |.d i::r,ty=>(match ty.headD (some (0,0))with|none=>(match qE r ty.tail with|some p=>some (.sc i::p)|none=>none)|some _=>none)
 |.rd _::_,_=>none
 |.fn _ _::_,_=>none
 |.lit _::_,_=>none
 |_::r,ty=>qE r ty.tail
theorem kY:∀{cs:List SC} {ty:List (Option (Nat×Nat))} {ps:List PO} {ρ ρ':List DV} {ys:List AC},qE cs ty=some ps->ay ps ρ=some ρ'->cm ρ σ cs ys->ρ'=ρ/\ys.all ct=true
 |[],ty,ps,ρ,ρ',ys,hh,he,hc=>by
  simp[qE]at hh;cases hh;simp[ay]at he;cases he
  cases ys with
  |nil=>grind
  |cons=>exact hc.elim
 |c::r,ty,ps,ρ,ρ',[],hh,he,hc=>hc.elim
 |.d i::r,ty,ps,ρ,ρ',y::ys,hh,he,hc=>by
  simp[qE]at hh;split at hh
  ·split at hh
   ·rename_i p hp;cases hh;obtain⟨x,rfl,hx⟩:=sy hc.1;simp[ay,aG,hx]at he;split at he
    ·rename_i out ho;split at ho
     ·rename_i hsc;cases ho;rw[List.append_nil]at he;obtain⟨u,rfl⟩:=pG hsc;obtain⟨h1,h2⟩:=kY hp he hc.2
      grind[ct]
     grind
    grind
   grind
  grind
 |.nil::r,ty,ps,ρ,ρ',y::ys,hh,he,hc=>by
  simp[qE]at hh;cases y<;>first|exact hc.1.elim|skip
  obtain⟨h1,h2⟩:=kY hh he hc.2
  grind[ct]
 |.own _ _::r,ty,ps,ρ,ρ',y::ys,hh,he,hc=>by
  simp[qE]at hh;cases y<;>first|exact hc.1.elim|skip
  obtain⟨h1,h2⟩:=kY hh he hc.2
  grind[ct]
 |.ptr _ _ _::r,ty,ps,ρ,ρ',y::ys,hh,he,hc=>by
  simp[qE]at hh;cases y<;>first|exact hc.1.elim|skip
  obtain⟨h1,h2⟩:=kY hh he hc.2
  grind[ct]
 |.elt _ _ _ _ _::r,ty,ps,ρ,ρ',y::ys,hh,he,hc=>by
  simp[qE]at hh;cases y<;>first|exact hc.1.elim|skip
  obtain⟨h1,h2⟩:=kY hh he hc.2
  grind[ct]
 |.sub _ _ _ _ _::r,ty,ps,ρ,ρ',y::ys,hh,he,hc=>by
  simp[qE]at hh;cases y<;>first|exact hc.1.elim|skip
  obtain⟨h1,h2⟩:=kY hh he hc.2
  grind[ct]
 |.emp::r,ty,ps,ρ,ρ',y::ys,hh,he,hc=>by
  simp[qE]at hh;cases y<;>first|exact hc.1.elim|skip
  obtain⟨h1,h2⟩:=kY hh he hc.2
  grind[ct]
 |.rd _::r,ty,ps,ρ,ρ',y::ys,hh,he,hc=>by grind[qE]
 |.fn _ _::r,ty,ps,ρ,ρ',y::ys,hh,he,hc=>by grind[qE]
 |.lit _::r,ty,ps,ρ,ρ',y::ys,hh,he,hc=>by grind[qE]
abbrev HR:=Option (List Nd×Sy×Sy)
def LI(P:Program)(pr:Bool)(H Q:Sy)(o:Oper):HR:=
 match Kf P H o.op with
 |some (ps,v,H1)=>if pr then some (ps.map .po,H1.put o.dst v,{Q with m:=H1.m}.put o.dst v)else(match v with
  |.p b cs=>(match qE cs (Ev P 9 o.type)with
   |some sp=>some ((ps++sp).map .po,H1.put o.dst v,{Q with m:=H1.m}.put o.dst v)
   |none=>some (ps.map .po,H1.put o.dst v,{Q with m:=H1.m}.del o.dst))
  |.tup _=>some (ps.map .po,H1.put o.dst v,{Q with m:=H1.m}.del o.dst))
 |none=>none
def vu(P:Program)(pr:Bool)(h q:AS)(σh:List Nat)(o:Oper)(H' Q':Sy)(K:List DV->Prop):Prop:=
 ∃ρ' σq' kd x q',zr P pr h q o kd x q'/\aV H' ρ' σh (h.put o.dst x)/\aV Q' ρ' σq' q'/\aW σh σq'/\K ρ'
theorem EV(hh:LI P pr H Q o=some (n,H',Q'))(hr:aV H ρ σh h)(hq:aV Q ρ σq q)(hp:aW σh σq)(hw:WN P n K ρ):vu P pr h q σh o H' Q' K:=by
 unfold LI at hh;split at hh
 ·rename_i ps v H1 hv;split at hh
  ·rename_i hpr;cases hh;obtain⟨ρ',he,hk⟩:=bp hw;obtain⟨x,x1,x2,x3⟩:=qg hv he hr;refine⟨ρ',σq,.v x,x,q.put o.dst (jy pr x),.inl ⟨x,x1,rfl,rfl,rfl⟩,x3.put x2,?_,hp,hk⟩;rw[<-x3.m];refine(hq.sync (aj he)).put ?_;unfold jy;rw[if_pos hpr];exact x2.mono (aW.refl _) hp
  ·rename_i hpr;split at hh
   ·rename_i b cs;split at hh
    ·rename_i sp hsp;cases hh;obtain⟨ρ',he,hk⟩:=bp hw;obtain⟨ρ1,a1,a2⟩:=ai he;obtain⟨x,x1,x2,x3⟩:=qg hv a1 hr
     cases x with
     |p b' ys=>
      have x2':=x2;obtain⟨rfl,hc⟩:=x2;obtain⟨rfl,hs⟩:=kY hsp a2 hc;refine⟨ρ',σq,.v (.p b' ys),.p b' ys,q.put o.dst (jy pr (.p b' ys)),.inl ⟨_,x1,rfl,rfl,rfl⟩,x3.put x2',?_,hp,hk⟩;rw[<-x3.m];refine(hq.sync (aj a1)).put ?_
      unfold jy;rw[if_neg hpr];simp[hs,if_true];exact⟨rfl,cm.mono (aW.refl _) hp hc⟩
     |tup=>exact x2.elim
     |und=>exact x2.elim
    ·cases hh;obtain⟨ρ',he,hk⟩:=bp hw;obtain⟨x,x1,x2,x3⟩:=qg hv he hr;refine⟨ρ',σq,.v x,x,q.put o.dst (jy pr x),.inl ⟨x,x1,rfl,rfl,rfl⟩,x3.put x2,?_,hp,hk⟩;rw[<-x3.m];exact(hq.sync (aj he)).del
   ·cases hh;obtain⟨ρ',he,hk⟩:=bp hw;obtain⟨x,x1,x2,x3⟩:=qg hv he hr;refine⟨ρ',σq,.v x,x,q.put o.dst (jy pr x),.inl ⟨x,x1,rfl,rfl,rfl⟩,x3.put x2,?_,hp,hk⟩;rw[<-x3.m];exact(hq.sync (aj he)).del
 grind
def YF(P:Program)(H:Sy)(o:Oper):Bool:=match o.op with
 |.assign _|.load _ _=>(match Kf P H o.op with|some (_,.p _ cs,_)=>(qE cs (Ev P 9 o.type)).isSome&&cs.all (λc=>!decide (c=.emp))|_=>false)
 |_=>false
def U3(H:Sy)(o:Oper):Bool:=match o.op with
 |.load _ (.tmp x)=>(match aS H.sl x with|some (.p false [.ptr i st _])=>(match H.own i st with|some (.var _ _ _)=>true|_=>false)|_=>false)
 |.load _ _=>false
 |_=>true
theorem Pf(hr:aV H ρ σh h)(hp:GR o.op=true)(hl:U3 H o=true):Ht h o.op:=by
 refine⟨hp,λt x ho=>?_⟩;unfold U3 at hl;rw[ho]at hl;split at hl
 ·rename_i t' x' he;injection he with _ he;subst he;split at hl
  ·rename_i i st off hx;split at hl
   ·rename_i st0 ty cs hown;have hv:=hr.sl _ _ hx;show∃i st off ty cs,h.sl x'=_/\_
    cases hs:h.sl x' with
    |tup=>rw[hs]at hv;exact hv.elim
    |und=>rw[hs]at hv;exact hv.elim
    |p b ys=>
     rw[hs]at hv;obtain⟨rfl,hv⟩:=hv
     match ys,hv with
     |[y],hv=>
      cases y<;>first|exact hv.1.elim|skip
      obtain⟨⟨rfl,h2,rfl⟩,-⟩:=hv;obtain⟨o',k1,k2,-,-⟩:=hr.own hown h2;cases o'<;>first|exact k2.elim|skip
      obtain rfl:=bj k1 rfl
      grind
   grind
  grind
 ·cases hl
 grind
def Tt(P:Program)(pr:Bool)(H Q:Sy)(o:Oper):HR:=
 if YF P H o||(pr|| !GR o.op|| !U3 H o)then LI P pr H Q o else(match Kf P H o.op with
  |some (ps,v,H1)=>(match Kf P {Q with m:=H1.m} o.op with
   |some (qs,u,Q1)=>some ((ps++qs).map .po,{H1 with m:=Q1.m}.put o.dst v,Q1.put o.dst u)
   |none=>LI P pr H Q o)
  |none=>LI P pr H Q o)
theorem Q6(hh:Tt P pr H Q o=some (n,H',Q'))(hr:aV H ρ σh h)(hq:aV Q ρ σq q)(hp:aW σh σq)(hw:WN P n K ρ):vu P pr h q σh o H' Q' K:=by
 unfold Tt at hh;split at hh
 ·grind[EV]
 ·rename_i hpr;simp[Bool.or_eq_true,Bool.not_eq_true',not_or,Bool.not_eq_true,Bool.not_eq_false]at hpr
  replace hpr:=hpr.2
  obtain⟨⟨hpr0,hpr1⟩,hpr2⟩:=hpr;split at hh
  ·rename_i ps v H1 h1;split at hh
   ·rename_i qs u Q1 h2;cases hh;obtain⟨ρ',he,hk⟩:=bp hw;obtain⟨ρ1,a1,a2⟩:=ai he;obtain⟨x,x1,x2,x3⟩:=qg h1 a1 hr;have hq1:aV {Q with m:=H1.m} ρ1 σq q:=by rw[<-x3.m];exact hq.sync (aj a1)
    obtain⟨y,y1,y2,y3⟩:=qg h2 a2 hq1;have hr2:aV {H1 with m:=Q1.m} ρ' σh h:=by rw[<-y3.m];exact x3.sync (aj a2)
    exact⟨ρ',σq,.p o.op,x,q.put o.dst y,.inr (.inr (.inr (.inr (.inl ⟨x,y,Pf hr hpr1 hpr2,hpr0,x1,y1,rfl,rfl,rfl⟩)))),hr2.put (x2.mono (aj a2) (aW.refl _)),y3.put y2,hp,hk⟩
   grind[EV]
  grind[EV]
def G6(P:Program)(H Q:Sy)(d:Option Nat)(t:TypeId):HR:=
 match aT P t with
  |some vs=>(match sZ vs H.m with|some (p,cs)=>some (p.map .po,(H.bind p.length).del d,({Q with m:=(H.bind p.length).m}.push (.var Q.c t cs)).put d (.p false [.ptr Q.n Q.c 0]))|none=>none)
  |none=>none
theorem KM{t:TypeId}(ho:o.op=.alloc t)(hh:G6 P H Q o.dst t=some (n,H',Q'))(hr:aV H ρ σh h)(hq:aV Q ρ σq q)(hp:aW σh σq)(hw:WN P n K ρ):vu P pr h q σh o H' Q' K:=by
 unfold G6 at hh;split at hh
 ·rename_i vs hz;split at hh
  ·rename_i p cs hs;cases hh;obtain⟨ρ',he,hk⟩:=bp hw;obtain⟨acs,a1,a2,a3⟩:=Gk (σ:=σq) hs hr.m he;have hr1:aV (H.bind p.length) ρ' σh h:=hr.more (aj he) a3;refine⟨ρ',σq++[q.c],.a t acs,.und,(q.push (.var q.c t acs)).put o.dst (.p false [.ptr q.n q.c 0]),.inr (.inr (.inr (.inl ⟨t,acs,ho,by grind[aY],rfl,rfl,rfl⟩))),hr1.del,?_,hp.trans (aW.app _ _),hk⟩;have hq1:aV {Q with m:=(H.bind p.length).m} ρ' σq q:=by rw[<-hr1.m];exact hq.sync (aj he)
   exact(hq1.push (so:=.var Q.c t cs) (ob:=.var q.c t acs) ⟨hq1.last _,rfl,a2.mono (aW.refl _) (aW.app _ _)⟩).put ⟨rfl,⟨hq1.n,hq1.last _,rfl⟩,trivial⟩
  grind
 grind
def Xk(sh:Sh)(m:Nat):List (Bool×List SC):=match sh with
 |[]=>[]
 |(b,ss,_)::r=>(b,(db m ss.length).map .d)::Xk r (m+ss.length)
theorem E9:∀{rs:List Rs} {sh:Sh} {m:Nat},er sh rs=true->RD ρ (db m (bW rs).length) (bW rs)->RT ρ σ (Xk sh m) (rs.map λr=>(r.1,r.2.1.map AC.d))
 |[],sh,m,hh,hd=>by
  cases sh with
  |nil=>exact trivial
  |cons x r=>grind[er]
 |(b,ds,ow)::rs,sh,m,hh,hd=>by
  match sh,hh with
  |(b',ss,ow')::r,hh=>
   simp[er,Bool.and_eq_true,decide_eq_true_eq]at hh;obtain⟨⟨rfl,rfl⟩,h1,h2⟩:=hh;obtain⟨d1,d2⟩:=ut hd;rw[qb h1]at d1 d2;exact⟨⟨rfl,RD.toC d1⟩,E9 h2 d2⟩
theorem Bz{l:List (Bool×List SC)}{rs:List Rs}(hh:RT ρ σ l (rs.map λr=>(r.1,r.2.1.map AC.d))):RV ρ σ (pc l) (jc rs):=by
 unfold pc jc;generalize (rs.map λr=>(r.1,r.2.1.map AC.d))=l' at hh
 match l,l',hh with
 |[],[],hh=>exact hh
 |[(b,cs)],[(b',cs')],hh=>exact hh.1
 |x::y::l,x'::y'::l',hh=>exact hh
 |[x],_::_::_,hh=>exact hh.2.elim
 |_::_::_,[x],hh=>exact hh.2.elim
def Vn(sh:Sh):Bool:=sh.all λx=>x.2.1.all (·.isNone)
theorem Jh:∀{sh:Sh} {rs:List Rs} {c:Nat},Vn sh=true->er sh rs=true->b7 false rs c=[]
 |[],[],_,_,_=>rfl
 |(b,ss,ow)::sh,(b',ds,ow')::rs,c,h1,h2=>by
  simp[er,Bool.and_eq_true,decide_eq_true_eq]at h2;simp only[Vn,List.all_cons,Bool.and_eq_true]at h1
  have key:∀{ss:List (Option (Nat×Nat))} {ds:List DV} {c:Nat},(ss.all (·.isNone))=true->EN ss ds=true->kf false ds c=[]:=by
   intro ss
   induction ss with
   |nil=>intro ds c _ h;cases ds with
    |nil=>rfl
    |cons=>grind[EN]
   |cons x ss ih=>
    intro ds c hn h
    cases x with
    |some=>grind
    |none=>
     cases ds with
     |nil=>rfl
     |cons d ds=>cases d with
      |sc u=>grind[EN,kf]
      |sl=>grind[EN]
  have k1:=key (c:=c) h1.1 h2.2.1;have k2:=Jh (c:=c) h1.2 h2.2.2
  cases ow' with
  |true=>simp_all[b7,List.length_nil,Nat.add_zero,List.append_nil]
  |false=>assumption
 |[],_::_,_,_,h=>by grind[er]
 |(_,_,_)::_,[],_,_,h=>by rfl
def LT(P:Program)(ow:iI)(pr:Bool)(H Q:Sy)(d:Option Nat)(f:FuncId)(args:List Operand)(ts:List TypeId):HR:=
 match Nv P ow f,ya false P args ts H with
 |some sh,some (p,as0,H1)=>if sh.all (λx=>x.2.2)&&(!pr||Vn sh)&&decide (f<1000000/\ow.pf.contains f=false/\ow.cf.contains f=false/\(aS ow.nf f).isNone=true/\(aS ow.gf f).isNone=true)then
  some (p.map .po++[.call f as0 sh],(H1.bind (dV sh)).put d (pc (Xk sh H1.m)),(iF false sh H1.m {Q with m:=(H1.bind (dV sh)).m}).2.put d (pc (iF false sh H1.m {Q with m:=(H1.bind (dV sh)).m}).1))else none
 |_,_=>none
theorem OJ{f:FuncId}{args:Array Operand}{ts:Array TypeId}(ho:o.op=.call ⟨.value (.func f),args,ts⟩)(hh:LT P ow pr H Q o.dst f args.toList ts.toList=some (n,H',Q'))(hr:aV H ρ σh h)(hq:aV Q ρ σq q)(hp:aW σh σq)(hw:WN P n K ρ):vu P pr h q σh o H' Q' K:=by
 unfold LT at hh;split at hh
 ·rename_i sh p as0 H1 hsh has;split at hh
  ·rename_i hall;rw[Bool.and_eq_true,decide_eq_true_eq]at hall;obtain⟨hall,hf6,-⟩:=hall;simp only[Bool.and_eq_true,Bool.or_eq_true,Bool.not_eq_true']at hall;cases hh;obtain⟨ρ1,he,hw2⟩:=bp (m7 hw);simp only[WN]at hw2;obtain⟨ys,res,w1,w2,w3,w4⟩:=hw2;have w2:=w2.plain hf6;obtain⟨ys',y1,y2,y3,y4⟩:=pJ has he hr;rw[w1]at y1;cases y1;have hlen:=eg w3;have hown:∀r∈res,r.2.2=true:=AR w3 λx hx=>List.all_eq_true.1 hall.1 x hx
   have hb:=y4.bind (out:=bW res) hlen;have hrd:RD (ρ1++bW res) (db H1.m (bW res).length) (bW res):=dG y4.m rfl
   have hq1:aV {Q with m:=(H1.bind (dV sh)).m} (ρ1++bW res) σq q:=by
    rw[<-hb.m];exact hq.sync ((aj he).trans (aW.app _ _))
   obtain⟨σ',p1,p2,p3⟩:=ji (m:=H1.m) w3 hrd hq1;refine⟨_,σ',.c res,jc res,_,.inr (.inl ⟨f,args,ts,ys,res,ho,w2,y2 rfl,List.all_eq_true.2 hown,λhpr=>?_,rfl,rfl,rfl⟩),hb.put (Bz (E9 w3 hrd)),p2.put (u7 p3),hp.trans p1,w4⟩
   grind[Jh]
  grind
 grind
def Hb(P:Program)(ow:iI)(pr:Bool)(H Q:Sy)(d:Option Nat)(f:FuncId)(args:List Operand)(ts:List TypeId):HR:=
 match Nv P {ow with own:=λg=>ow.own g&&(aS ow.gf g).isNone} f,ya true P args ts H with
 |some sh,some (p,as0,H1)=>if f<1000000/\(pr=true\/sh.any (λx=>!x.2.2)=true)then
  some (p.map .po++[.call f as0 sh],(H1.bind (dV sh)).put d (pc (Xk sh H1.m)),if pr then{Q with m:=(H1.bind (dV sh)).m}.put d (pc (Xk sh H1.m))else Sy.del {Q with m:=(H1.bind (dV sh)).m} d)else none
 |_,_=>none
theorem J0{f:FuncId}{args:Array Operand}{ts:Array TypeId}(ho:o.op=.call ⟨.value (.func f),args,ts⟩)(hh:Hb P ow pr H Q o.dst f args.toList ts.toList=some (n,H',Q'))(hr:aV H ρ σh h)(hq:aV Q ρ σq q)(hp:aW σh σq)(hw:WN P n K ρ):vu P pr h q σh o H' Q' K:=by
 unfold Hb at hh;split at hh
 ·rename_i sh p as0 H1 hsh has;split at hh
  ·rename_i hf6;cases hh;obtain⟨ρ1,he,hw2⟩:=bp (m7 hw);simp only[WN]at hw2;obtain⟨ys,res,w1,w2,w3,w4⟩:=hw2;have w2:=w2.plain hf6.1;obtain⟨ys',y1,y2,y3,y4⟩:=pJ has he hr;rw[w1]at y1;cases y1;have hlen:=eg w3;have hb:=y4.bind (out:=bW res) hlen;have hrd:RD (ρ1++bW res) (db H1.m (bW res).length) (bW res):=dG y4.m rfl
   have hq1:aV {Q with m:=(H1.bind (dV sh)).m} (ρ1++bW res) σq q:=by
    rw[<-hb.m];exact hq.sync ((aj he).trans (aW.app _ _))
   refine⟨_,σq,.v (jc res),jc res,q.put o.dst (jy pr (jc res)),.inr (.inr (.inr (.inr (.inr (.inr (.inr (.inl ⟨f,args,ts,ys,res,ho,w2,y3 rfl,rfl,rfl,rfl⟩))))))),hb.put (Bz (E9 w3 hrd)),?_,hp,w4⟩
   cases pr with
   |true=>exact hq1.put (Bz (E9 w3 hrd))
   |false=>exact hq1.del
  grind
 grind
end
end Go.Proofs.YtliknccmjjncbaaGreat
namespace Go.Proofs.YtliknccmjjncbaaGreat
open Go.RowKit
section
variable {P:Program}{R:List (Bool×List DV)->Prop}{N:Nat}{ow:iI}{ρ ρ':List DV}{σ σ' σh σq:List Nat}{S S' H Q H' Q':Sy}{s s' h q:AS}{ps:List PO}{o:Oper}{K:List DV->Prop}{n:List Nd}{L:Lbl}{pr:Bool}
def vG:List SC->Option (List Nat)
 |[]=>some []
 |.d i::r=>(match vG r with|some l=>some (i::l)|none=>none)
 |_::_=>none
def Dn:List (List SC)->Option (List (List Nat))
 |[]=>some []
 |e::r=>(match vG e,Dn r with|some x,some l=>some (x::l)|_,_=>none)
theorem JP:∀{cs:List SC} {xs:List Nat} {ys:List AC},vG cs=some xs->cm ρ σ cs ys->∃ds,dL ys=some ds/\RD ρ xs ds
 |[],xs,ys,hh,hc=>by
  simp[vG]at hh;cases hh
  cases ys with
  |nil=>exact⟨[],rfl,trivial⟩
  |cons=>exact hc.elim
 |c::r,xs,[],hh,hc=>hc.elim
 |.d i::r,xs,y::ys,hh,hc=>by
  simp[vG]at hh;split at hh
  ·rename_i l hl;cases hh;obtain⟨x,rfl,hx⟩:=sy hc.1;obtain⟨ds,d1,d2⟩:=JP hl hc.2;exact⟨x::ds,by grind[dL],hx,d2⟩
  grind
 |.nil::r,xs,y::ys,hh,hc=>by grind[vG]
 |.own _ _::r,xs,y::ys,hh,hc=>by grind[vG]
 |.ptr _ _ _::r,xs,y::ys,hh,hc=>by grind[vG]
 |.elt _ _ _ _ _::r,xs,y::ys,hh,hc=>by grind[vG]
 |.sub _ _ _ _ _::r,xs,y::ys,hh,hc=>by grind[vG]
 |.emp::r,xs,y::ys,hh,hc=>by grind[vG]
 |.rd _::r,xs,y::ys,hh,hc=>by grind[vG]
 |.fn _ _::r,xs,y::ys,hh,hc=>by grind[vG]
 |.lit _::r,xs,y::ys,hh,hc=>by grind[vG]
theorem A9:∀{es:List (List SC)} {rows:List (List Nat)} {ys:List (List AC)},Dn es=some rows->Ee ρ σ es ys->∃ds,NF ys=some ds/\∀ρ',aW ρ ρ'->JR ρ' rows=some ds
 |[],rows,ys,hh,hc=>by
  simp[Dn]at hh;cases hh
  cases ys with
  |nil=>exact⟨[],rfl,λ_ _=>rfl⟩
  |cons=>exact hc.elim
 |e::r,rows,[],hh,hc=>hc.elim
 |e::r,rows,y::ys,hh,hc=>by
  simp[Dn]at hh;split at hh
  ·rename_i x l h1 h2;cases hh;obtain⟨d,d1,d2⟩:=JP h1 hc.1;obtain⟨ds,d3,d4⟩:=A9 h2 hc.2;exact⟨d::ds,by grind[NF],λρ' hp=>by simp[JR,d2.app_pre hp,d4 ρ' hp]⟩
  grind
def Vx(P:Program)(pr:Bool)(H Q:Sy)(d:Option Nat)(t:TypeId)(len:Nat)(parts:List (Nat×Operand)):HR:=
 if pr then none else(match dN P t with
 |some (el,k)=>if(aT P el).isSome=true/\0<k/\parts.length=len/\len*k<=16777216 then(match RE k parts 0 H with
  |some (p,es,H1)=>(match RE k parts 0 {Q with m:=H1.m}with
   |some (p2,esq,Q1)=>if es.isEmpty then some ((p++p2).map .po,{H1 with m:=Q1.m}.put d (.p false [.emp]),(Q1.push (.arr Q1.c el k esq)).put d (.p false [.own Q1.n Q1.c]))else(match Dn es with
    |some rows=>some ((p++(p2++[PO.mk el k rows])).map .po,({H1 with m:=Q1.m}.bind 1).put d (.p false [.d Q1.m]),((Q1.bind 1).push (.arr Q1.c el k esq)).put d (.p false [.own Q1.n Q1.c]))
    |none=>some ((p++p2).map .po,{H1 with m:=Q1.m}.del d,(Q1.push (.arr Q1.c el k esq)).put d (.p false [.own Q1.n Q1.c])))
   |none=>none)
  |none=>none)else none
 |none=>none)
theorem Q0{t:TypeId}{len:Nat}{parts:Array (Nat×Operand)}(ho:o.op=.buildSlice t len parts)(hh:Vx P pr H Q o.dst t len parts.toList=some (n,H',Q'))(hr:aV H ρ σh h)(hq:aV Q ρ σq q)(hp:aW σh σq)(hw:WN P n K ρ):vu P pr h q σh o H' Q' K:=by
 unfold Vx at hh;split at hh
 ·cases hh
 ·rename_i hpr;split at hh
  ·rename_i el k ht;split at hh
   ·rename_i hc;obtain⟨hz,hk,hl,hs⟩:=hc;split at hh
    ·rename_i p es H1 h1;split at hh
     ·rename_i p2 esq Q1 h2;split at hh
      ·rename_i hem;cases hh;obtain⟨ρ',he,hK⟩:=bp hw;obtain⟨ρ1,a1,b1⟩:=ai he;obtain⟨ys,y1,y2,y3⟩:=lA h1 a1 hr;have hq1:aV {Q with m:=H1.m} ρ1 σq q:=by rw[<-y3.m];exact hq.sync (aj a1)
       obtain⟨zs,z1,z2,z3⟩:=lA h2 b1 hq1;have hr2:aV {H1 with m:=Q1.m} ρ' σh h:=by rw[<-z3.m];exact y3.sync (aj b1)
       have hys:ys=[]:=by
        cases es with
        |nil=>cases ys with
         |nil=>rfl
         |cons=>exact y2.elim
        |cons=>grind
       subst hys
       exact⟨_,σq++[q.c],.b el k parts.toList,vq el k [],(q.push (.arr q.c el k zs)).put o.dst (.p false [.own q.n q.c]),.inr (.inr (.inl ⟨t,len,parts,el,k,[],zs,ho,by grind,ht,hz,hk,hl,hs,y1,z1,rfl,rfl,rfl⟩)),hr2.put (v:=.p false [.emp]) (x:=vq el k []) ⟨rfl,trivial,trivial⟩,
        (z3.push (so:=.arr Q1.c el k esq) (ob:=.arr q.c el k zs) ⟨z3.last _,rfl,rfl,Ee.mono (aW.refl _) (aW.app _ _) z2⟩).put ⟨rfl,⟨z3.n,z3.last _⟩,trivial⟩,hp.trans (aW.app _ _),hK⟩
      rename_i hem;split at hh
      ·rename_i rows hrows;cases hh;obtain⟨ρ',he,hK⟩:=bp hw;obtain⟨ρ1,a1,a2⟩:=ai he;obtain⟨ρ2,b1,b2⟩:=ai a2;obtain⟨ys,y1,y2,y3⟩:=lA h1 a1 hr;have hq1:aV {Q with m:=H1.m} ρ1 σq q:=by rw[<-y3.m];exact hq.sync (aj a1)
       obtain⟨zs,z1,z2,z3⟩:=lA h2 b1 hq1;obtain⟨ds,d1,d2⟩:=A9 hrows y2;obtain⟨out,o1,rfl⟩:=az b2;have hm:=z3.m;simp only[aG,d2 ρ2 (aj b1)]at o1;split at o1
       ·cases o1;have hr2:aV {H1 with m:=Q1.m} ρ2 σh h:=by rw[<-hm];exact y3.sync (aj b1)
        refine⟨_,σq++[q.c],.b el k parts.toList,vq el k ys,(q.push (.arr q.c el k zs)).put o.dst (.p false [.own q.n q.c]),.inr (.inr (.inl ⟨t,len,parts,el,k,ys,zs,ho,by grind,ht,hz,hk,hl,hs,y1,z1,rfl,rfl,rfl⟩)),?_,?_,hp.trans (aW.app _ _),hK⟩
        ·refine(hr2.bind (out:=[DV.sl el k ds]) (k:=1) rfl).put ?_
         have hyne:ys.isEmpty=false:=by
          cases ys with
          |nil=>cases es with
           |nil=>grind
           |cons=>exact y2.elim
          |cons=>rfl
         unfold vq;rw[hyne,d1];exact⟨rfl,by show(_:List DV)[_]? =_;rw[<-hm];simp,trivial⟩
        ·have hb:=z3.bind (out:=[DV.sl el k ds]) (k:=1) rfl;exact(hb.push (so:=.arr Q1.c el k esq) (ob:=.arr q.c el k zs) ⟨hb.last _,rfl,rfl,Ee.mono (aW.app _ _) (aW.app _ _) z2⟩).put ⟨rfl,⟨z3.n,hb.last _⟩,trivial⟩
       grind
      ·cases hh;obtain⟨ρ',he,hK⟩:=bp hw;obtain⟨ρ1,a1,b1⟩:=ai he;obtain⟨ys,y1,y2,y3⟩:=lA h1 a1 hr;have hq1:aV {Q with m:=H1.m} ρ1 σq q:=by rw[<-y3.m];exact hq.sync (aj a1)
       obtain⟨zs,z1,z2,z3⟩:=lA h2 b1 hq1;have hr2:aV {H1 with m:=Q1.m} ρ' σh h:=by rw[<-z3.m];exact y3.sync (aj b1)
       exact⟨_,σq++[q.c],.b el k parts.toList,vq el k ys,(q.push (.arr q.c el k zs)).put o.dst (.p false [.own q.n q.c]),.inr (.inr (.inl ⟨t,len,parts,el,k,ys,zs,ho,by grind,ht,hz,hk,hl,hs,y1,z1,rfl,rfl,rfl⟩)),hr2.del,
        (z3.push (so:=.arr Q1.c el k esq) (ob:=.arr q.c el k zs) ⟨z3.last _,rfl,rfl,Ee.mono (aW.refl _) (aW.app _ _) z2⟩).put ⟨rfl,⟨z3.n,z3.last _⟩,trivial⟩,hp.trans (aW.app _ _),hK⟩
     grind
    grind
   grind
  grind
def MH(P:Program)(ow:iI)(pr:Bool)(H Q:Sy)(o:Oper):HR:=
 match o.op with
 |.alloc t=>G6 P H Q o.dst t
 |.buildSlice t len parts=>Vx P pr H Q o.dst t len parts.toList
 |.call ⟨.value (.func f),args,ts⟩=>(match LT P ow pr H Q o.dst f args.toList ts.toList with|some r=>some r|none=>Hb P ow pr H Q o.dst f args.toList ts.toList)
 |_=>Tt P pr H Q o
theorem Ld(hh:MH P ow pr H Q o=some (n,H',Q'))(hr:aV H ρ σh h)(hq:aV Q ρ σq q)(hp:aW σh σq)(hw:WN P n K ρ):vu P pr h q σh o H' Q' K:=by
 grind[MH,KM,Q0,OJ,J0,Q6]
def UK(v:SV):Bool:=match one v with
 |some .emp=>true
 |_=>false
theorem Qz{v:SV}{x:AV}(h:UK v=true)(hv:RV ρ σ v x):BB x=true:=by
 unfold UK at h;split at h
 ·rename_i hc;obtain⟨y,rfl,hy⟩:=bk hc hv;cases y<;>first|exact hy.elim|rfl
 grind
def Uz(P:Program)(pr:Bool)(H Q:Sy)(o:Oper):Option (List PO×Nat×(Sy×Sy)×(List PO×Sy×Sy)):=
 match o.op with
 |.call ⟨.builtin .append,⟨[X,Y]⟩,⟨[t,t']⟩⟩=>if t'=t/\pr=false then(match dN P t with
  |some (el,k)=>if !(Oz P el)then none else(match aT P el,dW P el with
   |some zs,some b=>if zs.length=k/\0<k then(match gW H X with
    |some (pX,vX,H1)=>if UK vX then(match gW {Q with m:=H1.m} X with
     |some (qX,uX,Q1)=>(match gW {H1 with m:=Q1.m} Y with
      |some (pY,vY,H2)=>(match one vY with
       |some cY=>(match vj false [cY] [some (el,k)] H2 with
        |some (pR,[y],H3)=>some (pX++(qX++(pY++(pR++[PO.emp y]))),H3.m,
         (({ (H3.bind 1)with kn:=(H3.m,true)::H3.kn}).put o.dst vX,({Q1 with m:=H3.m+1,kn:=(H3.m,true)::Q1.kn}).put o.dst uX),
         ([PO.e el k,PO.flat y,PO.app el k b (H3.m+1) y],({ (H3.bind 3)with kn:=(H3.m,false)::H3.kn}).put o.dst (.p false [.d (H3.m+2)]),
          (({Q1 with m:=H3.m+3,kn:=(H3.m,false)::Q1.kn}).push (.row Q1.c el k (H3.m+2))).put o.dst (.p false [.own Q1.n Q1.c])))
        |_=>none)
       |none=>none)
      |none=>none)
     |none=>none)else none
    |none=>none)else none
   |_,_=>none)
  |none=>none)else none
 |_=>none
theorem Pw{pre fs:List PO}{i:Nat}{H1 Q1 H2 Q2:Sy}{a b:Pg}(hh:Uz P pr H Q o=some (pre,i,(H1,Q1),(fs,H2,Q2)))(hr:aV H ρ σh h)(hq:aV Q ρ σq q)(hp:aW σh σq)(hw:W P R (dq (pre.map .po) (.ite i a (dq (fs.map .po) b))) L ρ):
 ∃ρ' σq' kd x q' H' Q' g,zr P pr h q o kd x q'/\aV H' ρ' σh (h.put o.dst x)/\aV Q' ρ' σq' q'/\aW σh σq'/\((H'=H1/\Q'=Q1/\g=a)\/(H'=H2/\Q'=Q2/\g=b))/\W P R g L ρ'/\aW ρ ρ':=by
 unfold Uz at hh;split at hh
 ·rename_i X Y t t' hop;split at hh
  ·rename_i htp;obtain⟨rfl,hpr⟩:=htp;split at hh
   ·rename_i el k ht;split at hh
    ·cases hh
    split at hh
    ·rename_i zs b' hz hby
     split at hh
     ·rename_i hzk;split at hh
      ·rename_i pX vX S1 hX;split at hh
       ·rename_i hE;split at hh
        ·rename_i qX uX T1 hX2;split at hh
         ·rename_i pY vY S2 hY;split at hh
          ·rename_i cY hcY;split at hh
           ·rename_i pR y S3 hR;injection hh with hh;injection hh with e1 hh;injection hh with e2 hh;injection hh with e3 e4;injection e3 with e3 e5;injection e4 with e4 e6;injection e6 with e6 e7;subst e1 e2 e3 e4 e5 e6 e7;obtain⟨ρ1,he,hw2,hp1⟩:=bp (lV hw);obtain⟨ρa,a1,a2⟩:=ai he;obtain⟨ρb,b1,b2⟩:=ai a2;obtain⟨ρc,c1,c2⟩:=ai b2;obtain⟨ρd,d1,d2⟩:=ai c2;obtain⟨x1,x2⟩:=aU hX a1 hr;have hqa:aV {Q with m:=S1.m} ρa σq q:=by rw[<-x2.m];exact hq.sync (aj a1)
            obtain⟨u1,u2⟩:=aU hX2 b1 hqa;have hhb:aV {S1 with m:=T1.m} ρb σh h:=by rw[<-u2.m];exact x2.sync (aj b1)
            obtain⟨y1,y2⟩:=aU hY c1 hhb;obtain⟨yc,g1,g2⟩:=bk hcY y1;obtain⟨ds,r1,r2,-,r4⟩:=eP hR d1 y2 (ys:=[yc]) ⟨g2,trivial⟩
            match ds,r1,r2 with
            |[d],r1,r2=>
            obtain⟨out,o1,rfl⟩:=az d2;simp[aG,r1.1]at o1;split at o1
            ·rename_i t2 k2 es hd;cases hd;cases o1;have hrd:CP h yc (.sl t2 k2 es):=(r2 rfl).1;have hop':o.op=.call ⟨.builtin .append,#[X,Y],#[t',t']⟩:=hop;have hm3:ρd.length=S3.m:=r4.m;have pbd:aW ρb (ρd++[.sc (.bool es.isEmpty)]):=(aj c1).trans ((aj d1).trans (aW.app _ _));have hki:(ρd++[DV.sc (.bool es.isEmpty)])[S3.m]? =some (.sc (.bool es.isEmpty)):=by rw[<-hm3];simp
             have hXe:=Qz hE x1;simp only[W,hki]at hw2
             have hQ1:aV {T1 with m:=S3.m+1} (ρd++[DV.sc (.bool es.isEmpty)]) σq q:=by
              have:=u2.sync pbd;rw[show(ρd++[DV.sc (.bool es.isEmpty)]).length=S3.m+1 by grind]at this;omega
             have hH1:aV (S3.bind 1) (ρd++[DV.sc (.bool es.isEmpty)]) σh h:=r4.bind rfl;have pad:aW ρa (ρd++[.sc (.bool es.isEmpty)]):=(aj b1).trans pbd
             cases hes:es.isEmpty with
             |true=>
              have hnil:es=[]:=by grind
              subst hnil;simp[List.isEmpty_nil]at hw2 hki hQ1 hH1 pbd pad hp1;refine⟨_,σq,.p o.op,h.ev X,q.put o.dst (q.ev X),_,_,_,.inr (.inr (.inr (.inr (.inr (.inr (.inl ⟨X,Y,t',el,k,yc,t2,k2,hop',hpr,ht,hXe,g1,hrd,rfl,rfl,rfl⟩)))))),?_,?_,hp,.inl ⟨rfl,rfl,rfl⟩,hw2,hp1⟩
              ·exact(hH1.know hki).put (x1.mono pad (aW.refl _))
              ·exact(hQ1.know hki).put (u1.mono pbd (aW.refl _))
             |false=>
              rw[hes]at hw2 hki hQ1 hH1 pbd pad hp1;simp only at hw2;obtain⟨ρ2,k1,hw3,hp2⟩:=bp (lV hw2);obtain⟨ρe,f1,f2⟩:=ai (ps:=[PO.e el k]) (qs:=[PO.flat y,PO.app el k b' (S3.m+1) y]) k1;obtain⟨oute,oe,rfl⟩:=az f1;simp only[aG]at oe;cases oe;obtain⟨ρf,f3,f4⟩:=ai (ps:=[PO.flat y]) (qs:=[PO.app el k b' (S3.m+1) y]) f2;obtain⟨rfl,hfl⟩:=mB f3;obtain⟨es1,fs1,t3,q1,q2,q3,q4,rfl⟩:=jQ f4;have hy2:(ρd++[DV.sc (.bool false)]++[DV.sl el k []])[y]? =some (.sl t2 k2 es):=((aW.app _ _).trans (aW.app _ _)).get r1.1;rw[hy2]at q2;injection q2 with q2;injection q2 with q2 q2' q2'';subst q2 q2' q2'';have h0:(ρd++[DV.sc (.bool false)]++[DV.sl el k2 []])[S3.m+1]? =some (.sl el k2 []):=by rw[<-hm3];simp
              rw[h0]at q1;injection q1 with q1;injection q1 with _ _ q1;subst q1;simp only[List.length_nil,Nat.zero_add,List.nil_append]at q3 q4 hw3 hp2;have hne:es≠[]:=by grind
              have hlen:(ρd++[DV.sc (.bool false)]++[DV.sl el k2 []]++[DV.sl el k2 es]).length=S3.m+3:=by grind
              have p2:aW (ρd++[DV.sc (.bool false)]) (ρd++[DV.sc (.bool false)]++[DV.sl el k2 []]++[DV.sl el k2 es]):=(aW.app _ _).trans (aW.app _ _);have hx2:(ρd++[DV.sc (.bool false)]++[DV.sl el k2 []]++[DV.sl el k2 es])[S3.m+2]? =some (.sl el k2 es):=by rw[<-hm3];simp
              have hHH:=(hH1.know hki).sync p2;have hQQ:=(hQ1.know hki).sync p2;rw[hlen]at hHH hQQ;refine⟨_,σq++[q.c],.c _,_,_,_,_,_,.inr (.inr (.inr (.inr (.inr (.inl ⟨X,Y,t',el,k2,b',yc,t2,es,zs,_,hop',hpr,ht,hz,hzk.1,hzk.2,hby,hXe,g1,hrd,hne,hfl _ _ _ hy2,q3,q4,rfl,rfl,rfl,rfl⟩))))),?_,?_,hp.trans (aW.app _ _),.inr ⟨rfl,rfl,rfl⟩,hw3,hp1.trans hp2⟩
              ·exact hHH.put (v:=.p false [.d (S3.m+2)]) ⟨rfl,hx2,trivial⟩
              ·exact(hQQ.push (so:=.row T1.c el k2 (S3.m+2)) (ob:=.row q.c el k2 es true) ⟨hQQ.last _,rfl,rfl,rfl,hx2⟩).put ⟨rfl,⟨hQQ.n,hQQ.last _⟩,trivial⟩
            grind
           grind
          grind
         grind
        grind
       grind
      grind
     grind
    grind
   grind
  grind
 grind
def Yb(d:Option Nat)(r:List Oper):Bool:=r.any λo=>match o.op,d with
 |.call ⟨.builtin .append,⟨.tmp t::_⟩,_⟩,some d=>t==d
 |_,_=>false
def Un(P:Program)(pr lt:Bool)(H Q:Sy)(o:Oper):HR:=if pr then none else match o.op with
 |.buildSlice t len parts=>if lt then(match dN P t with
  |some (el,k)=>if(aT P el).isSome=true/\0<k/\parts.toList.length=len/\len*k<=16777216/\0<len then(match RE k parts.toList 0 H with
   |some (p,es,H1)=>(match Dn es with
    |some rows=>some ((p++[PO.mk el k rows]).map .po,(H1.bind 1).put o.dst (.p false [.lit H1.m]),{Q with m:=H1.m+1}.del o.dst)
    |none=>none)
   |none=>none)else none
  |none=>none)else none
 |.call ⟨.builtin .append,⟨[X,Y]⟩,⟨[t,t']⟩⟩=>if t'=t then(match dN P t with
  |some (el,k)=>(match aT P el,dW P el with
   |some zs,some b=>if zs.length=k/\0<k then(match gW H X with
    |some (pX,vX,H1)=>(match one vX with
     |some (.lit i)=>(match gW H1 Y with
      |some (pY,vY,H2)=>(match one vY with
       |some cY=>(match vj true [cY] [some (el,k)] H2 with
        |some (pR,[y],H3)=>some ((pX++(pY++(pR++[PO.app el k b i y]))).map .po,(H3.bind 1).put o.dst (.p false [.d H3.m]),{Q with m:=H3.m+1}.del o.dst)
        |_=>none)
       |none=>none)
      |none=>none)
     |_=>none)
    |none=>none)else none
   |_,_=>none)
  |none=>none)else none
 |_=>none
theorem Q4{lt:Bool}(hh:Un P pr lt H Q o=some (n,H',Q'))(hr:aV H ρ σh h)(hq:aV Q ρ σq q)(hp:aW σh σq)(hw:WN P n K ρ):vu P pr h q σh o H' Q' K:=by
 unfold Un at hh;split at hh
 ·cases hh
 rename_i hpr;obtain rfl:pr=false:=by simpa using hpr
 split at hh
 ·rename_i t len parts ho;split at hh
  ·split at hh
   ·rename_i el k ht;split at hh
    ·rename_i hc;obtain⟨hz,hk,hl,hs,h0⟩:=hc;split at hh
     ·rename_i p es H1 h1;split at hh
      ·rename_i rows hrows;cases hh;obtain⟨ρ',he,hK⟩:=bp hw;obtain⟨ρ1,a1,a2⟩:=ai he;obtain⟨ys,y1,y2,y3⟩:=lA h1 a1 hr;obtain⟨ds,d1,d2⟩:=A9 hrows y2;obtain⟨out,o1,rfl⟩:=az a2;simp only[aG,d2 ρ1 (aW.refl _)]at o1;split at o1
       ·cases o1;have hQ:=hq.sync (ρ':=ρ1++[DV.sl el k ds]) ((aj a1).trans (aW.app _ _));rw[show(ρ1++[DV.sl el k ds]).length=H1.m+1 by rw[<-y3.m];simp]at hQ
        exact⟨_,σq,_,_,_,.inr (.inr (.inr (.inr (.inr (.inr (.inr (.inr ⟨_,.inl ⟨t,len,parts,el,k,ys,ds,ho,ht,hz,hk,hl,hs,y1,d1,rfl⟩,rfl,rfl,rfl,rfl⟩))))))),
         (y3.bind (out:=[DV.sl el k ds]) (k:=1) rfl).put (v:=.p false [.lit H1.m]) ⟨rfl,by show(_:List DV)[_]? =_;rw[<-y3.m];simp,trivial⟩,hQ.del,hp,hK⟩
       grind
      grind
     grind
    grind
   grind
  grind
 ·rename_i X Y t t' hop;split at hh
  ·rename_i htp;subst htp;split at hh
   ·rename_i el k ht;split at hh
    ·rename_i zs b' hz hby
     split at hh
     ·rename_i hzk;split at hh
      ·rename_i pX vX S1 hX;split at hh
       ·rename_i i hi;split at hh
        ·rename_i pY vY S2 hY;split at hh
         ·rename_i cY hcY;split at hh
          ·rename_i pR y S3 hR;cases hh;obtain⟨ρ',he,hK⟩:=bp hw;obtain⟨ρa,a1,a2⟩:=ai he;obtain⟨ρb,b1,b2⟩:=ai a2;obtain⟨ρc,c1,c2⟩:=ai b2;obtain⟨x1,x2⟩:=aU hX a1 hr;obtain⟨xc,e1,e2⟩:=bk hi x1;obtain⟨y1,y2⟩:=aU hY b1 x2;obtain⟨yc,g1,g2⟩:=bk hcY y1;obtain⟨ds,r1,-,r2,r4⟩:=eP hR c1 y2 (ys:=[yc]) ⟨g2,trivial⟩
           match ds,r1,r2 with
           |[d],r1,r2=>
           obtain⟨es1,fs1,t3,q1,q2,q3,q4,rfl⟩:=jQ c2;have hd:=r1.1;rw[q2]at hd;cases hd;have hrd:Qx h yc (.sl t3 k fs1):=(r2 rfl).1;have pac:=(aj b1).trans (aj c1)
           have hx:h.ev X=.p false [.lit el k es1]:=by
            cases xc<;>first|exact e2.elim|skip
            rw[e1];have:=pac.get e2;rw[q1]at this;cases this;rfl
           have hQ:=hq.sync (ρ':=ρc++[DV.sl el k (es1++fs1)]) ((aj a1).trans (pac.trans (aW.app _ _)));rw[show(ρc++[DV.sl el k (es1++fs1)]).length=S3.m+1 by rw[<-r4.m];simp]at hQ
           exact⟨_,σq,_,_,_,.inr (.inr (.inr (.inr (.inr (.inr (.inr (.inr ⟨_,.inr ⟨X,Y,t',el,k,b',yc,t3,es1,fs1,zs,hop,ht,hz,hzk.1,hzk.2,hby,hx,g1,hrd,q3,q4,rfl⟩,rfl,rfl,rfl,rfl⟩))))))),
            (r4.bind (out:=[DV.sl el k (es1++fs1)]) (k:=1) rfl).put (v:=.p false [.d S3.m]) ⟨rfl,by show(_:List DV)[_]? =_;rw[<-r4.m];simp,trivial⟩,hQ.del,hp,hK⟩
          grind
         grind
        grind
       grind
      grind
     grind
    grind
   grind
  grind
 grind
def Hf(P:Program)(ow:iI)(pr lt:Bool)(H Q:Sy)(o:Oper):HR:=match Un P pr lt H Q o with|some r=>some r|none=>MH P ow pr H Q o
theorem J4{lt:Bool}(hh:Hf P ow pr lt H Q o=some (n,H',Q'))(hr:aV H ρ σh h)(hq:aV Q ρ σq q)(hp:aW σh σq)(hw:WN P n K ρ):vu P pr h q σh o H' Q' K:=by
 grind[Hf,Q4,Ld]
def bD(P:Program)(ow:iI)(pr lt:Bool)(o:Oper)(H Q:Sy)(k:Sy->Sy->Option Pg):Option Pg:=match Uz P pr H Q o with
 |some (pre,i,(H1,Q1),(fs,H2,Q2))=>(match k H1 Q1,k H2 Q2 with|some a,some b=>some (dq (pre.map .po) (.ite i a (dq (fs.map .po) b)))|_,_=>none)
 |none=>match Hf P ow pr lt H Q o with|some (n,H',Q')=>(match k H' Q' with|some g=>some (dq n g)|none=>none)|none=>none
def yK(P:Program)(N:Nat)(ow:iI)(pr:Bool)(ops:Array Oper)(k:Sy->Option Pg):List Oper->Sy->Sy->Option Pg
 |[],H,Q=>k Q
 |o::r,H,Q=>(match o.dst with
  |some d=>if d<N then(match o.guard with
   |none=>bD P ow pr (Yb o.dst r) o H Q λH' Q'=>yK P N ow pr ops k r H' Q'
   |some (g,want)=>(match kb ops g with
    |some t=>if t<N then(match aS H.sl t with
     |some (.tup [])=>yK P N ow pr ops k r (H.put o.dst (.tup [])) (Q.del o.dst)
     |some (.p false [.d i])=>(match aS H.kn i with
      |some b=>if b=want then bD P ow pr (Yb o.dst r) o H Q λH' Q'=>yK P N ow pr ops k r H' Q' else yK P N ow pr ops k r (H.put o.dst (.tup [])) (Q.del o.dst)
      |none=>(match(bD P ow pr (Yb o.dst r) o {H with kn:=(i,want)::H.kn} {Q with kn:=(i,want)::Q.kn} λH' Q'=>yK P N ow pr ops k r H' Q'),yK P N ow pr ops k r ({H with kn:=(i,!want)::H.kn}.put o.dst (.tup [])) ({Q with kn:=(i,!want)::Q.kn}.del o.dst)with
       |some a,some b=>some (if want then .ite i a b else .ite i b a)
       |_,_=>none))
     |_=>none)else none
    |none=>none))else none
  |none=>none)
theorem QF{lt:Bool}{k:Sy->Sy->Option Pg}{pg:Pg}(hh:bD P ow pr lt o H Q k=some pg)(hr:aV H ρ σh h)(hq:aV Q ρ σq q)(hp:aW σh σq)(hw:W P R pg L ρ):
 ∃ρ' σq' kd x q' H' Q' g,zr P pr h q o kd x q'/\aV H' ρ' σh (h.put o.dst x)/\aV Q' ρ' σq' q'/\aW σh σq'/\k H' Q'=some g/\W P R g L ρ'/\aW ρ ρ':=by
 unfold bD at hh;split at hh
 ·grind[Pw]
 ·split at hh
  ·rename_i n H' Q' ho;split at hh
   ·rename_i g hg;cases hh;obtain⟨ρ',σq',kd,x,q',h1,h2,h3,h4,h5,h6⟩:=J4 ho hr hq hp (lV hw)
    grind
   grind
  grind
theorem zL{ops:Array Oper}{k:Sy->Option Pg}:∀{l:List Oper} {H Q:Sy} {pg:Pg} {ρ:List DV} {σq:List Nat} {h q:AS},yK P N ow pr ops k l H Q=some pg->aV H ρ σh h->aV Q ρ σq q->aW σh σq->W P R pg L ρ->
 ∃kds xs qF S' ρ' σ' g,ju P N pr ops l h q kds xs qF/\aV S' ρ' σ' qF/\k S'=some g/\W P R g L ρ'/\aW ρ ρ'
 |[],H,Q,pg,ρ,σq,h,q,hh,hr,hq,hp,hw=>⟨[],[],q,Q,ρ,σq,pg,rfl,hq,hh,hw,aW.refl _⟩
 |o::r,H,Q,pg,ρ,σq,h,q,hh,hr,hq,hp,hw=>by
  simp[yK]at hh;split at hh
  ·rename_i d hd;split at hh
   ·rename_i hdN
    have run:∀{H Q:Sy} {pg:Pg} {ρ0:List DV},aW ρ0 ρ->(bD P ow pr (Yb o.dst r) o H Q λH' Q'=>yK P N ow pr ops k r H' Q')=some pg->aV H ρ σh h->aV Q ρ σq q->W P R pg L ρ->(∀kd x q1,zr P pr h q o kd x q1->Lp P N pr ops h q o kd x q1 o.guard)->
     ∃kds xs qF S' ρ' σ' g,ju P N pr ops (o::r) h q kds xs qF/\aV S' ρ' σ' qF/\k S'=some g/\W P R g L ρ'/\aW ρ0 ρ':=by
     intro H Q pg ρ0 hp0 hh hr hq hw hst;obtain⟨ρ1,σq1,kd,x,q1,H1,Q1,g1,r1,r2,r3,r4,r5,r6,r7⟩:=QF hh hr hq hp hw;obtain⟨kds,xs,qF,S',ρ',σ',g,f1,f2,f3,f4,f5⟩:=zL r5 r2 r3 r4 r6;exact⟨kd::kds,x::xs,qF,S',ρ',σ',g,⟨⟨d,hd,hdN⟩,q1,hst kd x q1 r1,f1⟩,f2,f3,f4,hp0.trans (r7.trans f5)⟩
    have skip:∀{H Q:Sy} {pg:Pg},yK P N ow pr ops k r (H.put o.dst (.tup [])) (Q.del o.dst)=some pg->aV H ρ σh h->aV Q ρ σq q->W P R pg L ρ->Lp P N pr ops h q o (.v (.tup [])) (.tup []) (q.put o.dst (jy pr (.tup []))) o.guard->
     ∃kds xs qF S' ρ' σ' g,ju P N pr ops (o::r) h q kds xs qF/\aV S' ρ' σ' qF/\k S'=some g/\W P R g L ρ'/\aW ρ ρ':=by
     intro H Q pg hh hr hq hw hst;obtain⟨kds,xs,qF,S',ρ',σ',g,f1,f2,f3,f4,f5⟩:=zL hh (hr.put (v:=.tup []) (x:=.tup []) trivial) (hq.del (x:=jy pr (.tup []))) hp hw;exact⟨_::kds,_::xs,qF,S',ρ',σ',g,⟨⟨d,hd,hdN⟩,_,hst,f1⟩,f2,f3,f4,f5⟩
    split at hh
    ·rename_i hg;exact run (aW.refl _) hh hr hq hw (λkd x q1 hR=>by rw[hg];exact hR)
    ·rename_i gi want hg;split at hh
     ·rename_i t hgs;split at hh
      ·rename_i htN;split at hh
       ·rename_i hi
        have hs:h.sl t=.tup []:=by
         have:=hr.sl t _ hi
         cases hx:h.sl t with
         |tup ys=>rw[hx]at this;cases ys with
          |nil=>rfl
          |cons=>exact this.elim
         |p=>rw[hx]at this;exact this.elim
         |und=>rw[hx]at this;exact this.elim
        exact skip hh hr hq hw (by rw[hg];exact⟨t,none,hgs,htN,hs,by rw[if_neg (λe=>by cases e)];grind⟩)
       ·rename_i i hi;split at hh
        ·rename_i b hb;have hs:=qh hr hi (hr.kn i b hb);split at hh
         ·rename_i e;exact run (aW.refl _) hh hr hq hw (λkd x q1 hR=>by rw[hg];exact⟨t,some b,hgs,htN,hs,by rw[if_pos (by rw[e])];exact hR⟩)
         ·rename_i e;exact skip hh hr hq hw (by rw[hg];exact⟨t,some b,hgs,htN,hs,by rw[if_neg (λh=>e (Option.some.inj h))];grind⟩)
        ·split at hh
         ·rename_i ga gb h1 h2;cases hh
          have hw':∃b,ρ[i]? =some (.sc (.bool b))/\(if b=want then W P R ga L ρ else W P R gb L ρ):=by
           grind[W]
          obtain⟨b,hb,hw'⟩:=hw';have hs:=qh hr hi hb;split at hw'
          ·rename_i e;subst e;exact run (aW.refl _) h1 (hr.know hb) (hq.know hb) hw' (λkd x q1 hR=>by rw[hg];exact⟨t,some b,hgs,htN,hs,by rw[if_pos rfl];exact hR⟩)
          ·rename_i e;have hb':ρ[i]? =some (.sc (.bool (!want))):=by rw[hb];cases b<;>cases want<;>simp_all
           exact skip h2 (hr.know hb') (hq.know hb') hw' (by rw[hg];exact⟨t,some b,hgs,htN,hs,by rw[if_neg (λh=>e (Option.some.inj h))];grind⟩)
         grind
       grind
      grind
     grind
   grind
  grind
def TL(P:Program)(S:Sy)(i:Nat):Option (List PO×Sy):=
 match aS S.ob i with
 |some (.arr st el k es)=>(match bY es.flatten ((List.replicate es.length (Ev P 9 el)).flatten) S with
  |some (q,xs,S2)=>if xs.length=es.length*k then some (q++[PO.mk el k (Dk k es.length xs)],{ (S2.bind 1)with ob:=(i,.row st el k S2.m)::S2.ob})else none
  |none=>some ([],S))
 |_=>some ([],S)
theorem PJ{i:Nat}(hh:TL P S i=some (ps,S'))(he:ay ps ρ=some ρ')(hr:aV S ρ σ s):∃s',Re s s'/\aV S' ρ' σ s':=by
 unfold TL at hh;split at hh
 ·rename_i st el k es hob;split at hh
  ·rename_i qq xs S2 hg;split at hh
   ·rename_i hl;cases hh;obtain⟨hlt,hro⟩:=hr.ob _ _ hob
    cases hx:s.ob i with
    |arr st' t' k' ys=>
     rw[hx]at hro;obtain⟨h1,rfl,rfl,h2⟩:=hro;obtain⟨ρ1,a1,a2⟩:=ai he;obtain⟨s2,ds,g1,g2,g3,g4⟩:=eR hg a1 hr h2.flat;obtain⟨ee,c1,c2,c3,c4⟩:=ue (n:=es.length) g2 hl
     have hob2:s2.ob i=.arr st' t' k' ys:=by
      rw[g4 i (λst a t k x=>by grind[Sy.own])];exact hx
     have hn2:s2.n=s.n:=g1.1;have ho1:s.own? i st'=some (.arr st' t' k' ys):=by unfold AS.own?;rw[hr.n,if_pos hlt,hx];simp[Ob.st]
     have ho2:s2.own? i st'=some (.arr st' t' k' ys):=by simp_all[AS.own?,if_pos,Ob.st]
     refine⟨{s2 with ob:=upd s2.ob i (.row st' t' k' ee true)},λw0 N a w E hR=>Gp hR ho1 (by rw[c2];exact g1) (by rw[c3,h2.len]) c4 ho2,?_⟩;obtain⟨out,o1,rfl⟩:=az a2;rw[zV c1 c4]at o1;cases o1;have hb:=g3.bind (out:=[DV.sl t' k' ee]) (k:=1) rfl;refine hb.upd (s':={s2 with ob:=upd s2.ob i (.row st' t' k' ee true)}) (i:=i) (n':=(S2.bind 1).n) (c':=(S2.bind 1).c) (so:=.row st t' k' S2.m) (aW.refl _) hb.c hb.n (Nat.le_refl _) (by rw[<-hb.n,hn2,hr.n];omega) rfl (λj hj=>aJ _ _ hj) ?_;simp[af]
     exact⟨h1,rfl,rfl,rfl,by rw[<-g3.m];simp⟩
    |var=>rw[hx]at hro;exact hro.elim
    |row=>rw[hx]at hro;exact hro.elim
    |frz=>rw[hx]at hro;exact hro.elim
    |dx=>rw[hx]at hro;exact hro.elim
    |opn=>rw[hx]at hro;exact hro.elim
    |pvr=>rw[hx]at hro;exact hro.elim
    |cur=>rw[hx]at hro;exact hro.elim
    |dead=>rw[hx]at hro;exact hro.elim
   grind
  grind[ay,Re.refl]
 grind[ay,Re.refl]
def Dx(P:Program):List Nat->Sy->Option (List PO×Sy)
 |[],S=>some ([],S)
 |i::r,S=>(match TL P S i with|some (p,S1)=>(match Dx P r S1 with|some (q,S2)=>some (p++q,S2)|none=>none)|none=>none)
theorem Av:∀{l:List Nat} {S S':Sy} {ps:List PO} {ρ ρ':List DV} {s:AS},Dx P l S=some (ps,S')->ay ps ρ=some ρ'->aV S ρ σ s->∃s',Re s s'/\aV S' ρ' σ s'
 |[],S,S',ps,ρ,ρ',s,hh,he,hr=>by
  grind[Dx,ay,Re.refl]
 |i::r,S,S',ps,ρ,ρ',s,hh,he,hr=>by
  simp[Dx]at hh;split at hh
  ·rename_i p S1 h1;split at hh
   ·rename_i qq S2 h2;cases hh;obtain⟨ρ1,a1,a2⟩:=ai he;obtain⟨s1,r1,k1⟩:=PJ h1 a1 hr;obtain⟨s2,r2,k2⟩:=Av h2 a2 k1;exact⟨s2,r1.trans r2,k2⟩
   grind
  grind
def nK(K:Kt):Kt:=λlv e S=>match e with|.normal=>K lv .normal S|_=>none
theorem WM{Q:Exit->AS->Prop}{K:Kt}(hk:La P R L ρ Q K):La P R L ρ (F8 Q) (nK K):=by
 intro L' ρ' hL hp e S pg hpg σ s hr hw
 cases e with
 |normal=>exact hk L' ρ' hL hp .normal S pg hpg σ s hr hw
 |_=>cases hpg
def Nn(P:Program)(N:Nat)(ow:iI)(dn:List (Nat×Nat×Bool×List Nat)):Dt:=λid ops lv S K=>
 match aS dn id with
 |some (n,pr,[])=>if P.follows .mixedOrders&&C4 ops.toList n then
  yK P N ow pr ops.toList.toArray (λQ=>match Dx P ((List.range (Q.n-S.n)).map (S.n+ ·)) Q with|some (ps,Q')=>(match Bc P N ow ops.toList.toArray (ops.toList.drop n) lv Q' K with|some g=>some (dq (ps.map .po) g)|none=>none)|none=>none) (ops.toList.take n) S S
  else none
 |some (n,pr,F)=>if P.follows .mixedOrders&&(Hr ops.toList n F&&Ca (bQ ops.toList n F) n)then(if Q8 ops.toList F then
  yK P N ow pr (bQ ops.toList n F).toArray (λQ=>match Dx P ((List.range (Q.n-S.n)).map (S.n+ ·)) Q with|some (ps,Q')=>(match Bc P N ow (bQ ops.toList n F).toArray ((bQ ops.toList n F).drop n) lv Q' (nK K)with|some g=>some (dq (ps.map .po) g)|none=>none)|none=>none) ((bQ ops.toList n F).take n) S S
  else none)else none
 |none=>none
theorem OS{dn:List (Nat×Nat×Bool×List Nat)}:X4 P R N (Nn P N ow dn):=by
 intro id ops lv S K pg hh L ρ σ s Qp hl hr hk hw;unfold Nn at hh;split at hh
 ·rename_i n pr hdn;split at hh
  ·rename_i hc;simp[Bool.and_eq_true]at hc;obtain⟨kds,xs,qF,S',ρ1,σ1,g,f1,f2,f3,f4,f5⟩:=zL hh hr hr (aW.refl _) hw;split at f3
   ·rename_i ps Q' hs;split at f3
    ·rename_i g' hg';cases f3;obtain⟨ρ2,he,hw2,hp2⟩:=bp (lV f4);obtain⟨s2,r2,k2⟩:=Av hs he f2;have ht:lu P N ops.toList.toArray (ops.toList.drop n) Qp qF:=Jk r2 (iV hg' hl k2 (hk.mono (aW.refl _) (f5.trans hp2)) hw2);have:=FN (id:=id) (l:=ops.toList) n pr hc.1 hc.2 f1 ht
     assumption
    grind
   grind
  grind
 ·rename_i n pr F _ hdn;split at hh
  ·rename_i hc;simp[Bool.and_eq_true]at hc;split at hh
   ·rename_i hnl;obtain⟨kds,xs,qF,S',ρ1,σ1,g,f1,f2,f3,f4,f5⟩:=zL hh hr hr (aW.refl _) hw;split at f3
    ·rename_i ps Q' hs;split at f3
     ·rename_i g' hg';cases f3;obtain⟨ρ2,he,hw2,hp2⟩:=bp (lV f4);obtain⟨s2,r2,k2⟩:=Av hs he f2;have ht:lu P N (bQ ops.toList n F).toArray ((bQ ops.toList n F).drop n) (F8 Qp) qF:=Jk r2 (iV hg' hl k2 ((WM hk).mono (aW.refl _) (f5.trans hp2)) hw2);have:=Ir (id:=id) (l:=ops.toList) n pr F hc.1 hc.2.1 hnl hc.2.2 f1 ht
      assumption
     grind
    grind
   ·cases hh
  grind
 grind
end
end Go.Proofs.YtliknccmjjncbaaGreat
namespace Go.Proofs.YtliknccmjjncbaaGreat
open Go.RowKit
section
variable {P:Program}{w0:Cx}{ws w w':World}{N m n:Nat}{s q q' s':AS}{a a':Act}{E E':En}{V:Nat->Bool}
end
section
variable {P:Program}{w0:Cx}{w w':World}{N m n:Nat}{s h H q q' qF:AS}{a:Act}{E:En}{o:Oper}{l:List Oper}{kds:List HK}{xs:List AV}{Q:Exit->AS->Prop}{F:List Nat}{V:Nat->Bool}
end
end Go.Proofs.YtliknccmjjncbaaGreat
namespace Go.Proofs.YtliknccmjjncbaaGreat
open Go.RowKit
section
variable {P:Program}{R:List (Bool×List DV)->Prop}{N:Nat}{ow:iI}{Q:Exit->AS->Prop}{s:AS}{l l':List Oper}
end
end Go.Proofs.YtliknccmjjncbaaGreat
namespace Go.Proofs.YtliknccmjjncbaaGreat
open Go.RowKit
section
variable {P:Program}{N:Nat}{l:List Oper}{Q:Exit->AS->Prop}{s:AS}{k:Nat}
variable {val:Nat->Option Bool}{kp:Nat->Bool}
variable {R:List (Bool×List DV)->Prop}{ow:iI}{ρ:List DV}{σ:List Nat}{S:Sy}{L:Lbl}
def F7(P:Program)(N:Nat)(ow:iI)(dn:List (Nat×Nat×Bool×List Nat)):Dt:=λid ops lv S K=>
 Nn P N ow dn id ops lv S K
theorem ub{dn:List (Nat×Nat×Bool×List Nat)}:X4 P R N (F7 P N ow dn):=OS (dn:=dn)
end
end Go.Proofs.YtliknccmjjncbaaGreat
namespace Go.Proofs.YtliknccmjjncbaaGreat
open Go.RowKit
def mE{α:Type}:List α->List α->List α
 |[],r=>r
 |x::e,r=>mE e (x::r)
inductive UP where
 |po (o:PO) (k:UP)
 |cl (f:FuncId) (a:List (Bool×List Nat)) (sh:Sh) (k:UP)
 |mk (f:FuncId) (b:Bool) (xs:List (Nat×Nat)) (j:Nat) (k:UP)
 |ite (x:Nat) (a b:UP)
 |jump (l:Nat) (xs:List Nat)
 |join (n:Nat) (rest k:UP)
 |loop (xs:List Nat) (body:UP)
 |ret (xs:List (Bool×List Nat))
 |sel (xs:List Nat) (k:UP)
abbrev UP.i(n:Int)(k:UP):UP:=.po (.k (.int .i64 n)) k
abbrev UP.f(k:UP):UP:=.po (.k (.bool false)) k
abbrev UP.t(k:UP):UP:=.po (.k (.bool true)) k
abbrev UP.s(a:Array UInt8)(k:UP):UP:=.po (.k (.string ⟨a⟩)) k
abbrev UP.c(n:Nat)(k:UP):UP:=.po (.sc n) k
abbrev UP.b(o:BinOp)(x y:Nat)(k:UP):UP:=.po (.bin o false x y) k
abbrev UP.e(x y:Nat)(k:UP):UP:=.po (.bin .eql false x y) k
abbrev UP.a(x y:Nat)(k:UP):UP:=.po (.bin .add false x y) k
abbrev UP.z(n:Nat)(k:UP):UP:=.po (.isI n) k
abbrev UP.x(a b c:Nat)(k:UP):UP:=.po (.idx a b c) k
abbrev UP.l(n:Nat)(k:UP):UP:=.po (.lenL n) k
abbrev UP.m(n:Nat)(k:UP):UP:=.po (.lenS n) k
abbrev UP.n(n:Nat)(k:UP):UP:=.po (.un .not n) k
abbrev UP.h(a b:Nat)(k:UP):UP:=.po (.chr a b) k
abbrev UP.r(n:Nat):UP:=.ret [(false,[n])]
abbrev aa(a b:Nat):Nat×SV:=(a,.p false [.d b])
abbrev aC(a b c d:Nat):Nat×SV:=(a,.p false [.ptr b c d])
abbrev bF(a b c:Nat):Nat×SV:=(a,.p false [.own b c])
abbrev au:Sh:=[(false,[none],true)]
abbrev cB:Sh:=[(true,[none,some (78,3),some (35,8),some (9,1),some (9,1),some (9,1),none,none],true)]
abbrev dF:Sh:=[(true,[none,some (78,3),some (35,8),some (9,1),some (9,1),some (9,1),none,none],true),(false,[none],true)]
abbrev la:Sh:=[(false,[some (9,1)],true)]
abbrev mu:Sh:=[(true,[none,none,none],true)]
abbrev Fm:Sh:=[(false,[some (3,1)],true)]
abbrev Je:Sh:=[(true,[none,none,some (9,1),some (3,1)],true)]
abbrev IB:Sh:=[(false,[some (78,3)],true)]
def V(P:Program)(R:List (Bool×List DV)->Prop):UP->Lbl->List DV->Prop
 |.po o k,L,ρ=>(match aG ρ o with|some out=>V P R k L (mE out ρ)|none=>False)
 |.cl f a sh k,L,ρ=>∃ys res,ca ρ a=some ys/\eC P f ys res/\er sh res=true/\V P R k L (mE (bW res) ρ)
 |.mk f b xs j k,L,ρ=>∃ds ds' n n',gL ρ (xs.map (·.1))=some ds/\ρ[j]? =some (.sc (.int .i64 n))/\jb P f b ds n ds' n'/\xM xs ds ds'/\V P R k L (mE (ds'++[.sc (.int .i64 n')]) ρ)
 |.ite x a b,L,ρ=>(match ρ[x]? with|some (.sc (.bool c))=>(match c with|true=>V P R a L ρ|false=>V P R b L ρ)|_=>False)
 |.jump l xs,L,ρ=>∃J vs,L[l]? =some J/\gL ρ xs=some vs/\J vs
 |.join n rest k,L,ρ=>∃J:List DV->Prop,(∀vs,vs.length=n->J vs->V P R rest L (mE vs ρ))/\V P R k (L++[J]) ρ
 |.loop xs body,L,ρ=>∃(I:List DV->Nat->Prop) (m:Nat) (vs:List DV),gL ρ xs=some vs/\I vs m/\∀vs m,vs.length=xs.length->I vs m->V P R body (L++[λvs'=>∃m',m'<m/\I vs' m']) (mE vs ρ)
 |.ret xs,L,ρ=>∃vs,ca ρ xs=some vs/\R vs
 |.sel xs k,L,ρ=>(match gL ρ xs with|some vs=>V P R k L vs|none=>False)
def fg:List Nat->Nat->Option Nat
 |[],_=>none
 |j::r,i=>if j=i then some 0 else(match fg r i with|some p=>some (p+1)|none=>none)
theorem I0:∀{μ:List Nat} {i p:Nat},fg μ i=some p->μ[p]? =some i
 |[],i,p,h=>by grind[fg]
 |j::r,i,p,h=>by
  simp[fg]at h;split at h
  ·grind
  ·split at h
   ·rename_i q hq;cases h;simpa using I0 hq
   grind
def Al(μ:List Nat)(ρ ρ':List DV):Prop:=∀(p i:Nat),μ[p]? =some i->ρ'[p]? =ρ[i]?
theorem Al.look{μ:List Nat}{ρ ρ':List DV}(h:Al μ ρ ρ'){i p:Nat}(hp:fg μ i=some p):ρ'[p]? =ρ[i]?:=h p i (I0 hp)
theorem Al.one{μ:List Nat}{ρ ρ':List DV}(h:Al μ ρ ρ')(hb:∀i∈μ,i<ρ.length)(x:DV):Al (ρ.length::μ) (ρ++[x]) (x::ρ'):=by
 intro p i hp
 cases p with
 |zero=>grind
 |succ p=>
  simp[List.getElem?_cons_succ]at hp ⊢;have:=hb i (List.mem_of_getElem? hp);rw[h p i hp,List.getElem?_append_left this]
theorem Al.many:∀{e:List DV} {μ:List Nat} {ρ ρ':List DV},Al μ ρ ρ'->(∀i∈μ,i<ρ.length)->Al (mE (db ρ.length e.length) μ) (ρ++e) (mE e ρ')/\∀i∈mE (db ρ.length e.length) μ,i<(ρ++e).length
 |[],μ,ρ,ρ',h,hb=>by simpa[mE,db]using⟨h,hb⟩
 |x::e,μ,ρ,ρ',h,hb=>by
  have h1:=h.one hb x
  have h2:∀i∈ρ.length::μ,i<(ρ++[x]).length:=by
   grind
  have:=Al.many (e:=e) h1 h2;simpa[mE,db]using this
def pO(μ:List Nat):Option Nat->Option (Option Nat)
 |none=>some none
 |some i=>(match fg μ i with|some p=>some (some p)|none=>none)
def pL(μ:List Nat):List Nat->Option (List Nat)
 |[]=>some []
 |i::r=>(match fg μ i,pL μ r with|some p,some q=>some (p::q)|_,_=>none)
def XI(μ:List Nat):List (List Nat)->Option (List (List Nat))
 |[]=>some []
 |i::r=>(match pL μ i,XI μ r with|some p,some q=>some (p::q)|_,_=>none)
def pA(μ:List Nat):List (Bool×List Nat)->Option (List (Bool×List Nat))
 |[]=>some []
 |(b,i)::r=>(match pL μ i,pA μ r with|some p,some q=>some ((b,p)::q)|_,_=>none)
section
variable {μ:List Nat}{ρ ρ':List DV}
theorem W8(h:Al μ ρ ρ'){i p:Nat}(hp:fg μ i=some p):gI ρ' p=gI ρ i:=by unfold gI;rw[h.look hp]
theorem xg(h:Al μ ρ ρ'){i p:Option Nat}(hp:pO μ i=some p):CR ρ' p=CR ρ i:=by
 cases i with
 |none=>simp[pO]at hp;cases hp;rfl
 |some i=>
  grind[pO,CR,W8]
theorem rr(h:Al μ ρ ρ'):∀{is ps:List Nat},pL μ is=some ps->gL ρ' ps=gL ρ is
 |[],ps,hp=>by simp[pL]at hp;cases hp;rfl
 |i::is,ps,hp=>by
  simp[pL]at hp;split at hp
  ·rename_i p q h1 h2;cases hp;simp[gL,h.look h1,rr h h2]
  grind
theorem LS(h:Al μ ρ ρ'):∀{is ps:List (List Nat)},XI μ is=some ps->JR ρ' ps=JR ρ is
 |[],ps,hp=>by simp[XI]at hp;cases hp;rfl
 |i::is,ps,hp=>by
  simp[XI]at hp;split at hp
  ·rename_i p q h1 h2;cases hp;simp[JR,rr h h1,LS h h2]
  grind
theorem As(h:Al μ ρ ρ'):∀{is ps:List (Bool×List Nat)},pA μ is=some ps->ca ρ' ps=ca ρ is
 |[],ps,hp=>by simp[pA]at hp;cases hp;rfl
 |(b,i)::is,ps,hp=>by
  simp[pA]at hp;split at hp
  ·rename_i p q h1 h2;cases hp;simp[ca,rr h h1,As h h2]
  grind
end
def Vz(μ:List Nat):PO->Option PO
 |.k v=>some (.k v)
 |.e t k=>some (.e t k)
 |.sc x=>(match fg μ x with|some x=>some (.sc x)|none=>none)
 |.isI x=>(match fg μ x with|some x=>some (.isI x)|none=>none)
 |.flat x=>(match fg μ x with|some x=>some (.flat x)|none=>none)
 |.isL t k x=>(match fg μ x with|some x=>some (.isL t k x)|none=>none)
 |.bin op b x y=>(match fg μ x,fg μ y with|some x,some y=>some (.bin op b x y)|_,_=>none)
 |.un op x=>(match fg μ x with|some x=>some (.un op x)|none=>none)
 |.cvI k x=>(match fg μ x with|some x=>some (.cvI k x)|none=>none)
 |.cvS x=>(match fg μ x with|some x=>some (.cvS x)|none=>none)
 |.cvB x=>(match fg μ x with|some x=>some (.cvB x)|none=>none)
 |.lenS x=>(match fg μ x with|some x=>some (.lenS x)|none=>none)
 |.lenL x=>(match fg μ x with|some x=>some (.lenL x)|none=>none)
 |.chr x i=>(match fg μ x,fg μ i with|some x,some i=>some (.chr x i)|_,_=>none)
 |.idx k x i=>(match fg μ x,fg μ i with|some x,some i=>some (.idx k x i)|_,_=>none)
 |.chk k x i=>(match fg μ x,fg μ i with|some x,some i=>some (.chk k x i)|_,_=>none)
 |.cutS x lo hi=>(match fg μ x,pO μ lo,pO μ hi with|some x,some lo,some hi=>some (.cutS x lo hi)|_,_,_=>none)
 |.cutL k x lo hi=>(match fg μ x,pO μ lo,pO μ hi with|some x,some lo,some hi=>some (.cutL k x lo hi)|_,_,_=>none)
 |.app el k b x y=>(match fg μ x,fg μ y with|some x,some y=>some (.app el k b x y)|_,_=>none)
 |.mk el k rows=>(match XI μ rows with|some r=>some (.mk el k r)|none=>none)
 |.make el k b z n=>(match fg μ n with|some n=>some (.make el k b z n)|none=>none)
 |.set k x j off vs=>(match fg μ x,fg μ j,pL μ vs with|some x,some j,some vs=>some (.set k x j off vs)|_,_,_=>none)
 |.mm mx x y=>(match fg μ x,fg μ y with|some x,some y=>some (.mm mx x y)|_,_=>none)
 |.eqS neg ks xs ys=>(match pL μ xs,pL μ ys with|some xs,some ys=>some (.eqS neg ks xs ys)|_,_=>none)
 |.cutI x lo hi=>(match fg μ x,pO μ lo,pO μ hi with|some x,some lo,some hi=>some (.cutI x lo hi)|_,_,_=>none)
 |.cutJ z m lo hi=>(match fg μ z,fg μ m,pO μ lo,pO μ hi with|some z,some m,some lo,some hi=>some (.cutJ z m lo hi)|_,_,_,_=>none)
 |.atJ z m i=>(match fg μ z,fg μ m,fg μ i with|some z,some m,some i=>some (.atJ z m i)|_,_,_=>none)
 |.viewD x z m=>(match fg μ x,fg μ z,fg μ m with|some x,some z,some m=>some (.viewD x z m)|_,_,_=>none)
 |.cutP x z m=>(match fg μ x,fg μ z,fg μ m with|some x,some z,some m=>some (.cutP x z m)|_,_,_=>none)
 |.emp x=>(match fg μ x with|some x=>some (.emp x)|none=>none)
 |.unc z n=>(match fg μ z with|some z=>some (.unc z n)|none=>none)
 |.cuS z off v=>(match fg μ z,fg μ v with|some z,some v=>some (.cuS z off v)|_,_=>none)
 |.stop k=>some (.stop k)
 |.cpy k x lo n lo' n'=>(match fg μ x,fg μ lo,fg μ n,fg μ lo',fg μ n' with|some x,some lo,some n,some lo',some n'=>some (.cpy k x lo n lo' n')|_,_,_,_,_=>none)
def QW:PO->Nat
 |.sc _|.isI _|.flat _|.isL _ _ _|.chk _ _ _=>0
 |.idx k _ _=>k
 |.cutI _ _ _|.cutJ _ _ _ _|.cpy _ _ _ _ _ _=>2
 |.unc _ n|.stop n=>n
 |_=>1
theorem Q7{μ:List Nat}{ρ ρ':List DV}(h:Al μ ρ ρ'){o o':PO}(ho:Vz μ o=some o'):aG ρ' o'=aG ρ o:=by
 cases o<;>simp[Vz]at ho
 all_goals first
  |(cases ho;rfl)
  |(split at ho
    ·cases ho;rename_i h1 h2 h3;simp[aG,h.look h1,h.look h2,xg h h2,xg h h3,rr h h3]
    ·cases ho)
  |(split at ho
    ·cases ho;rename_i h1 h2 h3;simp[aG,h.look h1,xg h h2,xg h h3]
    ·cases ho)
  |(split at ho
    ·cases ho;rename_i h1 h2 h3;simp[aG,h.look h1,h.look h2,rr h h3]
    ·cases ho)
  |(split at ho
    ·cases ho;rename_i h1 h2 h3;simp[aG,h.look h1,h.look h2,h.look h3]
    ·cases ho)
  |(split at ho
    ·cases ho;rename_i h1 h2 h3 h4;simp[aG,h.look h1,h.look h2,xg h h3,xg h h4]
    ·cases ho)
  |(split at ho
    ·cases ho;rename_i h1 h2;simp[aG,h.look h1,h.look h2]
    ·cases ho)
  |(split at ho
    ·cases ho;rename_i h1 h2;simp[aG,rr h h1,rr h h2]
    ·cases ho)
  |(split at ho
    ·cases ho;rename_i h1;simp[aG,h.look h1]
    ·cases ho)
  |(split at ho
    ·cases ho;rename_i h1;simp[aG,LS h h1]
    ·cases ho)
  |(split at ho
    ·cases ho;rename_i h1 h2 h3 h4 h5;simp[aG,h.look h1,h.look h2,h.look h3,h.look h4,h.look h5]
    ·cases ho)
theorem KL{ρ:List DV}{o:PO}{out:List DV}(h:aG ρ o=some out):out.length=QW o:=by
 cases o with
 |idx k x i=>obtain⟨t,es,kd,z,h1,h2,h3,h4,h5⟩:=wi h;exact h5
 |unc z n=>
  grind[aG,QW]
 |_=>
  simp only[aG]at h
  repeat' split at h
  all_goals first
   |(cases h;rfl)
   |(cases h;done)
   |(unfold zx at h;split at h<;>first|(cases h;rfl)|cases h)
def AA(i:Nat):Nat:=1 <<< i
def Of:List Nat->Nat
 |[]=>0
 |i::r=>AA i ||| Of r
def X8:Option Nat->Nat
 |none=>0
 |some i=>AA i
def XN:List (List Nat)->Nat
 |[]=>0
 |i::r=>Of i ||| XN r
def XR:List (Bool×List Nat)->Nat
 |[]=>0
 |(_,i)::r=>Of i ||| XR r
def Zo:PO->Nat
 |.k _|.e _ _|.stop _=>0
 |.cpy _ x lo n lo' n'=>AA x ||| (AA lo ||| (AA n ||| (AA lo' ||| AA n')))
 |.sc x|.isI x|.flat x|.isL _ _ x|.un _ x|.cvI _ x|.cvS x|.cvB x|.lenS x|.lenL x|.make _ _ _ _ x|.emp x|.unc x _=>AA x
 |.cuS x _ y=>AA x ||| AA y
 |.bin _ _ x y|.chr x y|.idx _ x y|.chk _ x y|.app _ _ _ x y|.mm _ x y=>AA x ||| AA y
 |.cutS x lo hi|.cutL _ x lo hi|.cutI x lo hi=>AA x ||| (X8 lo ||| X8 hi)
 |.cutJ z m lo hi=>AA z ||| (AA m ||| (X8 lo ||| X8 hi))
 |.atJ x y z|.viewD x y z|.cutP x y z=>AA x ||| (AA y ||| AA z)
 |.mk _ _ rows=>XN rows
 |.set _ x j _ vs=>AA x ||| (AA j ||| Of vs)
 |.eqS _ _ xs ys=>Of xs ||| Of ys
def fv:Pg->Nat
 |.nd (.po o) k=>Zo o ||| fv k
 |.nd (.call _ a _) k=>XR a ||| fv k
 |.nd (.mark _ _ xs j) k=>Of (xs.map (·.1)) ||| (AA j ||| fv k)
 |.ite x a b=>AA x ||| (fv a ||| fv b)
 |.jump _ xs=>Of xs
 |.join _ rest k=>fv rest ||| fv k
 |.loop xs body=>Of xs ||| fv body
 |.ret xs=>XR xs
def keep(msk:Nat):List Nat->Nat->List Nat×List Nat
 |[],_=>([],[])
 |i::r,p=>if(msk >>> i) % 2=1 then(p::(keep msk r (p+1)).1,i::(keep msk r (p+1)).2)else keep msk r (p+1)
theorem IY{msk:Nat}{μ0:List Nat}:∀{μ pre:List Nat},μ0=pre++μ->∀(j:Nat) (i:Nat),(keep msk μ pre.length).2[j]? =some i->∃p,(keep msk μ pre.length).1[j]? =some p/\μ0[p]? =some i
 |[],pre,h,j,i,hi=>by grind[keep]
 |x::μ,pre,h,j,i,hi=>by
  have hr:=IY (msk:=msk) (μ0:=μ0) (μ:=μ) (pre:=pre++[x]) (by simp[h])
  grind[keep]
def VP(msk:Nat)(μ:List Nat)(f:List Nat->Option UP):Option UP:=
 if(keep msk μ 0).2.length+3<μ.length then(match f (keep msk μ 0).2 with|some k=>some (.sel (keep msk μ 0).1 k)|none=>none)else f μ
def cv:Pg->Nat->List Nat->Option UP
 |.nd (.po o) k,m,μ=>(match Vz μ o,cv k (m+QW o) (mE (db m (QW o)) μ)with|some o,some k=>some (.po o k)|_,_=>none)
 |.nd (.call f a sh) k,m,μ=>VP (XR a ||| fv k) μ λμ=>(match pA μ a,cv k (m+dV sh) (mE (db m (dV sh)) μ)with|some a,some k=>some (.cl f a sh k)|_,_=>none)
 |.nd (.mark f b xs j) k,m,μ=>VP (Of (xs.map (·.1)) ||| (AA j ||| fv k)) μ λμ=>(match pL μ (xs.map (·.1)),fg μ j,cv k (m+(xs.length+1)) (mE (db m (xs.length+1)) μ)with|some ys,some j,some k=>some (.mk f b (ys.zip (xs.map (·.2))) j k)|_,_,_=>none)
 |.ite x a b,m,μ=>(match fg μ x,cv a m μ,cv b m μ with|some x,some a,some b=>some (.ite x a b)|_,_,_=>none)
 |.jump l xs,m,μ=>(match pL μ xs with|some xs=>some (.jump l xs)|none=>none)
 |.join n rest k,m,μ=>VP (fv rest ||| fv k) μ λμ=>(match cv rest (m+n) (mE (db m n) μ),cv k m μ with|some rest,some k=>some (.join n rest k)|_,_=>none)
 |.loop xs body,m,μ=>VP (Of xs ||| fv body) μ λμ=>(match pL μ xs,cv body (m+xs.length) (mE (db m xs.length) μ)with|some xs,some body=>some (.loop xs body)|_,_=>none)
 |.ret xs,m,μ=>(match pA μ xs with|some xs=>some (.ret xs)|none=>none)
section
variable {P:Program}{R:List (Bool×List DV)->Prop}
theorem Al.keep{μ:List Nat}{ρ ρ' vs:List DV}{msk:Nat}(h:Al μ ρ ρ')(hb:∀i∈μ,i<ρ.length)(hv:gL ρ' (keep msk μ 0).1=some vs):Al (keep msk μ 0).2 ρ vs/\∀i∈(keep msk μ 0).2,i<ρ.length:=by
 have hk:=IY (msk:=msk) (μ0:=μ) (μ:=μ) (pre:=[]) rfl;simp[List.length_nil]at hk;refine⟨λj i hi=>?_,λi hi=>?_⟩
 ·obtain⟨p,h1,h2⟩:=hk j i hi;obtain⟨x,x1,x2⟩:=(IR hv).at h1;rw[x1,<-h p i h2,x2]
 ·obtain⟨j,hj⟩:=List.getElem?_of_mem hi;obtain⟨p,h1,h2⟩:=hk j i hj;exact hb i (List.mem_of_getElem? h2)
theorem EF{msk:Nat}{μ:List Nat}{f:List Nat->Option UP}{up:UP}{L:Lbl}{ρ ρ':List DV}{Z:Prop}(h:VP msk μ f=some up)(ha:Al μ ρ ρ')(hb:∀i∈μ,i<ρ.length)(hv:V P R up L ρ')
 (hk:∀μ up ρ',f μ=some up->Al μ ρ ρ'->(∀i∈μ,i<ρ.length)->V P R up L ρ'->Z):Z:=by
 unfold VP at h;split at h
 ·split at h
  ·rename_i k hf;cases h;simp[V]at hv;split at hv
   ·rename_i vs hg;obtain⟨h1,h2⟩:=ha.keep hb hg
    grind
   grind
  grind
 grind
theorem G5{μ:List Nat}:∀{is ps:List Nat},pL μ is=some ps->ps.length=is.length
 |[],ps,hp=>by grind[pL]
 |i::is,ps,hp=>by
  simp[pL]at hp;split at hp
  ·rename_i p q h1 h2;cases hp;simp[G5 h2]
  grind
theorem mK:∀{xs ys:List (Nat×Nat)} {ds ds':List DV},xs.map (·.2)=ys.map (·.2)->xM xs ds ds'->xM ys ds ds'
 |[],[],[],[],_,_=>trivial
 |(a,b)::xs,(c,d)::ys,ds,ds',h,hm=>by
  simp[List.map_cons,List.cons.injEq]at h;obtain⟨rfl,h⟩:=h
  match b,ds,ds',hm with
  |0,d::ds,d'::ds',hm=>exact⟨hm.1,mK h hm.2⟩
  |1,d::ds,d'::ds',hm=>exact⟨hm.1,mK h hm.2⟩
  |2,d::ds,d'::ds',hm=>exact mK (ds:=ds) (ds':=ds') h hm
 |[],_::_,_,_,h,_=>by grind
 |_::_,[],_,_,h,_=>by grind
theorem uG:∀{xs:List (Nat×Nat)} {ds ds':List DV},xM xs ds ds'->ds'.length=xs.length
 |[],[],[],_=>rfl
 |(a,0)::xs,d::ds,d'::ds',hm=>by simp[uG hm.2]
 |(a,1)::xs,d::ds,d'::ds',hm=>by simp[uG hm.2]
 |(a,2)::xs,d::ds,d'::ds',hm=>by simp[uG (ds:=ds) (show xM xs ds ds' from hm)]
theorem JU:∀(pg:Pg) {m:Nat} {μ:List Nat} {up:UP} {L:Lbl} {ρ ρ':List DV},cv pg m μ=some up->m=ρ.length->Al μ ρ ρ'->(∀i∈μ,i<ρ.length)->V P R up L ρ'->W P R pg L ρ:=by
 intro pg
 induction pg with
 |nd n k ih=>
  intro m μ up L ρ ρ' h hm ha hb hv;subst hm
  cases n with
  |po o=>
   simp[cv]at h;split at h
   ·rename_i o' k' h1 h2;cases h;simp[V]at hv;rw[Q7 ha h1]at hv;simp[W];split at hv
    ·rename_i out ho
     try rw[ho]
     have hl:=KL ho;obtain⟨a1,a2⟩:=ha.many (e:=out) hb;rw[hl]at a1 a2
     grind
    assumption
   grind
  |call f a sh=>
   simp[cv]at h;refine EF h ha hb hv ?_;intro μ up ρ' h ha hb hv;split at h
   ·rename_i a' k' h1 h2;cases h;simp only[V]at hv;obtain⟨ys,res,v1,v2,v3,v4⟩:=hv;rw[As ha h1]at v1;simp[W];have hl:=eg v3;obtain⟨a1,a2⟩:=ha.many (e:=bW res) hb;rw[hl]at a1 a2
    grind
   grind
  |mark f b xs j=>
   simp[cv]at h;refine EF h ha hb hv ?_;intro μ up ρ' h ha hb hv;split at h
   ·rename_i ys j' k' h1 h3 h2;cases h;simp only[V]at hv;obtain⟨ds,ds',n,n',v1,v2,v3,v4,v5⟩:=hv;have hyl:=G5 h1;rw[List.length_map]at hyl
    have e1:(ys.zip (xs.map (·.2))).map (·.1)=ys:=by rw[List.map_fst_zip (by grind)]
    have e2:(ys.zip (xs.map (·.2))).map (·.2)=xs.map (·.2):=by rw[List.map_snd_zip (by grind)]
    rw[e1,rr ha h1]at v1;rw[ha.look h3]at v2;have v4':=mK e2 v4;have hl:=uG v4';simp only[W];obtain⟨a1,a2⟩:=ha.many (e:=ds'++[.sc (.int .i64 n')]) hb;have hl2:(ds'++[DV.sc (.int .i64 n')]).length=xs.length+1:=by grind
    rw[hl2]at a1 a2;exact⟨ds,ds',n,n',v1,v2,v3,v4',ih h2 (by rw[List.length_append,hl2]) a1 a2 v5⟩
   grind
 |ite x a b iha ihb=>
  intro m μ up L ρ ρ' h hm ha hb hv;simp[cv]at h;split at h
  ·rename_i x' a' b' h1 h2 h3;cases h;simp[V]at hv;simp[W];rw[ha.look h1]at hv
   grind
  grind
 |jump l xs=>
  intro m μ up L ρ ρ' h hm ha hb hv;simp[cv]at h;split at h
  ·rename_i ys h1;cases h;simp only[V,rr ha h1]at hv;exact hv
  grind
 |join n rest k ihr ihk=>
  intro m μ up L ρ ρ' h hm ha hb hv;subst hm;simp[cv]at h;refine EF h ha hb hv ?_;intro μ up ρ' h ha hb hv;split at h
  ·rename_i r' k' h1 h2;cases h;simp[V]at hv;obtain⟨J,j1,j2⟩:=hv;refine⟨J,λvs hl hJ=>?_,ihk h2 rfl ha hb j2⟩;obtain⟨a1,a2⟩:=ha.many (e:=vs) hb;rw[hl]at a1 a2
   grind
  grind
 |loop xs body ih=>
  intro m μ up L ρ ρ' h hm ha hb hv;subst hm;simp[cv]at h;refine EF h ha hb hv ?_;intro μ up ρ' h ha hb hv;split at h
  ·rename_i ys b' h1 h2;cases h;simp[V]at hv;obtain⟨I,m,vs,v1,v2,v3⟩:=hv;rw[rr ha h1]at v1;refine⟨I,m,vs,v1,v2,λvs m hl hI=>?_⟩;obtain⟨a1,a2⟩:=ha.many (e:=vs) hb;rw[hl]at a1 a2
   grind[G5]
  grind
 |ret xs=>
  intro m μ up L ρ ρ' h hm ha hb hv;simp[cv]at h;split at h
  ·rename_i ys h1;cases h;simp[V,As ha h1]at hv;exact hv
  grind
def U1(P:Program)(N:Nat)(ow:iI)(hs:List aQ)(dn:List (Nat×Nat×Bool×List Nat))(c:Code)(sh:List (Bool×Nat))(rvs:List ResultVar)(ty:List (List (Option (Nat×Nat)))):Option UP:=
 match Em P N ow hs (F7 P N ow dn) c 0 (su sh) (DA P rvs ty)with
 |some pg=>cv pg ((sh.map (·.2)).sum) (mE (db 0 ((sh.map (·.2)).sum)) [])
 |none=>none
theorem lO(args:List (Bool×List DV)):((Eo args).map (·.2)).sum=(fu args).length:=by
 induction args with
 |nil=>rfl
 |cons a r ih=>grind[Eo,fu,List.length_append]
theorem Mi{ow:iI}{hs:List aQ}{dn:List (Nat×Nat×Bool×List Nat)}{f:FuncId}{fn:Func}{c:Code}{args:List (Bool×List DV)}{res:List Rs}{ty:List (List (Option (Nat×Nat)))}{sh:List (Bool×Nat)}{up:UP}{N:Nat}{rvs:List ResultVar}
 (hf:P.funcs[f]? =some fn) (hb:fn.body=some c) (hc:bc P f=true) (hN:fn.ntmps=N) (hrv:fn.results.toList=rvs)
 (hg:U1 P N ow hs dn c sh rvs ty=some up) (hl:sh.length<=N) (hsh:Eo args=sh) (hw:V P (pd res) up [] (mE (fu args) [])):aB P f args res:=by
 subst hN hrv hsh;unfold U1 at hg;split at hg
 ·rename_i pg hp;have hlen:args.length<=fn.ntmps:=by grind[Eo]
  refine Mp ub hf hb hc hlen rfl hp ?_;rw[lO]at hg;obtain⟨a1,a2⟩:=Al.many (e:=fu args) (μ:=[]) (ρ:=[]) (ρ':=[]) (λp i h=>by rfl) (by simp)
  grind[JU]
 grind
end
section
variable {P:Program}
def K9(P:Program)(fn:Func):List (Bool×Nat):=fn.params.toList.map λt=>((bR P t).getD false,(Ev P 9 t).length)
def aM(P:Program)(f:FuncId)(fn:Func)(ow:iI)(hs:List aQ)(dn:List (Nat×Nat×Bool×List Nat)):Option (List (Bool×Nat)×UP):=
 match fn.body with
 |some c=>if bc P f&&decide (fn.params.toList.length<=fn.ntmps)then(match U1 P fn.ntmps ow hs dn c (K9 P fn) fn.results.toList (fn.resultTypes.toList.map (Ev P 9))with|some up=>some (K9 P fn,up)|none=>none)else none
 |none=>none
theorem ah{ow:iI}{hs:List aQ}{dn:List (Nat×Nat×Bool×List Nat)}{f:FuncId}{fn:Func}{args:List (Bool×List DV)}{res:List Rs}{sh:List (Bool×Nat)}{up:UP}
 (hf:P.funcs[f]? =some fn) (hg:aM P f fn ow hs dn=some (sh,up)) (hsh:Eo args=sh) (hw:V P (pd res) up [] (mE (fu args) [])):aB P f args res:=by
 unfold aM at hg;split at hg
 ·rename_i c hc;split at hg
  ·rename_i hb;rw[Bool.and_eq_true,decide_eq_true_eq]at hb;split at hg
   ·rename_i up' hu;cases hg;exact Mi hf hc hb.1 rfl rfl hu (by grind[K9]) hsh hw
   grind
  grind
 grind
end
end Go.Proofs.YtliknccmjjncbaaGreat
namespace Go.Proofs.YtliknccmjjncbaaGreat
open Go.RowKit
section
variable {P:Program}{ρ ρ':List DV}{σ:List Nat}{S S':Sy}{s s0:AS}{ps:List PO}
def DB:List (Bool×List SC)->List (List (Option (Nat×Nat)))->Sy->Option (List PO×List (Bool×List Nat))
 |[],_,S=>some ([],[])
 |(b,cs)::r,ty,S=>(match vj false cs (ty.headD []) S with
  |some (p,xs,S1)=>(match DB r ty.tail S1 with|some (q,l)=>some (p++q,(b,xs)::l)|none=>none)
  |none=>none)
theorem Gz:∀{xs:List (Bool×List SC)} {ty:List (List (Option (Nat×Nat)))} {l:List (Bool×List Nat)} {S:Sy} {ps:List PO} {ρ ρ':List DV} {rvs:List ResultVar} {ys:List (Bool×List AC)},
 DB xs ty S=some (ps,l)->ay ps ρ=some ρ'->aV S ρ σ s->XZ P s rvs ys->RT ρ σ xs ys->∃ds,ca ρ' l=some ds/\lD P s rvs (ds.map λd=>(d.1,d.2,false))
 |[],ty,l,S,ps,ρ,ρ',rvs,ys,h,he,hr,hv,ht=>by
  simp only[DB]at h;injection h with h;injection h with e1 e2;subst e1 e2
  match ys,ht with
  |[],_=>
   cases rvs with
   |nil=>exact⟨[],rfl,trivial⟩
   |cons=>exact hv.elim
 |(b,cs)::r,ty,l,S,ps,ρ,ρ',rvs,ys,h,he,hr,hv,ht=>by
  simp only[DB]at h;split at h
  ·rename_i p xs S1 h1;split at h
   ·rename_i q l' h2;injection h with h;injection h with e1 e2;subst e1 e2
    match ys,rvs,ht,hv with
    |y::ys,rv::rvs,ht,hv=>
     obtain⟨ρ1,a1,a2⟩:=ai he;obtain⟨ds,g1,g2,-,g3⟩:=eP h1 a1 hr ht.1.2;obtain⟨dss,d1,d2⟩:=Gz h2 a2 g3 hv.2 (RT.mono (aj a1) (aW.refl _) ht.2);refine⟨(b,ds)::dss,by simp only[ca,g1.app_pre (aj a2),d1],?_⟩;simp only[List.map_cons,lD];refine⟨trivial,?_,d2⟩;rw[hv.1];exact⟨ht.1.1,g2 rfl⟩
   grind
  grind
def Na(P:Program)(rvs:List ResultVar)(ty:List (List (Option (Nat×Nat)))):Kt:=λ_ e S=>
 match e with
 |.normal|.ret=>(match Fl P rvs S with
  |some (p,xs,S1)=>(match DB xs ty S1 with|some (q,l)=>some (dq ((p++q).map .po) (.ret l))|none=>none)
  |none=>none)
 |_=>none
def Xx(res:List Rs)(vs:List (Bool×List DV)):Prop:=(vs.map λd=>(d.1,d.2,false))=res
theorem NQ{rvs:List ResultVar}{ty:List (List (Option (Nat×Nat)))}{res:List Rs}{L:Lbl}:La P (Xx res) L ρ (DO P rvs res) (Na P rvs ty):=by
 intro L' ρ1 hL hp e S pg hpg σ s hr hw
 have key:∀p xs S1 q l,Fl P rvs S=some (p,xs,S1)->DB xs ty S1=some (q,l)->pg=dq ((p++q).map .po) (.ret l)->lD P s rvs res:=by
  intro p xs S1 q l h1 h2 e;subst e;obtain⟨ρ2,he,hw2,-⟩:=bp (lV hw);simp only[W]at hw2;obtain⟨vs,w1,w2⟩:=hw2;obtain⟨ρ3,a1,a2⟩:=ai he;obtain⟨ys,y1,y2,y3⟩:=D9 h1 a1 hr;obtain⟨ds,d1,d2⟩:=Gz (P:=P) h2 a2 y3 y1 y2;rw[w1]at d1;injection d1 with d1;subst d1;rw[w2]at d2;exact d2
 unfold Na at hpg;split at hpg
 ·split at hpg
  ·split at hpg
   ·injection hpg with hpg;exact Or.inr (key _ _ _ _ _ (by assumption) (by omega) hpg.symm)
   grind
  grind
 ·split at hpg
  ·split at hpg
   ·injection hpg with hpg;exact Or.inr (key _ _ _ _ _ (by assumption) (by omega) hpg.symm)
   grind
  grind
 grind
def RM(P:Program)(N:Nat)(ow:iI)(hs:List aQ)(dn:List (Nat×Nat×Bool×List Nat))(c:Code)(sh:List (Bool×Nat))(rvs:List ResultVar)(ty:List (List (Option (Nat×Nat)))):Option UP:=
 match Em P N ow hs (F7 P N ow dn) c 0 (su sh) (Na P rvs ty)with
 |some pg=>cv pg ((sh.map (·.2)).sum) (mE (db 0 ((sh.map (·.2)).sum)) [])
 |none=>none
def ED(P:Program)(f:FuncId)(fn:Func)(ow:iI)(hs:List aQ)(dn:List (Nat×Nat×Bool×List Nat)):Option (List (Bool×Nat)×UP):=
 match fn.body with
 |some c=>if bc P f&&decide (fn.params.toList.length<=fn.ntmps)then(match RM P fn.ntmps ow hs dn c (K9 P fn) fn.results.toList (fn.resultTypes.toList.map (Ev P 9))with|some up=>some (K9 P fn,up)|none=>none)else none
 |none=>none
theorem eA{ow:iI}{hs:List aQ}{dn:List (Nat×Nat×Bool×List Nat)}{f:FuncId}{fn:Func}{args:List (Bool×List DV)}{res:List Rs}{sh:List (Bool×Nat)}{up:UP}
 (hf:P.funcs[f]? =some fn) (hg:ED P f fn ow hs dn=some (sh,up)) (hsh:Eo args=sh) (hw:V P (Xx res) up [] (mE (fu args) [])):aB P f args res:=by
 unfold ED at hg;split at hg
 ·rename_i c hc;split at hg
  ·rename_i hb;rw[Bool.and_eq_true,decide_eq_true_eq]at hb;split at hg
   ·rename_i up' hu;injection hg with hg;injection hg with e1 e2;subst e1 e2;unfold RM at hu;split at hu
    ·rename_i pg hp;rw[<-hsh]at hp hu;have hlen:args.length<=fn.ntmps:=by have:=hb.2;rw[<-show(K9 P fn).length=fn.params.toList.length from by simp[K9],<-hsh]at this;grind[Eo]
     refine Dm hf hc hb.1 hlen (DT (L:=[]) ub c hp rfl (Gg args) NQ ?_);rw[lO]at hu;obtain⟨a1,a2⟩:=Al.many (e:=fu args) (μ:=[]) (ρ:=[]) (ρ':=[]) (λp i h=>by rfl) (by simp)
     grind[JU]
    grind
   grind
  grind
 grind
end
section
variable {P:Program}
def BT:List (Bool×List SC)->Nat->List (Nat×SV)
 |[],_=>[]
 |(b,cs)::r,i=>(i,.p b cs)::BT r (i+1)
theorem DJ:∀{l:List (Bool×List SC)} {i t:Nat} {x:SV},aS (BT l i) t=some x->∃b cs,i<=t/\l[t-i]? =some (b,cs)/\x=.p b cs
 |[],i,t,x,h=>by grind[BT,aS]
 |(b,cs)::r,i,t,x,h=>by
  simp only[BT,aS]at h;split at h
  ·grind
  ·obtain⟨b',cs',h1,h2,h3⟩:=DJ h
   grind
def VQ(sh:Sh):Sy:=⟨[],[],0,0,dV sh,[]⟩
def JB(sh:Sh):Sy:={ (iF false sh 0 (VQ sh)).2 with sl:=BT (iF false sh 0 (VQ sh)).1 0}
theorem RJ{ρ:List DV}{σ:List Nat}:∀{xs:List (Bool×List SC)} {ys:List (Bool×List AC)} {t:Nat} {b:Bool} {cs:List SC},RT ρ σ xs ys->xs[t]? =some (b,cs)->∃zs,ys[t]? =some (b,zs)/\cm ρ σ cs zs
 |[],_,t,b,cs,_,h=>by grind
 |(b',cs')::xs,[],t,b,cs,h,_=>h.elim
 |(b',cs')::xs,(b2,zs)::ys,0,b,cs,h,hx=>by
  simp at hx;obtain⟨rfl,rfl⟩:=hx;obtain⟨⟨h1,h2⟩,-⟩:=h;have h1:b2=b':=h1
  grind
 |(b',cs')::xs,(b2,zs)::ys,t+1,b,cs,h,hx=>by
  obtain⟨-,h3⟩:=h;obtain⟨zs',k1,k2⟩:=RJ h3 (by simpa using hx)
  grind
theorem Kc{args:List Rs}{sh:Sh}(h:er sh args=true):∃σ,aV (JB sh) (bW args) σ (ID args):=by
 have h0:aV (VQ sh) (bW args) [] (lF []):=⟨rfl,rfl,eg h,λt x hx=>by grind[VQ,aS],λi x hx=>by grind[VQ,aS],λi x hx=>by grind[VQ,aS]⟩;obtain⟨σ,-,k1,k2⟩:=ji (X:=false) (m:=0) h (dG (ρ:=[]) rfl rfl) h0;refine⟨σ,k1.n,k1.c,k1.m,λt x hx=>?_,k1.ob,k1.kn⟩;obtain⟨b,cs,-,h1,rfl⟩:=DJ hx;obtain⟨zs,h2,h3⟩:=RJ k2 h1;have h2':(iW args 0 0)[t]? =some (b,zs):=h2;simp only[ID,h2'];exact⟨rfl,h3⟩
theorem Nx:∀{sh:Sh} {rs:List Rs},er sh rs=true->rs.length=sh.length
 |[],[],_=>rfl
 |[],_::_,h=>by grind[er]
 |_::_,[],h=>by grind[er]
 |a::sh,r::rs,h=>by
  simp only[er,Bool.and_eq_true]at h;simp[Nx h.2.2]
def oK(P:Program)(f:FuncId)(fn:Func)(ow:iI)(hs:List aQ)(dn:List (Nat×Nat×Bool×List Nat))(sh:Sh):Option UP:=
 match fn.body with
 |some c=>if bc P f&&decide (sh.length<=fn.ntmps)then(match Em P fn.ntmps ow hs (F7 P fn.ntmps ow dn) c 0 (JB sh) (DA P fn.results.toList (fn.resultTypes.toList.map (Ev P 9)))with
  |some pg=>cv pg (dV sh) (mE (db 0 (dV sh)) [])
  |none=>none)else none
 |none=>none
theorem et{ow:iI}{hs:List aQ}{dn:List (Nat×Nat×Bool×List Nat)}{f:FuncId}{fn:Func}{args res:List Rs}{sh:Sh}{up:UP}
 (hf:P.funcs[f]? =some fn) (hg:oK P f fn ow hs dn sh=some up) (hsh:er sh args=true) (hdp:∀r∈res,r.2.2=true) (hw:V P (pd res) up [] (mE (bW args) [])):ic P f args res:=by
 unfold oK at hg;split at hg
 ·rename_i c hc;split at hg
  ·rename_i hb;rw[Bool.and_eq_true,decide_eq_true_eq]at hb;split at hg
   ·rename_i pg hp';obtain⟨σ,hrel⟩:=Kc hsh;refine GT hf hc hb.1 (by rw[Nx hsh];omega) hdp (DT (L:=[]) ub c hp' rfl hrel BA ?_);obtain⟨a1,a2⟩:=Al.many (e:=bW args) (μ:=[]) (ρ:=[]) (ρ':=[]) (λp i h=>by rfl) (by simp);rw[eg hsh]at a1 a2
    grind[List.length_nil,JU,eg]
   grind
  grind
 grind
def Fk:Nat->Nat->Nat->List (Nat×SV)
 |0,_,_=>[]
 |k+1,t,m=>(t,.p false [.rd [m]])::Fk k (t+1) (m+1)
theorem FX:∀{k t0 m0 t:Nat} {x:SV},aS (Fk k t0 m0) t=some x->t0<=t/\t-t0<k/\x=.p false [.rd [m0+(t-t0)]]
 |0,t0,m0,t,x,h=>by simp[Fk,aS]at h
 |k+1,t0,m0,t,x,h=>by
  simp only[Fk,aS]at h;split at h
  ·rename_i e;subst e;cases h;simp
  ·obtain⟨h1,h2,rfl⟩:=FX h;exact⟨by omega,by omega,by rw[show m0+1+(t-(t0+1))=m0+(t-t0) by omega]⟩
theorem CY{α:Type}:∀{l r:List (Nat×α)} {t:Nat} {x:α},aS (l++r) t=some x->aS l t=some x\/aS r t=some x
 |[],r,t,x,h=>.inr h
 |(j,y)::l,r,t,x,h=>by
  simp only[List.cons_append,aS]at h ⊢;split
  ·rename_i e;rw[if_pos e]at h;exact .inl h
  ·rename_i e;rw[if_neg e]at h;exact CY h
def u9(sh:List (Bool×Nat))(k:Nat):Sy:=⟨VR sh 0 0++Fk k sh.length (sh.map (·.2)).sum,[],0,0,(sh.map (·.2)).sum+k,[]⟩
theorem KX(args:List (Bool×List DV))(ds:List DV):aV (u9 (Eo args) ds.length) (fu args++ds) [] (uS (ox args++sH (ds.map λd=>(false,[d])))):=by
 refine⟨rfl,rfl,by simp[u9,lO],λt x hx=>?_,λi x hx=>by grind[u9,aS],λi b hb=>by grind[u9,aS]⟩;rcases CY hx with hx|hx
 ·obtain⟨b,es,m,h1,h2,h3,h4⟩:=Iu (pre:=[]) hx;subst h3;rw[Nat.sub_zero]at h2
  have:(ox args++sH (ds.map λd=>(false,[d])))[t]? =some (b,es.map .d):=by
   rw[List.getElem?_append_left (by simp[ox];exact(List.getElem?_eq_some_iff.1 h2).1)];simp[ox,h2]
  simp only[uS,this];exact⟨rfl,RD.toC (h4.mono (aW.app _ _))⟩
 ·obtain⟨h1,h2,rfl⟩:=FX hx;have hl:(Eo args).length=args.length:=by simp[Eo]
  rw[hl]at h1 h2
  have:(ox args++sH (ds.map λd=>(false,[d])))[t]? =some (false,[.rd [ds[t-args.length]]]):=by
   rw[List.getElem?_append_right (by simp[ox];exact h1)];simp[ox,sH,h2]
  simp only[uS,this];refine⟨rfl,⟨?_,trivial⟩,trivial⟩;rw[hl,lO,List.getElem?_append_right (by omega),Nat.add_sub_cancel_left,List.getElem?_eq_getElem h2]
def HJ(P:Program)(f:FuncId)(fn:Func)(ow:iI)(hs:List aQ)(dn:List (Nat×Nat×Bool×List Nat)):Option ((List (Bool×Nat)×Nat)×UP):=
 match fn.body with
 |some c=>if bc P f&&decide (fn.params.toList.length+fn.nfree<=fn.ntmps)then(match Em P fn.ntmps ow hs (F7 P fn.ntmps ow dn) c 0 (u9 (K9 P fn) fn.nfree) (DA P fn.results.toList (fn.resultTypes.toList.map (Ev P 9)))with
  |some pg=>(match cv pg (((K9 P fn).map (·.2)).sum+fn.nfree) (mE (db 0 (((K9 P fn).map (·.2)).sum+fn.nfree)) [])with|some up=>some ((K9 P fn,fn.nfree),up)|none=>none)
  |none=>none)else none
 |none=>none
theorem Hh{ow:iI}{hs:List aQ}{dn:List (Nat×Nat×Bool×List Nat)}{f:FuncId}{fn:Func}{args:List (Bool×List DV)}{ds:List DV}{res:List Rs}{sh:List (Bool×Nat)}{k:Nat}{up:UP}
 (hf:P.funcs[f]? =some fn) (hg:HJ P f fn ow hs dn=some ((sh,k),up)) (hsh:Eo args=sh) (hk:ds.length=k) (hw:V P (pd res) up [] (mE (fu args++ds) [])):sx P f (ox args++sH (ds.map λd=>(false,[d]))) res:=by
 unfold HJ at hg;split at hg
 ·rename_i c hc;split at hg
  ·rename_i hb;rw[Bool.and_eq_true,decide_eq_true_eq]at hb;split at hg
   ·rename_i pg hp;split at hg
    ·rename_i up' hu;cases hg;rw[<-hsh,<-hk]at hp hu
     have hl:args.length=fn.params.toList.length:=by
      have:=congrArg List.length hsh;simpa[Eo,K9]using this
     refine Is hf hc hb.1 (by simp[ox,sH];omega) (DT (L:=[]) ub c hp rfl (KX args ds) BA ?_);obtain⟨a1,a2⟩:=Al.many (e:=fu args++ds) (μ:=[]) (ρ:=[]) (ρ':=[]) (λp i h=>by rfl) (by simp)
     grind[List.length_nil,JU,lO,List.length_append]
    ·cases hg
   ·cases hg
  ·cases hg
 ·cases hg
end
end Go.Proofs.YtliknccmjjncbaaGreat
namespace Go.Proofs.YtliknccmjjncbaaGreat
open Go.RowKit
section
variable {P:Program}{R:List (Bool×List DV)->Prop}{k a b:UP}{L:Lbl}{ρ:List DV}
def Bd(P:Program)(R:List (Bool×List DV)->Prop)(k:UP)(L:Lbl)(ρ:List DV):Option (List DV)->Prop
 |some out=>V P R k L (mE out ρ)
 |none=>False
def Cl(P:Program)(R:List (Bool×List DV)->Prop)(f:FuncId)(sh:Sh)(k:UP)(L:Lbl)(ρ:List DV)(x:Option (List (Bool×List DV))):Prop:=
 ∃ys res,x=some ys/\eC P f ys res/\er sh res=true/\V P R k L (mE (bW res) ρ)
def Br(P:Program)(R:List (Bool×List DV)->Prop)(a b:UP)(L:Lbl)(ρ:List DV):Option DV->Prop
 |some (.sc (.bool c))=>(match c with|true=>V P R a L ρ|false=>V P R b L ρ)
 |_=>False
def Jp:Option (List DV->Prop)->Option (List DV)->Prop
 |some J,some vs=>J vs
 |_,_=>False
def Rt(R:List (Bool×List DV)->Prop):Option (List (Bool×List DV))->Prop
 |some vs=>R vs
 |none=>False
def Sl(P:Program)(R:List (Bool×List DV)->Prop)(k:UP)(L:Lbl):Option (List DV)->Prop
 |some vs=>V P R k L vs
 |none=>False
theorem Wt{o:PO}:V P R (.po o k) L ρ=Bd P R k L ρ (aG ρ o):=by
 rw[V];rfl
theorem Qn{out:List DV}:Bd P R k L ρ (some out)=V P R k L (mE out ρ):=rfl
theorem YQ{f:FuncId}{ar:List (Bool×List Nat)}{sh:Sh}:V P R (.cl f ar sh k) L ρ=Cl P R f sh k L ρ (ca ρ ar):=rfl
theorem WZ{x:Nat}:V P R (.ite x a b) L ρ=Br P R a b L ρ (ρ[x]?):=by
 rw[V];rfl
theorem D2:Br P R a b L ρ (some (.sc (.bool true)))=V P R a L ρ:=rfl
theorem BM:Br P R a b L ρ (some (.sc (.bool false)))=V P R b L ρ:=rfl
theorem U0{p:Prop}[Decidable p]:Br P R a b L ρ (some (.sc (.bool (decide p))))=((p->V P R a L ρ)/\(¬p->V P R b L ρ)):=by
 by_cases h:p
 ·simp[h,D2]
 grind[BM]
theorem P9{c:Bool}:Br P R a b L ρ (some (.sc (.bool c)))=((c=true->V P R a L ρ)/\(c=false->V P R b L ρ)):=by
 cases c<;>simp[D2,BM]
theorem eJ{p:Prop}[Decidable p](h1:p->V P R a L ρ)(h2:¬p->V P R b L ρ):Br P R a b L ρ (some (.sc (.bool (decide p)))):=by rw[U0];grind
class BrD(c:Bool){α:Type}(x y:α)(p q:outParam Prop)(u v:outParam α):Prop where
 t:c=true->(p/\u=x)\/(q/\v=x)
 f:c=false->(p/\u=y)\/(q/\v=y)
instance (priority:=1200){α:Type}{x y:α}{p:Prop}[Decidable p]:BrD (decide p) x y p (¬p) x y:=⟨λh=>.inl ⟨of_decide_eq_true h,rfl⟩,λh=>.inr ⟨of_decide_eq_false h,rfl⟩⟩
instance (priority:=1200){α:Type}{x y:α}{p:Prop}[Decidable p]:BrD (!decide p) x y p (¬p) y x:=⟨λh=>.inr ⟨by simpa using h,rfl⟩,λh=>.inl ⟨by simpa using h,rfl⟩⟩
instance (priority:=900){α:Type}{x y:α}{c:Bool}:BrD (!c) x y (c=true) (c=false) y x:=⟨λh=>.inr ⟨by simpa using h,rfl⟩,λh=>.inl ⟨by simpa using h,rfl⟩⟩
instance (priority:=100){α:Type}{x y:α}{c:Bool}:BrD c x y (c=true) (c=false) x y:=⟨λh=>.inl ⟨h,rfl⟩,λh=>.inr ⟨h,rfl⟩⟩
theorem ak{c:Bool}{p q:Prop}{u v:UP}[i:BrD c a b p q u v](h1:p->V P R u L ρ)(h2:q->V P R v L ρ):Br P R a b L ρ (some (.sc (.bool c))):=by
 rw[P9];refine⟨λh=>?_,λh=>?_⟩
 ·rcases i.t h with⟨g,rfl⟩|⟨g,rfl⟩
  ·grind
  grind
 ·rcases i.f h with⟨g,rfl⟩|⟨g,rfl⟩
  ·grind
  grind
theorem Um{l:Nat}{xs:List Nat}:V P R (.jump l xs) L ρ=Jp (L[l]?) (gL ρ xs):=by
 rw[V];cases h1:L[l]? <;>cases h2:gL ρ xs<;>simp[Jp]
theorem Ry{J:List DV->Prop}{vs:List DV}:Jp (some J) (some vs)=J vs:=rfl
theorem XO{xs:List (Bool×List Nat)}:V P R (.ret xs) L ρ=Rt R (ca ρ xs):=by
 rw[V];cases h:ca ρ xs<;>simp[Rt]
theorem P8{vs:List (Bool×List DV)}:Rt R (some vs)=R vs:=rfl
theorem RS{xs:List Nat}:V P R (.sel xs k) L ρ=Sl P R k L (gL ρ xs):=by
 rw[V];rfl
theorem QM{vs:List DV}:Sl P R k L (some vs)=V P R k L vs:=rfl
theorem ac{f:FuncId}{sh:Sh}{ys:List (Bool×List DV)}{res:List Rs}(hm:aB P f ys res)(hs:er sh res=true)(hk:V P R k L (mE (bW res) ρ)):Cl P R f sh k L ρ (some ys):=⟨ys,res,rfl,.n hm,hs,hk⟩
theorem ab{f:FuncId}{sh:Sh}{ys:List (Bool×List DV)}{res:List Rs}(hm:LH P f ys res)(hs:er sh res=true)(hk:V P R k L (mE (bW res) ρ)):Cl P R (f+1000000) sh k L ρ (some ys):=by rw[Nat.add_comm];exact⟨ys,res,rfl,.p hm,hs,hk⟩
theorem nv{f bits:Nat}{sh:Sh}{ys:List (Bool×List DV)}{res:List Rs}(hb:bits<1000)(hm:ic P f (Hq (Bf ys.length bits) ys) res)(hs:er sh res=true)(hk:V P R k L (mE (bW res) ρ)):Cl P R ((4+bits)*1000000+f) sh k L ρ (some ys):=⟨ys,res,rfl,.g hb hm,hs,hk⟩
theorem NN{f k':Nat}{sh:Sh}{ys:List (Bool×List DV)}{res:List Rs}(hb:k'<900000)(hm:sx P f (yj k' ys) res)(hs:er sh res=true)(hk:V P R k L (mE (bW res) ρ)):Cl P R ((2000+k')*1000000+f) sh k L ρ (some ys):=⟨ys,res,rfl,.a hb hm,hs,hk⟩
def Mk(P:Program)(R:List (Bool×List DV)->Prop)(f:FuncId)(b:Bool)(xs:List (Nat×Nat))(k:UP)(L:Lbl)(ρ:List DV)(x:Option (List DV))(y:Option DV):Prop:=
 ∃ds ds' n n',x=some ds/\y=some (.sc (.int .i64 n))/\jb P f b ds n ds' n'/\xM xs ds ds'/\V P R k L (mE (ds'++[.sc (.int .i64 n')]) ρ)
theorem Yt{f:FuncId}{b:Bool}{xs:List (Nat×Nat)}{j:Nat}:V P R (.mk f b xs j k) L ρ=Mk P R f b xs k L ρ (gL ρ (xs.map (·.1))) (ρ[j]?):=rfl
theorem Wv{f:FuncId}{b:Bool}{xs:List (Nat×Nat)}{ds ds':List DV}{n n':Int}(hm:jb P f b ds n ds' n')(he:xM xs ds ds')(hk:V P R k L (mE (ds'++[.sc (.int .i64 n')]) ρ)):Mk P R f b xs k L ρ (some ds) (some (.sc (.int .i64 n))):=⟨ds,ds',n,n',rfl,rfl,hm,he,hk⟩
def XG(L L':Lbl):Prop:=∀(l:Nat) J,L[l]? =some J->∃J',L'[l]? =some J'/\∀vs,J vs->J' vs
theorem XG.snoc{L L':Lbl}{J J':List DV->Prop}(h:XG L L')(hl:L.length=L'.length)(hj:∀vs,J vs->J' vs):XG (L++[J]) (L'++[J']):=by
 intro l X hX;rcases Nat.lt_or_ge l L.length with hlt|hge
 ·rw[List.getElem?_append_left hlt]at hX;obtain⟨X',h1,h2⟩:=h l X hX
  grind
 ·have:l=L.length:=by
   have:=(List.getElem?_eq_some_iff.1 hX).1;grind
  simp_all
theorem TH:∀(up:UP) {L L':Lbl} {ρ:List DV},XG L L'->L.length=L'.length->V P R up L ρ->V P R up L' ρ:=by
 intro up
 induction up with
 |po o k ih=>intro L L' ρ h hl hv;rw[Wt]at hv ⊢;cases he:aG ρ o with
  |none=>rw[he]at hv;exact hv
  |some out=>rw[he]at hv;exact ih h hl hv
 |cl f ar sh k ih=>intro L L' ρ h hl hv;obtain⟨ys,res,h1,h2,h3,h4⟩:=hv;exact⟨ys,res,h1,h2,h3,ih h hl h4⟩
 |mk f b xs j k ih=>intro L L' ρ h hl hv;obtain⟨ds,ds',n,n',h1,h2,h3,h4,h5⟩:=hv;exact⟨ds,ds',n,n',h1,h2,h3,h4,ih h hl h5⟩
 |ite x a b iha ihb=>
  grind[V]
 |jump l xs=>intro L L' ρ h hl hv;obtain⟨J,vs,h1,h2,h3⟩:=hv;obtain⟨J',h4,h5⟩:=h l J h1;exact⟨J',vs,h4,h2,h5 vs h3⟩
 |join n rest k ihr ihk=>intro L L' ρ h hl hv;obtain⟨J,h1,h2⟩:=hv;exact⟨J,λvs a b=>ihr h hl (h1 vs a b),ihk (h.snoc hl λ_ h=>h) (by grind) h2⟩
 |loop xs body ih=>intro L L' ρ h hl hv;obtain⟨I,m,vs,h1,h2,h3⟩:=hv;exact⟨I,m,vs,h1,h2,λvs m a b=>ih (h.snoc hl λ_ h=>h) (by grind) (h3 vs m a b)⟩
 |ret xs=>intro L L' ρ h hl hv;exact hv
 |sel xs k ih=>intro L L' ρ h hl hv;rw[RS]at hv ⊢;cases he:gL ρ xs with
  |none=>rw[he]at hv;exact hv
  |some out=>rw[he]at hv;exact ih h hl hv
theorem lp{xs:List Nat}{body:UP}{α:Type}(enc:α->List DV)(I:α->Prop)(m:α->Nat)(a0:α)(h0:gL ρ xs=some (enc a0))(hI:I a0)
 (hb:∀a,I a->V P R body (L++[λvs'=>∃a',vs'=enc a'/\I a'/\m a'<m a]) (mE (enc a) ρ)):V P R (.loop xs body) L ρ:=by
 refine⟨λvs n=>∃a,vs=enc a/\I a/\n=m a,m a0,enc a0,h0,⟨a0,rfl,hI,rfl⟩,?_⟩
 grind
theorem G2{xs:List Nat}{body:UP}(n:Nat)(st:Nat->List DV)(h0:gL ρ xs=some (st 0))
 (hb:∀i,i<=n->V P R body (L++[λvs'=>vs'=st (i+1)/\i<n]) (mE (st i) ρ)):V P R (.loop xs body) L ρ:=by
 refine lp st (·<=n) (n - ·) 0 h0 (Nat.zero_le _) λi hi=>?_
 have:=hb i hi;refine TH body ?_ ?_ this
 ·exact XG.snoc (λl J h=>⟨J,h,λ_ h=>h⟩) rfl (λvs' ⟨h1,h2⟩=>⟨i+1,h1,h2,by omega⟩)
 ·simp
theorem jn{n:Nat}{rest:UP}(J:List DV->Prop)(hk:V P R k (L++[J]) ρ)(hr:∀vs,vs.length=n->J vs->V P R rest L (mE vs ρ)):V P R (.join n rest k) L ρ:=⟨J,hr,hk⟩
theorem yg{n:Nat}{rest:UP}(v:List DV)(hk:V P R k (L++[(· =v)]) ρ)(hr:V P R rest L (mE v ρ)):V P R (.join n rest k) L ρ:=⟨(· =v),λvs _ h=>h▸hr,hk⟩
end
section
variable {ρ:List DV}
def cA(op:BinOp)(b:Bool):Option DV->Option DV->Option (List DV)
 |some (.sc x),some (.sc y)=>zx (kh op b x y)
 |_,_=>none
theorem Ys{v:Value}:aG ρ (.k v)=if uk v then some [.sc v]else none:=rfl
theorem Yk{t k:Nat}:aG ρ (.e t k)=some [.sl t k []]:=rfl
theorem TW{op:BinOp}{b:Bool}{x y:Nat}:aG ρ (.bin op b x y)=cA op b ρ[x]? ρ[y]?:=by
 rfl
variable {b:Bool}{k:IntKind}{x y:Int}
theorem VX:cA .add b (some (.sc (.int k x))) (some (.sc (.int k y)))=some [.sc (.int k (k.wrap (x+y)))]:=by simp[cA,kh,dK,zx]
theorem Xq:cA .sub b (some (.sc (.int k x))) (some (.sc (.int k y)))=some [.sc (.int k (k.wrap (x-y)))]:=by simp[cA,kh,dK,zx]
theorem Xs:cA .mul b (some (.sc (.int k x))) (some (.sc (.int k y)))=some [.sc (.int k (k.wrap (x*y)))]:=by simp[cA,kh,dK,zx]
theorem Xn(h:y≠0):cA .quo b (some (.sc (.int k x))) (some (.sc (.int k y)))=some [.sc (.int k (k.wrap (x.tdiv y)))]:=by grind[cA,kh,dK,zx]
theorem Xc(h:y≠0):cA .rem b (some (.sc (.int k x))) (some (.sc (.int k y)))=some [.sc (.int k (x.tmod y))]:=by grind[cA,kh,dK,zx]
theorem Xy:cA .eql b (some (.sc (.int k x))) (some (.sc (.int k y)))=some [.sc (.bool (decide (x=y)))]:=by simp[cA,kh,dK,zx]
theorem WE:cA .neq b (some (.sc (.int k x))) (some (.sc (.int k y)))=some [.sc (.bool (!decide (x=y)))]:=by simp[cA,kh,dK,zx]
theorem V3:cA .lss b (some (.sc (.int k x))) (some (.sc (.int k y)))=some [.sc (.bool (decide (x<y)))]:=by simp[cA,kh,dK,zx]
theorem WX:cA .leq b (some (.sc (.int k x))) (some (.sc (.int k y)))=some [.sc (.bool (decide (x<=y)))]:=by simp[cA,kh,dK,zx]
theorem XE:cA .gtr b (some (.sc (.int k x))) (some (.sc (.int k y)))=some [.sc (.bool (decide (y<x)))]:=by simp[cA,kh,dK,zx]
theorem WG:cA .geq b (some (.sc (.int k x))) (some (.sc (.int k y)))=some [.sc (.bool (decide (y<=x)))]:=by simp[cA,kh,dK,zx]
variable {s t:ByteArray}
theorem yl(h:s.size+t.size<=maxLen):cA .add b (some (.sc (.string s))) (some (.sc (.string t)))=some [.sc (.string (s++t))]:=by grind[cA,kh,v8,zx]
theorem V4:cA .eql b (some (.sc (.string s))) (some (.sc (.string t)))=some [.sc (.bool (decide (s=t)))]:=by rfl
theorem Wz:cA .neq b (some (.sc (.string s))) (some (.sc (.string t)))=some [.sc (.bool (!decide (s=t)))]:=by rfl
theorem W4:cA .lss b (some (.sc (.string s))) (some (.sc (.string t)))=some [.sc (.bool (Op.bytesLess s.toList t.toList))]:=by rfl
theorem WS:cA .gtr b (some (.sc (.string s))) (some (.sc (.string t)))=some [.sc (.bool (!(Op.bytesLess s.toList t.toList||decide (s=t))))]:=by rfl
variable {c d:Bool}
theorem WF:cA .eql true (some (.sc (.bool c))) (some (.sc (.bool d)))=some [.sc (.bool (c==d))]:=by rfl
theorem XP:cA .neq true (some (.sc (.bool c))) (some (.sc (.bool d)))=some [.sc (.bool (!(c==d)))]:=by rfl
def YJ(op:UnOp):Option DV->Option (List DV)
 |some (.sc x)=>zx (Sx op x)
 |_=>none
theorem Xw{op:UnOp}{x:Nat}:aG ρ (.un op x)=YJ op ρ[x]?:=by
 rfl
theorem XD:YJ .neg (some (.sc (.int k x)))=some [.sc (.int k (k.wrap (0-x)))]:=by rfl
theorem VY:YJ .not (some (.sc (.bool c)))=some [.sc (.bool (!c))]:=by rfl
theorem zE{z:Int}(h: -9223372036854775808<=z)(h2:z<=9223372036854775807):IntKind.i64.wrap z=z:=by
 simp only[IntKind.wrap,IntKind.bits,IntKind.signed];have e:z.bmod (2^64)=z:=Int.bmod_eq_of_le (by omega) (by omega)
 grind
end
end Go.Proofs.YtliknccmjjncbaaGreat
namespace Go.Proofs.YtliknccmjjncbaaGreat
open Go.RowKit
section
variable {ρ:List DV}{k t:Nat}{kd:IntKind}{z:Int}{es fs:List (List DV)}
def W0:Option DV->Option (List DV)
 |some (.sc (.int _ _))=>some []
 |_=>none
theorem SK{x:Nat}:aG ρ (.isI x)=W0 ρ[x]?:=by rfl
theorem Ws:W0 (some (.sc (.int kd z)))=some []:=rfl
def XV:Option DV->Option (List DV)
 |some d=>if im d then some []else none
 |none=>none
theorem XL{x:Nat}:aG ρ (.sc x)=XV ρ[x]?:=by rfl
theorem Xf:XV (some (.sc (.int kd z)))=some []:=rfl
theorem Xl{s:ByteArray}:XV (some (.sc (.string s)))=some []:=rfl
theorem Wu{b:Bool}:XV (some (.sc (.bool b)))=some []:=rfl
theorem WW{n:Int}:uk (.int kd n)=true:=rfl
theorem WV{s:ByteArray}:uk (.string s)=true:=rfl
theorem Uk{b:Bool}:uk (.bool b)=true:=rfl
def pi:Option DV->Option (List DV)
 |some (.sl _ _ es)=>if es.flatten.all im then some []else none
 |_=>none
theorem Po{x:Nat}:aG ρ (.flat x)=pi ρ[x]?:=by rfl
theorem Tw(h:es.flatten.all im=true):pi (some (.sl t k es))=some []:=by grind[pi]
def YD(t k:Nat):Option DV->Option (List DV)
 |some (.sl t' k' es)=>if t'=t/\k'=k/\es.flatten.all im=true then some []else none
 |_=>none
theorem Uq{t k x:Nat}:aG ρ (.isL t k x)=YD t k ρ[x]?:=by rfl
theorem Ql:pi (some (.sl t k []))=some []:=rfl
theorem tD{α:Type}{e:α->List DV}{l:List α}(h:∀x,(e x).all im=true):pi (some (.sl t k (l.map e)))=some []:=by
 grind[Tw]
def Xm(k:IntKind):Option DV->Option (List DV)
 |some (.sc (.int _ n))=>some [.sc (.int k (k.wrap n))]
 |_=>none
theorem Tf{k:IntKind}{x:Nat}:aG ρ (.cvI k x)=Xm k ρ[x]?:=by rfl
theorem Ww{k:IntKind}:Xm k (some (.sc (.int kd z)))=some [.sc (.int k (k.wrap z))]:=rfl
def WL:Option DV->Option (List DV)
 |some (.sc (.string s))=>some [.sc (.string s)]
 |_=>none
theorem Vr{x:Nat}:aG ρ (.cvS x)=WL ρ[x]?:=by rfl
theorem Xg{s:ByteArray}:WL (some (.sc (.string s)))=some [.sc (.string s)]:=rfl
def Mw:Option DV->Option (List DV)
 |some (.sl _ 1 es)=>(match je es with|some xs=>some [.sc (.string (strOfNums xs))]|none=>none)
 |_=>none
theorem Ug{x:Nat}:aG ρ (.cvB x)=Mw ρ[x]?:=by rfl
theorem Wo{xs:List Int}(h:je es=some xs):Mw (some (.sl t 1 es))=some [.sc (.string (strOfNums xs))]:=by grind[Mw]
def Sn:Option DV->Option (List DV)
 |some (.sc (.string s))=>some [.sc (.int .i64 s.size)]
 |_=>none
theorem Qk{x:Nat}:aG ρ (.lenS x)=Sn ρ[x]?:=by rfl
theorem Ut{s:ByteArray}:Sn (some (.sc (.string s)))=some [.sc (.int .i64 s.size)]:=rfl
def R8:Option DV->Option (List DV)
 |some (.sl _ _ es)=>some [.sc (.int .i64 es.length)]
 |_=>none
theorem P4{x:Nat}:aG ρ (.lenL x)=R8 ρ[x]?:=by rfl
theorem UI:R8 (some (.sl t k es))=some [.sc (.int .i64 es.length)]:=rfl
def Pe:Option DV->Option DV->Option (List DV)
 |some (.sc (.string s)),some (.sc (.int _ z))=>if 0<=z then(match s[z.toNat]? with|some u=>some [.sc (.int .u8 u.toNat)]|none=>none)else none
 |_,_=>none
theorem UG{x i:Nat}:aG ρ (.chr x i)=Pe ρ[x]? ρ[i]?:=by rfl
theorem V7{s:ByteArray}{u:UInt8}(h:0<=z)(hu:s[z.toNat]? =some u):Pe (some (.sc (.string s))) (some (.sc (.int kd z)))=some [.sc (.int .u8 u.toNat)]:=by simp_all[Pe,if_pos]
def m8(s:ByteArray)(i:Nat):Nat:=((s[i]?).map UInt8.toNat).getD 0
theorem Tp{s:ByteArray}(h:0<=z)(hu:z<s.size):Pe (some (.sc (.string s))) (some (.sc (.int kd z)))=some [.sc (.int .u8 (m8 s z.toNat))]:=by
 have hz:z.toNat<s.size:=by omega
 rw[V7 h (getElem?_pos s z.toNat hz)]
 grind[m8]
def cc(k:Nat):Option DV->Option DV->Option (List DV)
 |some (.sl _ k' es),some (.sc (.int _ z))=>if k'=k/\0<=z then(match es[z.toNat]? with|some e=>if e.length=k then some e else none|none=>none)else none
 |_,_=>none
theorem Vs{x i:Nat}:aG ρ (.idx k x i)=cc k ρ[x]? ρ[i]?:=by rfl
theorem XA{e:List DV}(h:0<=z)(he:es[z.toNat]? =some e)(hk:e.length=k):cc k (some (.sl t k es)) (some (.sc (.int kd z)))=some e:=by
 grind[cc]
theorem lR{α:Type}[Inhabited α]{e:α->List DV}{l:List α}(hk:∀x,(e x).length=k)(h:0<=z)(h1:z<l.length):cc k (some (.sl t k (l.map e))) (some (.sc (.int kd z)))=some (e (l.getD z.toNat default)):=by
 have hz:z.toNat<l.length:=by omega
 grind[XA,List.getElem?_eq_getElem]
def Er(k:Nat):Option DV->Option DV->Option (List DV)
 |some (.sl _ k' es),some (.sc (.int _ z))=>if k'=k/\0<=z/\z.toNat<es.length then some []else none
 |_,_=>none
theorem Ux{x i:Nat}:aG ρ (.chk k x i)=Er k ρ[x]? ρ[i]?:=by rfl
theorem RW(h:0<=z)(h1:z<es.length):Er k (some (.sl t k es)) (some (.sc (.int kd z)))=some []:=by
 have:z.toNat<es.length:=by omega
 grind[Er]
theorem ja{α:Type}{e:α->List DV}{l:List α}(h:0<=z)(h1:z<l.length):Er k (some (.sl t k (l.map e))) (some (.sc (.int kd z)))=some []:=RW h (by grind)
def yk:Option DV->Option (Option Int)->Option (Option Int)->Option (List DV)
 |some (.sc (.string s)),some l,some h=>(match ne l h s.size with|some (a,b)=>some [.sc (.string (s.extract a b))]|none=>none)
 |_,_,_=>none
theorem RG{x:Nat}{lo hi:Option Nat}:aG ρ (.cutS x lo hi)=yk ρ[x]? (CR ρ lo) (CR ρ hi):=by rfl
theorem H8{s:ByteArray}{lo hi:Option Int}(h1:0<=lo.getD 0)(h2:lo.getD 0<=hi.getD s.size)(h3:hi.getD s.size<=s.size):yk (some (.sc (.string s))) (some lo) (some hi)=some [.sc (.string (s.extract (lo.getD 0).toNat (hi.getD s.size).toNat))]:=by
 grind[yk,ne]
def B4(k:Nat):Option DV->Option (Option Int)->Option (Option Int)->Option (List DV)
 |some (.sl t k' es),some l,some h=>if k'=k then(match ne l h es.length with|some (a,b)=>some [.sl t k ((es.drop a).take (b-a))]|none=>none)else none
 |_,_,_=>none
theorem PN{x:Nat}{lo hi:Option Nat}:aG ρ (.cutL k x lo hi)=B4 k ρ[x]? (CR ρ lo) (CR ρ hi):=by rfl
theorem SY{lo hi:Option Int}(h1:0<=lo.getD 0)(h2:lo.getD 0<=hi.getD es.length)(h3:hi.getD es.length<=es.length):B4 k (some (.sl t k es)) (some lo) (some hi)=some [.sl t k ((es.drop (lo.getD 0).toNat).take ((hi.getD es.length).toNat-(lo.getD 0).toNat))]:=by
 grind[B4,ne]
theorem tz{α:Type}{e:α->List DV}{l:List α}{lo hi:Option Int}(h1:0<=lo.getD 0)(h2:lo.getD 0<=hi.getD l.length)(h3:hi.getD l.length<=l.length):
 B4 k (some (.sl t k (l.map e))) (some lo) (some hi)=some [.sl t k (((l.drop (lo.getD 0).toNat).take ((hi.getD l.length).toNat-(lo.getD 0).toNat)).map e)]:=by
 rw[SY h1 (by grind) (by grind)];simp_all
section
variable {α:Type}{e:α->List DV}{l:List α}{a b:Int}{s:ByteArray}
theorem Y1(h1:0<=a)(h2:a<=b)(h3:b<=l.length):B4 k (some (.sl t k (l.map e))) (some (some a)) (some (some b))=some [.sl t k (((l.drop a.toNat).take (b.toNat-a.toNat)).map e)]:=tz h1 h2 h3
theorem XB(h1:0<=a)(h2:a<=l.length):B4 k (some (.sl t k (l.map e))) (some (some a)) (some none)=some [.sl t k ((l.drop a.toNat).map e)]:=by
 rw[tz (lo:=some a) (hi:=none) h1 h2 (by simp)]
 grind[Int.toNat_natCast,List.take_of_length_le]
theorem Xh(h1:0<=b)(h2:b<=l.length):B4 k (some (.sl t k (l.map e))) (some none) (some (some b))=some [.sl t k ((l.take b.toNat).map e)]:=by
 rw[tz (lo:=none) (hi:=some b) (by simp) h1 h2];simp
theorem TR(h1:0<=a)(h2:a<=b)(h3:b<=s.size):yk (some (.sc (.string s))) (some (some a)) (some (some b))=some [.sc (.string (s.extract a.toNat b.toNat))]:=H8 h1 h2 h3
theorem Wk(h1:0<=a)(h2:a<=s.size):yk (some (.sc (.string s))) (some (some a)) (some none)=some [.sc (.string (s.extract a.toNat s.size))]:=by
 rw[H8 (lo:=some a) (hi:=none) h1 h2 (by simp)];simp
theorem WU(h1:0<=b)(h2:b<=s.size):yk (some (.sc (.string s))) (some none) (some (some b))=some [.sc (.string (s.extract 0 b.toNat))]:=by
 rw[H8 (lo:=none) (hi:=some b) (by simp) h1 h2];simp
end
def Y8:Option DV->Option Int
 |some (.sc (.int _ z))=>some z
 |_=>none
theorem YS{i:Nat}:gI ρ i=Y8 ρ[i]?:=by rfl
theorem LX:Y8 (some (.sc (.int kd z)))=some z:=rfl
theorem Mn:CR ρ none=some none:=rfl
theorem N7{i:Nat}:CR ρ (some i)=(gI ρ i).map some:=rfl
def sN(el k b:Nat):Option DV->Option DV->Option (List DV)
 |some (.sl t1 k1 es),some (.sl _ k2 fs)=>if t1=el/\k1=k/\k2=k/\es.length+fs.length<=9223372036854775807/\(es.length+fs.length)*b<=140737488355328 then some [.sl el k (es++fs)]else none
 |_,_=>none
theorem Te{el b x y:Nat}:aG ρ (.app el k b x y)=sN el k b ρ[x]? ρ[y]?:=by rfl
theorem DC{el b:Nat}(h:es.length+fs.length<=1000000000000)(hb:b<=140):sN el k b (some (.sl el k es)) (some (.sl t k fs))=some [.sl el k (es++fs)]:=by
 have h1:(es.length+fs.length)*b<=1000000000000*140:=Nat.mul_le_mul h hb;have h2:(es.length+fs.length)*b<=140737488355328:=by omega
 have h3:es.length+fs.length<=9223372036854775807:=by omega
 grind[sN]
theorem ST{α:Type}{e:α->List DV}{l:List α}{el b:Nat}{x:List DV}(h:l.length<=100000000000)(hb:b<=140):sN el k b (some (.sl el k (l.map e))) (some (.sl t k [x]))=some [.sl el k (l.map e++[x])]:=DC (by grind) hb
theorem Va{α:Type}{e:α->List DV}{l m:List α}{el b:Nat}(h:l.length<=100000000000)(h':m.length<=100000000000)(hb:b<=140):sN el k b (some (.sl el k (l.map e))) (some (.sl t k (m.map e)))=some [.sl el k ((l++m).map e)]:=by
 rw[DC (by grind) hb,List.map_append]
theorem SZ{α:Type}{e:α->List DV}{m:List α}{el b:Nat}(h':m.length<=100000000000)(hb:b<=140):sN el k b (some (.sl el k [])) (some (.sl t k (m.map e)))=some [.sl el k (m.map e)]:=by
 rw[DC (by grind) hb];rfl
theorem Rm{el b:Nat}{x:List DV}(hb:b<=140):sN el k b (some (.sl el k [])) (some (.sl t k [x]))=some [.sl el k [x]]:=by
 rw[DC (by simp) hb];rfl
def Zc(el k:Nat):Option (List (List DV))->Option (List DV)
 |some es=>if es.all (λe=>e.length==k)then some [.sl el k es]else none
 |none=>none
theorem Xt{el:Nat}{rows:List (List Nat)}:aG ρ (.mk el k rows)=Zc el k (JR ρ rows):=by rfl
def BP(el k b:Nat)(zz:List DV):Option DV->Option (List DV)
 |some (.sc (.int .i64 n))=>if 0<=n/\b*n.toNat<=281474976710656/\n.toNat<=9223372036854775807 then some [.sl el k (List.replicate n.toNat zz)]else none
 |_=>none
theorem Q5{el b n:Nat}{zz:List DV}:aG ρ (.make el k b zz n)=BP el k b zz ρ[n]?:=by rfl
theorem OV{el b:Nat}{zz:List DV}(h0:0<=z)(h1:z<=1000000000000)(hb:b<=140):BP el k b zz (some (.sc (.int .i64 z)))=some [.sl el k (List.replicate z.toNat zz)]:=by
 have h2:b*z.toNat<=140*1000000000000:=Nat.mul_le_mul hb (by omega);have h3:b*z.toNat<=281474976710656:=by omega
 have h4:z.toNat<=9223372036854775807:=by omega
 grind[BP]
def Ac(k off:Nat):Option DV->Option DV->Option (List DV)->Option (List DV)
 |some (.sl t k' es),some (.sc (.int _ z)),some ds=>if k'=k/\0<=z/\off+ds.length<=k then(match es[z.toNat]? with|some e=>some [.sl t k (es.set z.toNat (plug off ds e))]|none=>none)else none
 |_,_,_=>none
theorem T2{x j off:Nat}{vs:List Nat}:aG ρ (.set k x j off vs)=Ac k off ρ[x]? ρ[j]? (gL ρ vs):=by rfl
theorem SA{off:Nat}{ds e:List DV}(h0:0<=z)(hl:off+ds.length<=k)(he:es[z.toNat]? =some e):Ac k off (some (.sl t k es)) (some (.sc (.int kd z))) (some ds)=some [.sl t k (es.set z.toNat (plug off ds e))]:=by
 grind[Ac]
theorem l9{α:Type}{e:α->List DV}{l:List α}{ds:List DV}(hk:∀x,(e x).length=k)(h0:0<=z)(h1:z<l.length)(hl:ds.length=k):
 Ac k 0 (some (.sl t k (l.map e))) (some (.sc (.int kd z))) (some ds)=some [.sl t k ((l.map e).set z.toNat ds)]:=by
 have hz:z.toNat<l.length:=by omega
 rw[SA h0 (by omega) (e:=e l[z.toNat]) (by rw[List.getElem?_map,List.getElem?_eq_getElem hz];rfl)]
 have:plug 0 ds (e l[z.toNat])=ds:=by
  simp_all[plug,List.take_zero,List.nil_append,Nat.zero_add,List.drop_of_length_le,Nat.le_refl,List.append_nil]
 rw[this]
def WA(mx:Bool):Option DV->Option DV->Option (List DV)
 |some (.sc (.int k a)),some (.sc (.int k' b))=>if k=k' then some [.sc (.int k (U7 mx a b))]else none
 |_,_=>none
theorem WD{mx:Bool}{x y:Nat}:aG ρ (.mm mx x y)=WA mx ρ[x]? ρ[y]?:=by rfl
theorem V8{a b:Int}:WA true (some (.sc (.int kd a))) (some (.sc (.int kd b)))=some [.sc (.int kd (max a b))]:=by simp[WA,U7]
theorem XH{a b:Int}:WA false (some (.sc (.int kd a))) (some (.sc (.int kd b)))=some [.sc (.int kd (min a b))]:=by simp[WA,U7]
def KA(neg:Bool)(ks:List Kd):Option (List DV)->Option (List DV)->Option (List DV)
 |some ds,some es=>(match EZ ks ds es with|some b=>some [.sc (.bool (if neg then !b else b))]|none=>none)
 |_,_=>none
theorem UQ{neg:Bool}{ks:List Kd}{xs ys:List Nat}:aG ρ (.eqS neg ks xs ys)=KA neg ks (gL ρ xs) (gL ρ ys):=by rfl
theorem Xr{ks:List Kd}{ds es:List DV}{b:Bool}(h:EZ ks ds es=some b):KA false ks (some ds) (some es)=some [.sc (.bool b)]:=by simp[KA,h]
def Aw:Option DV->Option (Option Int)->Option (Option Int)->Option (List DV)
 |some (.sl _ _ es),some l,some h=>(match ne l h es.length with|some (a,b)=>some [.sc (.int .i64 a),.sc (.int .i64 ((b-a:Nat):Int))]|none=>none)
 |_,_,_=>none
theorem Pb{x:Nat}{lo hi:Option Nat}:aG ρ (.cutI x lo hi)=Aw ρ[x]? (CR ρ lo) (CR ρ hi):=by rfl
theorem Y0{a b:Int}(h1:0<=a)(h2:a<=b)(h3:b<=es.length):Aw (some (.sl t k es)) (some (some a)) (some (some b))=some [.sc (.int .i64 a),.sc (.int .i64 (b-a))]:=by
 simp only[Aw,ne,Option.getD_some];rw[if_pos ⟨h1,h2,h3⟩]
 grind
theorem Wb{a:Int}(h1:0<=a)(h2:a<=es.length):Aw (some (.sl t k es)) (some (some a)) (some none)=some [.sc (.int .i64 a),.sc (.int .i64 (es.length-a))]:=by
 simp only[Aw,ne,Option.getD_some,Option.getD_none];rw[if_pos ⟨h1,h2,Int.le_refl _⟩]
 grind
theorem Wx{b:Int}(h1:0<=b)(h2:b<=es.length):Aw (some (.sl t k es)) (some none) (some (some b))=some [.sc (.int .i64 0),.sc (.int .i64 b)]:=by
 simp only[Aw,ne,Option.getD_some,Option.getD_none];rw[if_pos ⟨Int.le_refl _,h1,h2⟩]
 grind
def SL:Option DV->Option DV->Option DV->Option (List DV)
 |some (.sc (.int .i64 u)),some (.sc (.int .i64 v)),some (.sc (.int _ j))=>if 0<=u/\0<=j/\j<v then some [.sc (.int .i64 (u+j))]else none
 |_,_,_=>none
theorem Ve{x y i:Nat}:aG ρ (.atJ x y i)=SL ρ[x]? ρ[y]? ρ[i]?:=by rfl
theorem Xp{u v j:Int}(h1:0<=u)(h2:0<=j)(h3:j<v):SL (some (.sc (.int .i64 u))) (some (.sc (.int .i64 v))) (some (.sc (.int kd j)))=some [.sc (.int .i64 (u+j))]:=by grind[SL]
def GW:Option DV->Option DV->Option DV->Option (List DV)
 |some (.sl t k es),some (.sc (.int .i64 u)),some (.sc (.int .i64 v))=>some [.sl t k ((es.drop u.toNat).take v.toNat)]
 |_,_,_=>none
theorem Ma{x y i:Nat}:aG ρ (.viewD x y i)=GW ρ[x]? ρ[y]? ρ[i]?:=by rfl
theorem Qj{u v:Int}:GW (some (.sl t k es)) (some (.sc (.int .i64 u))) (some (.sc (.int .i64 v)))=some [.sl t k ((es.drop u.toNat).take v.toNat)]:=rfl
theorem Pm{α:Type}{e:α->List DV}{l:List α}{u v:Int}:GW (some (.sl t k (l.map e))) (some (.sc (.int .i64 u))) (some (.sc (.int .i64 v)))=some [.sl t k (((l.drop u.toNat).take v.toNat).map e)]:=by
 rw[Qj,List.map_take,List.map_drop]
def MK:Option DV->Option DV->Option DV->Option (List DV)
 |some (.sl t k es),some (.sc (.int .i64 u)),some (.sc (.int .i64 v))=>if u=0/\v.toNat<=es.length then some [.sl t k (es.take v.toNat)]else none
 |_,_,_=>none
theorem PZ{x y i:Nat}:aG ρ (.cutP x y i)=MK ρ[x]? ρ[y]? ρ[i]?:=by rfl
theorem Uy{α:Type}{e:α->List DV}{l:List α}{v:Int}(h:v<=l.length):MK (some (.sl t k (l.map e))) (some (.sc (.int .i64 0))) (some (.sc (.int .i64 v)))=some [.sl t k ((l.take v.toNat).map e)]:=by
 have:v.toNat<=(l.map e).length:=by rw[List.length_map];omega
 simp_all[MK,true_and,if_true,List.map_take]
def OG:Option DV->Option (List DV)
 |some (.sl _ _ es)=>some [.sc (.bool es.isEmpty)]
 |_=>none
theorem UX{x:Nat}:aG ρ (.emp x)=OG ρ[x]?:=by rfl
theorem Wp{α:Type}{e:α->List DV}{l:List α}:OG (some (.sl t k (l.map e)))=some [.sc (.bool l.isEmpty)]:=by simp[OG]
def Yy(n:Nat):Option DV->Option (List DV)
 |some (.sl _ 0 [[x],cs])=>if cs.length+1=n then some (x::cs)else none
 |_=>none
theorem U4{z n:Nat}:aG ρ (.unc z n)=Yy n ρ[z]?:=by rfl
def YX(off:Nat):Option DV->Option DV->Option (List DV)
 |some (.sl t 0 [[x],cs]),some (.sc u)=>if uk u=true/\0<off/\off-1<cs.length then some [.sl t 0 [[x],cs.set (off-1) (.sc u)]]else none
 |_,_=>none
theorem TN{z off v:Nat}:aG ρ (.cuS z off v)=YX off ρ[z]? ρ[v]?:=by rfl
def S7(k:Nat):Option DV->Option DV->Option DV->Option DV->Option DV->Option (List DV)
 |some (.sl t k' es),some (.sc (.int .i64 a)),some (.sc (.int .i64 m)),some (.sc (.int .i64 b)),some (.sc (.int .i64 m'))=>
  if k'=k/\es.flatten.all im=true then some [.sl t k (mY es a.toNat m.toNat b.toNat m'.toNat),.sc (.int .i64 ((min m'.toNat m.toNat:Nat):Int))]else none
 |_,_,_,_,_=>none
theorem Uv{k x lo n lo' n':Nat}:aG ρ (.cpy k x lo n lo' n')=S7 k ρ[x]? ρ[lo]? ρ[n]? ρ[lo']? ρ[n']?:=by rfl
theorem Mq{α β:Type}(e:α->β)(l:List α)(a m b m':Nat):(mY l a m b m').map e=mY (l.map e) a m b m':=by simp[mY,plug,List.map_take,List.map_drop]
theorem Xo{α:Type}{e:α->List DV}{l:List α}{a m b m':Int}(hf:(l.map e).flatten.all im=true):S7 k (some (.sl t k (l.map e))) (some (.sc (.int .i64 a))) (some (.sc (.int .i64 m))) (some (.sc (.int .i64 b))) (some (.sc (.int .i64 m')))=some [.sl t k ((mY l a.toNat m.toNat b.toNat m'.toNat).map e),.sc (.int .i64 ((min m'.toNat m.toNat:Nat):Int))]:=by
 rw[Mq];grind[S7]
theorem LD{α:Type}(l:List α)(x:α){at_:Nat}(h:at_<=l.length):(mY (l++[x]) (at_+1) (l.length-at_) at_ (l.length+1-at_))=l.take at_++((l++[x]).getD at_ x::l.drop at_):=by
 unfold mY plug;have e1:min (l.length+1-at_) (l.length-at_)=l.length-at_:=by omega
 rw[e1]
 have e2:((l++[x]).drop at_).take (l.length-at_)=l.drop at_:=by
  rw[List.drop_append_of_le_length h,List.take_append_of_le_length (by rw[List.length_drop];omega),List.take_of_length_le (by rw[List.length_drop];omega)]
 rw[e2];have e3:(l++[x]).drop (at_+1+(l.drop at_).length)=[]:=List.drop_eq_nil_of_le (by rw[List.length_append,List.length_drop,List.length_singleton];omega);rw[e3,List.append_nil]
 have e4:(l++[x]).take (at_+1)=l.take at_++[(l++[x]).getD at_ x]:=by
  rw[List.take_add_one,List.take_append_of_le_length h,List.getD_eq_getElem?_getD,List.getElem?_eq_getElem (by rw[List.length_append,List.length_singleton];omega)];rfl
 rw[e4,List.append_assoc];rfl
theorem uv{n:Nat}:(n:Int)+1=((n+1:Nat):Int):=rfl
end
theorem ax:(∀(α:Type) (l:List α) (n:Nat),(l.take n).length=min n l.length)/\(∀(α:Type) (l:List α) (n:Nat),(l.drop n).length=l.length-n)/\(∀(α:Type) (l m:List α),(l++m).length=l.length+m.length)/\
 (∀(α β:Type) (f:α->β) (x:α) (l:List α),(x::l).map f=f x::l.map f)/\(∀(α β:Type) (f:α->β),([]:List α).map f=[])/\(∀(α β:Type) (f:α->β) (l:List α),(l.map f).length=l.length)/\
 (∀(α:Type) (x:α) (l:List α),(x::l).length=l.length+1)/\(∀α:Type,([]:List α).length=0)/\(∀(α:Type) (l:List α) (n:Nat) (x:α),(l.set n x).length=l.length)/\(∀(α:Type) (n:Nat) (x:α),(List.replicate n x).length=n):=
 ⟨λ_ _ _=>List.length_take,λ_ _ _=>List.length_drop,λ_ _ _=>List.length_append,λ_ _ _ _ _=>rfl,λ_ _ _=>rfl,λ_ _ _ _=>List.length_map _,λ_ _ _=>rfl,λ_=>rfl,λ_ _ _ _=>List.length_set,λ_ _ _=>List.length_replicate⟩
theorem av:(∀(α:Type) (x:α) (l:List α),(x::l).length=l.length+1)/\(∀α:Type,([]:List α).length=0)/\(∀n:Nat,0+n=n):=⟨λ_ _ _=>rfl,λ_=>rfl,Nat.zero_add⟩
attribute[go_sem] Wt Qn YQ Yt WZ D2 BM Um Ry XO P8 RS QM Ys Yk TW
attribute[go_sem] VX Xq Xs Xy WE V3 WX XE WG V4 Wz W4 WS WF XP Xw
attribute[go_sem] XD VY zE SK Ws XL Xf Xl Wu WW WV Uk Po Uq Ql Tf Ww
attribute[go_sem] Vr Xg Ug Qk Ut P4 UI UG Tp Vs Ux ja RG TR Wk WU
attribute[go_sem] PN Y1 XB Xh YS LX Mn N7 Te ST Va SZ Rm Xt Zc Q5
attribute[go_sem] Pb Y0 Wb Wx Ve Xp Ma Pm PZ Uy UX Wp U4 TN Uv
attribute[go_sem] OV T2 UQ WD V8 XH yl Xn Xc mE fu bW gL JR ca List.getElem?_cons_zero
attribute[go_sem] List.getElem?_cons_succ List.getElem?_nil List.map_cons List.map_nil List.length_map List.length_cons List.length_nil List.nil_append List.cons_append Option.map_some Option.getD_some Option.getD_none Int.toNat_natCast Int.natCast_zero if_true Bool.not_true
attribute[go_sem] Bool.not_false not_false_eq_true not_true_eq_false true_implies false_implies implies_true and_true true_and Nat.add_sub_cancel_left decide_true decide_false List.all_cons List.all_nil Bool.and_true beq_self_eq_true Bool.and_self
attribute[go_sem] uv
attribute[go_sem_proc] Nat.reduceAdd Int.reduceNeg Int.reduceAdd Int.reduceSub Int.reduceMul Int.reduceLT Int.reduceLE Int.reduceEq Int.reduceToNat Nat.reduceBEq
attribute[go_sem_proc ↓] reduceIte
end Go.Proofs.YtliknccmjjncbaaGreat
namespace Go.Proofs.YtliknccmjjncbaaGreat
open Go.RowKit
set_option maxRecDepth 100000
def bO:iI:=⟨λg=>!([6]:List FuncId).contains g,false,[],[],[],[],[(26,1),(38,1),(76,1),(78,1),(97,1),(111,1)],[]⟩
def Zs:iI:=⟨λg=>!([6]:List FuncId).contains g,true,[12,13,43,44,45,46],[],[],[],[(26,1),(38,1),(76,1),(78,1),(97,1),(111,1)],[]⟩
def jU:List aQ:=[]
def jD:List (Nat×Nat×Bool×List Nat):=[(31,9,false,[7]),(16,5,false,[]),(14,5,false,[]),(8,9,true,[7])]
def bL:UP:=.f<|.i 1048576<|.cl 4 [(true,[13,12,11,10]),(false,[0])] au<|.i 0<|.b .lss 1 0<|.ite 0 (.t<|.c 0<|.r 0)<|.sel [2,5,6,7,8,9,10,11,12,13,14,15,16]<|.cl 5 [(true,[8,7,6,5,4,3,2,1]),(false,[0])] au<|.i 0<|.b .lss 1 0<|.ite 0 (.t<|.c 0<|.r 0)<|.sel [4,5,6,7,8,9,10,11,12,13,14,15]<|.cl 7 [(true,[11,10,9,8])] Je<|.cl 8 [(true,[11,10,9,8,7,6,5,4])] cB<|.cl 6 [(true,[11,10,9,8]),(true,[7,6,5,4,3,2,1,0])] [(true,[none,some (78,3),some (35,8),some (9,1),some (9,1),some (9,1),none,none],false),(false,[none],false)]<|.i 0<|.i 0<|.i 0<|.sel [3,4,5,6,7,8,9,10,11,24,25,26,27,28,29,30,31,32,33,34,35]<|.cl 7 [(true,[20,19,18,17])] Je<|.s #[]<|.f<|.cl 8 [(true,[22,21,20,19,18,17,16,15])] cB<|.i 0<|.i 0<|.i 0<|.sel [3,4,5,6,7,8,9,10,13,14,15,16,17,18,19,20,21,22,23,24,25,26,27,28,29,30,31,32,33,34,35,36,37]<|.cl 9 [(true,[11,10,9,8]),(true,[7,6,5,4,3,2,1,0])] dF<|.i 0<|.i 0<|.i 0<|.cl 10 [(true,[11,10,9,8,7,6,5,4]),(true,[32,31,30,29,28,27,26,25])] au<|.n 0<|.ite 0 (.t<|.f<|.c 0<|.r 0)<|.b .neq 5 26<|.ite 0 (.f<|.c 0<|.r 0)<|.c 26<|.c 25<|.sel [6,7,8,9,10,11,12,13,14,15,16,17,18,19,20,21,22,23,24,25,26,27,28,29,30,31,32,33,34,35,36,37,38,39,40,41,42,43,44,45,46,47]<|.cl 7 [(true,[41,40,39,38])] Je<|.cl 11 [(true,[24,23,22,21]),(true,[3,2,1,0])] au<|.n 0<|.c 0<|.ite 0 (.f<|.c 0<|.r 0)<|.c 22<|.c 16<|.c 15<|.sel [6,7,8,9,10,11,12,13,14,15,16,17,18,19,20,21,22,23,24,25,26,27,28,29,30,31,32,33,34,35,36,37,38,39,40,41,42,43,44,45,46,47]<|.cl 8 [(true,[37,36,35,34,33,32,31,30])] cB<|.cl 10 [(true,[24,23,22,21,20,19,18,17]),(true,[7,6,5,4,3,2,1,0])] au<|.n 0<|.c 0<|.ite 0 (.f<|.c 0<|.r 0)<|.i 1<|.c 31<|.c 30<|.sel [0,11,12,13,14,15,16,17,18,19,20,21,22,23,24,25,26,27,28,29,30,31,32,33,34,35,36,37,38,39,40,41,42,43,44,45,46,47,48,49,50,51,52]<|.mk 12 true [(21,0),(20,0),(19,2),(18,2)] 0<|.c 22<|.c 16<|.c 15<|.sel [0,6,7,8,9,10,11,12,13,14,15,16,17,18,19,20,21,22,27,28,29,30,31,32,33,34,35,36,37,38,39,40,41,42,43,44,45,46,47]<|.mk 13 true [(17,0),(16,2),(15,2),(14,2),(13,2),(12,2),(11,0),(10,0)] 0<|.i 0<|.b .lss 1 0<|.ite 0 (.t<|.t<|.f<|.c 0<|.r 0)<|.sel [12,13,14,15,16,17,18,19,20,29,30,31,32,33,34,35,36,37,38,39,40,41,42,43,44,45,46,47,48,49]<|.cl 10 [(true,[8,7,6,5,4,3,2,1]),(true,[17,16,15,14,13,12,11,10])] au<|.n 0<|.ite 0 (.t<|.f<|.c 0<|.r 0)<|.b .neq 2 11<|.ite 0 (.f<|.c 0<|.r 0)<|.i 1<|.c 12<|.c 6<|.c 5<|.sel [0,5,6,7,8,9,10,11,12,13,14,15,16,17,18,19,20,21,22,23,24,25,26,27,28,29,30,31,32,33]<|.mk 13 true [(8,0),(7,2),(6,2),(5,2),(4,2),(3,2),(2,0),(1,0)] 0<|.i 1<|.sel [0,1,4,5,6,7,8,11,12,18,19,20,21,22,23,24,25,26,27,28,29,30,31,32,33,34,35,36,37,38,39]<|.cl 14 [(true,[9,6,5,4,3,2,8,7]),(false,[0])] au<|.i 0<|.b .lss 1 0<|.ite 0 (.f<|.c 0<|.r 0)<|.b .neq 2 4<|.ite 0 (.f<|.c 0<|.r 0)<|.sel [5,6,7,8,9,10,11,12,13,14,15,16,17,18,19,20,21,22,23,24,25,26,27,28,29,30,31,32,33,34]<|.cl 7 [(true,[29,28,27,26])] Je<|.sel [0,1,2,3,4,5,6,7,8,9,10,11,12,13,14,15,16,17,18,19,20,21,22,23,24,25,26,27,28,29]<|.cl 8 [(true,[29,28,27,26,25,24,23,22])] cB<|.sel [0,1,2,3,4,5,6,7,8,9,10,11,12,13,14,15,16,17,18,19,20,21,22,23,24,25,26,27,28,29]<|.cl 9 [(true,[11,10,9,8]),(true,[7,6,5,4,3,2,1,0])] dF<|.i 0<|.i 0<|.i 0<|.sel [3,4,5,6,7,8,9,10,11,24,25,26,27,28,29,30,31,32,33,34,35,36,37,38,39,40,41]<|.cl 10 [(true,[8,7,6,5,4,3,2,1]),(true,[26,25,24,23,22,21,20,19])] au<|.n 0<|.ite 0 (.t<|.f<|.c 0<|.r 0)<|.b .neq 2 20<|.ite 0 (.f<|.c 0<|.r 0)<|.i 1<|.sel [0,13,14,15,16,17,18,19,20,21]<|.cl 14 [(true,[9,6,5,4,3,2,8,7]),(false,[0])] au<|.i 0<|.b .lss 1 0<|.ite 0 (.f<|.c 0<|.r 0)<|.b .neq 2 4<|.ite 0 (.f<|.c 0<|.r 0)<|.t<|.c 0<|.r 0
theorem cw:aM Tryz.prog 3 Tryz.f3 Zs jU jD=some ([(true,4),(true,8)],bL):=by kernel_rfl
def rg:List aQ:=[⟨1000018,9,⟨[aa 13 89,aa 74 88,aC 12 16 16 0,aa 65 75,aa 11 72,aC 9 15 15 0,aa 53 58,aa 39 37,bF 8 9 9,aa 32 33,aa 7 28,aC 6 8 8 0,aa 18 17,aa 5 15,aC 4 2 2 0,aC 3 1 1 0,aC 2 0 0 0,(0,.p true [.d 0,.d 1,.d 2,.d 3]),(1,.p true [.d 4,.d 5,.d 6,.d 7,.d 8,.d 9,.d 10,.d 11])],[(0,.var 0 38 [.d 0,.d 1,.d 2,.d 3]),(1,.var 1 35 [.d 4,.d 5,.d 6,.d 7,.d 8,.d 9,.d 10,.d 11]),(2,.var 2 35 [.d 12,.nil,.nil,.nil,.nil,.nil,.d 13,.d 14]),(8,.var 8 35 [.d 20,.own 3 3,.own 4 4,.own 5 5,.own 6 6,.own 7 7,.d 26,.d 27]),(7,.row 7 9 1 25),(6,.row 6 9 1 24),(5,.row 5 9 1 23),(4,.row 4 35 8 22),(3,.row 3 78 3 21),(9,.row 9 3 1 34),(15,.var 15 35 [.d 59,.own 10 10,.own 11 11,.own 12 12,.own 13 13,.own 14 14,.d 65,.d 66]),(14,.row 14 9 1 64),(13,.row 13 9 1 63),(12,.row 12 9 1 62),(11,.shr 11 35 8 73),(10,.row 10 78 3 60),(16,.var 16 35 [.d 90,.d 91,.d 92,.d 93,.d 94,.d 95,.d 96,.d 97])],17,17,98,[(75,true),(58,false),(48,false),(37,false),(33,false),(17,false)]⟩,[⟨false,16,501,0,0⟩,⟨false,16,502,0,0⟩,⟨false,16,503,0,0⟩,⟨false,16,504,0,0⟩,⟨false,16,505,0,0⟩]⟩,⟨3000013,2,⟨[aa 11 72,aC 9 15 15 0,aa 53 58,aa 39 37,bF 8 9 9,aa 32 33,aa 7 28,aC 6 8 8 0,aa 18 17,aa 5 15,aC 4 2 2 0,aC 3 1 1 0,aC 2 0 0 0,(0,.p true [.d 0,.d 1,.d 2,.d 3]),(1,.p true [.d 4,.d 5,.d 6,.d 7,.d 8,.d 9,.d 10,.d 11])],[(0,.var 0 38 [.d 0,.d 1,.d 2,.d 3]),(1,.var 1 35 [.d 4,.d 5,.d 6,.d 7,.d 8,.d 9,.d 10,.d 11]),(2,.var 2 35 [.d 12,.nil,.nil,.nil,.nil,.nil,.d 13,.d 14]),(8,.var 8 35 [.d 20,.own 3 3,.own 4 4,.own 5 5,.own 6 6,.own 7 7,.d 26,.d 27]),(7,.row 7 9 1 25),(6,.row 6 9 1 24),(5,.row 5 9 1 23),(4,.row 4 35 8 22),(3,.row 3 78 3 21),(9,.row 9 3 1 34),(15,.var 15 35 [.d 59,.own 10 10,.own 11 11,.own 12 12,.own 13 13,.own 14 14,.d 65,.d 66]),(14,.row 14 9 1 64),(13,.row 13 9 1 63),(12,.row 12 9 1 62),(11,.shr 11 35 8 73),(10,.row 10 78 3 60)],16,16,74,[(58,false),(48,false),(37,false),(33,false),(17,false)]⟩,[⟨false,15,752,0,0⟩]⟩]
def qN:List (Nat×Nat×Bool×List Nat):=[(3,12,false,[10])]
def bE:UP:=.s #[]<|.b .neq 9 0<|.ite 0 (.i 0<|.i 0<|.i 0<|.po (.e 78 3)<|.po (.e 35 8)<|.po (.e 9 1)<|.po (.e 9 1)<|.po (.e 9 1)<|.ret [(true,[7,4,3,2,1,0,6,5]),(false,[18])])<|.z 22<|.po (.chk 8 21 22)<|.po (.set 8 21 22 0 [9,8,7,6,5,4,3,2])<|.i 1<|.a 24 0<|.jump 0 [0,2]
def gu:UP:=.l 0<|.b .lss 2 0<|.ite 0 (.z 3<|.po (.chk 8 2 3)<|.x 8 2 3<|.i 0<|.i 0<|.i 0<|.s #[]<|.sel [0,4,5,6,7,8,9,10,11,14,15]<|.cl 22 [(true,[8,7,6,5,4,3,2,1])] au<|.join 9 bE<|.ite 0 (.sel [2,3,4,5,6,7,8,9]<|.cl 24 [(true,[7,6,5,4,3,2,1,0])] dF<|.jump 1 [0,8,7,6,5,4,3,2,1])<|.i 3<|.e 10 0<|.ite 0 (.sel [4,5,6,7,8,9,10,11]<|.cl 25 [(true,[7,6,5,4,3,2,1,0])] dF<|.jump 1 [0,8,7,6,5,4,3,2,1])<|.jump 1 [3,11,10,9,8,7,6,5,4])<|.sel [2,5,6,7,8,9,11,12]<|.cl 26 [(true,[7,6,0,5,4,3,2,1])] [(true,[none,some (78,3),some (35,8),some (9,1),some (9,1),some (9,1),none,none],false),(false,[none],false)]<|.i 0<|.i 0<|.i 0<|.ret [(true,[11,10,9,8,7,6,5,4]),(false,[3])]
def bN:UP:=.i 0<|.i 0<|.i 0<|.s #[]<|.sel [4,5,6,7,8,9,10,11,12,13,14,15]<|.cl 19 [(true,[11,10,9,8])] au<|.n 0<|.ite 0 (.i 0<|.i 0<|.i 0<|.s #[105,110,118,97,108,105,100,32,102,111,114,109,117,108,97]<|.po (.e 78 3)<|.po (.e 35 8)<|.po (.e 9 1)<|.po (.e 9 1)<|.po (.e 9 1)<|.ret [(true,[8,4,3,2,1,0,7,6]),(false,[5])])<|.c 13<|.po (.mk 9 1 [[13]])<|.po (.app 9 1 16 0 12)<|.sel [0,4,5,6,7,8,9,10,11]<|.cl 20 [(true,[8,7,6,5,4,3,2,1]),(false,[0])] dF<|.i 0<|.i 0<|.i 0<|.s #[]<|.b .neq 4 0<|.ite 0 (.i 0<|.i 0<|.i 0<|.po (.e 78 3)<|.po (.e 35 8)<|.po (.e 9 1)<|.po (.e 9 1)<|.po (.e 9 1)<|.ret [(true,[7,4,3,2,1,0,6,5]),(false,[13])])<|.sel [6,7,8,9,10,11,12,13]<|.cl 21 [(true,[7,6,5,4,3,2,1,0])] Fm<|.l 0<|.i 0<|.e 1 0<|.ite 0 (.i 0<|.i 0<|.i 0<|.s #[110,111,32,99,111,109,112,108,101,116,101,32,114,111,119,115]<|.po (.e 78 3)<|.po (.e 35 8)<|.po (.e 9 1)<|.po (.e 9 1)<|.po (.e 9 1)<|.ret [(true,[8,4,3,2,1,0,7,6]),(false,[5])])<|.i 0<|.z 0<|.po (.chk 8 10 0)<|.x 8 10 0<|.i 3<|.e 8 0<|.ite 0 (.t<|.i 0<|.i 0<|.i 0<|.s #[114,101,115,112,111,110,115,101,32,105,115,32,110,111,116,32,110,117,109,101,114,105,99]<|.po (.e 78 3)<|.po (.e 35 8)<|.po (.e 9 1)<|.po (.e 9 1)<|.po (.e 9 1)<|.ret [(true,[8,4,3,2,1,0,7,6]),(false,[5])])<|.i 0<|.z 0<|.po (.chk 8 21 0)<|.x 8 21 0<|.sel [0,1,2,3,4,5,6,7,23,24,25,26,27,28,29,30,31]<|.cl 22 [(true,[7,6,5,4,3,2,1,0])] au<|.ite 0 (.i 0<|.i 0<|.i 0<|.s #[114,101,115,112,111,110,115,101,32,105,115,32,110,111,116,32,110,117,109,101,114,105,99]<|.po (.e 78 3)<|.po (.e 35 8)<|.po (.e 9 1)<|.po (.e 9 1)<|.po (.e 9 1)<|.ret [(true,[8,4,3,2,1,0,7,6]),(false,[5])])<|.sel [9,10,11,12,13,14,15,16,17]<|.cl 23 [(true,[8,7,6,5,4,3,2,1]),(false,[0])] dF<|.i 0<|.i 0<|.i 0<|.i 1<|.sel [0,5,6,7,8,9,10,11,12]<|.loop [0,6] gu
theorem bZ:ED Tryz.prog 6 Tryz.f6 bO rg qN=some ([(true,4),(true,8)],bN):=by kernel_rfl
def xq:List aQ:=[]
def xU:List (Nat×Nat×Bool×List Nat):=[]
def fP:UP:=.i 0<|.i 0<|.i 0<|.s #[]<|.sel [4,5,6,7,8,9,10,11]<|.cl 59 [(true,[7,6,5,4,3,2,1,0])] au<|.n 0<|.ite 0 (.i 0<|.i 0<|.i 0<|.s #[114,101,115,117,108,116,32,105,115,32,116,111,111,32,108,97,114,103,101]<|.po (.e 78 3)<|.po (.e 35 8)<|.po (.e 9 1)<|.po (.e 9 1)<|.po (.e 9 1)<|.ret [(true,[8,4,3,2,1,0,7,6]),(false,[5])])<|.s #[]<|.ret [(true,[10,9,8,7,6,5,4,3]),(false,[0])]
theorem lX:ED Tryz.prog 26 Tryz.f26 bO xq xU=some ([(true,8)],fP):=by kernel_rfl
def qy:List aQ:=[⟨1000019,9,⟨[aa 14 89,aa 71 88,aC 13 13 13 0,aa 11 62,aC 12 12 12 0,aa 59 64,bF 10 11 11,aa 58 62,aa 57 59,bF 56 5 5,aa 53 58,aa 39 37,bF 9 10 10,aa 32 33,aa 8 28,aC 7 9 9 0,bF 6 3 3,aa 17 17,aa 5 15,aC 4 2 2 0,aC 3 1 1 0,aC 2 0 0 0,(0,.p true [.d 0,.d 1,.d 2,.d 3]),(1,.p true [.d 4,.d 5,.d 6,.d 7,.d 8,.d 9,.d 10,.d 11])],[(0,.var 0 38 [.d 0,.d 1,.d 2,.d 3]),(1,.var 1 35 [.d 4,.d 5,.d 6,.d 7,.d 8,.d 9,.d 10,.d 11]),(2,.var 2 35 [.d 12,.nil,.nil,.nil,.nil,.nil,.d 13,.d 14]),(3,.row 3 9 1 19),(9,.var 9 35 [.d 20,.own 4 4,.own 5 5,.own 6 6,.own 7 7,.own 8 8,.d 26,.d 27]),(8,.row 8 9 1 25),(7,.row 7 9 1 24),(6,.row 6 9 1 23),(5,.row 5 35 8 22),(4,.row 4 78 3 21),(10,.row 10 3 1 34),(11,.row 11 35 8 63),(12,.var 12 35 [.d 65,.d 66,.d 67,.d 68,.d 69,.d 70,.d 71,.d 72]),(13,.var 13 35 [.d 90,.own 14 14,.own 15 15,.own 16 16,.own 17 17,.own 18 18,.d 91,.d 92]),(18,.row 18 9 1 93),(17,.row 17 9 1 94),(16,.row 16 9 1 95),(15,.row 15 35 8 96),(14,.row 14 78 3 97)],19,19,98,[(64,true),(58,false),(48,false),(37,false),(33,false),(17,false)]⟩,[]⟩,⟨18,1,⟨[aa 71 88,aa 14 87,aC 13 18 18 0,aa 11 62,aC 12 12 12 0,aa 59 64,bF 10 11 11,aa 58 62,aa 57 59,bF 56 5 5,aa 53 58,aa 39 37,bF 9 10 10,aa 32 33,aa 8 28,aC 7 9 9 0,bF 6 3 3,aa 17 17,aa 5 15,aC 4 2 2 0,aC 3 1 1 0,aC 2 0 0 0,(0,.p true [.d 0,.d 1,.d 2,.d 3]),(1,.p true [.d 4,.d 5,.d 6,.d 7,.d 8,.d 9,.d 10,.d 11])],[(0,.var 0 38 [.d 0,.d 1,.d 2,.d 3]),(1,.var 1 35 [.d 4,.d 5,.d 6,.d 7,.d 8,.d 9,.d 10,.d 11]),(2,.var 2 35 [.d 12,.nil,.nil,.nil,.nil,.nil,.d 13,.d 14]),(3,.row 3 9 1 19),(9,.var 9 35 [.d 20,.own 4 4,.own 5 5,.own 6 6,.own 7 7,.own 8 8,.d 26,.d 27]),(8,.row 8 9 1 25),(7,.row 7 9 1 24),(6,.row 6 9 1 23),(5,.row 5 35 8 22),(4,.row 4 78 3 21),(10,.row 10 3 1 34),(11,.row 11 35 8 63),(12,.var 12 35 [.d 65,.d 66,.d 67,.d 68,.d 69,.d 70,.d 71,.d 72]),(18,.var 18 35 [.d 76,.own 13 13,.own 14 14,.own 15 15,.own 16 16,.own 17 17,.d 82,.d 83]),(17,.row 17 9 1 81),(16,.row 16 9 1 80),(15,.row 15 9 1 79),(14,.row 14 35 8 78),(13,.row 13 78 3 77)],19,19,89,[(64,true),(58,false),(48,false),(37,false),(33,false),(17,false)]⟩,[]⟩,⟨3000014,2,⟨[bF 10 11 11,aa 58 62,aa 57 59,bF 56 5 5,aa 53 58,aa 39 37,bF 9 10 10,aa 32 33,aa 8 28,aC 7 9 9 0,bF 6 3 3,aa 17 17,aa 5 15,aC 4 2 2 0,aC 3 1 1 0,aC 2 0 0 0,(0,.p true [.d 0,.d 1,.d 2,.d 3]),(1,.p true [.d 4,.d 5,.d 6,.d 7,.d 8,.d 9,.d 10,.d 11])],[(0,.var 0 38 [.d 0,.d 1,.d 2,.d 3]),(1,.var 1 35 [.d 4,.d 5,.d 6,.d 7,.d 8,.d 9,.d 10,.d 11]),(2,.var 2 35 [.d 12,.nil,.nil,.nil,.nil,.nil,.d 13,.d 14]),(3,.row 3 9 1 19),(9,.var 9 35 [.d 20,.own 4 4,.own 5 5,.own 6 6,.own 7 7,.own 8 8,.d 26,.d 27]),(8,.row 8 9 1 25),(7,.row 7 9 1 24),(6,.row 6 9 1 23),(5,.row 5 35 8 22),(4,.row 4 78 3 21),(10,.row 10 3 1 34),(11,.row 11 35 8 63)],12,12,64,[(58,false),(48,false),(37,false),(33,false),(17,false)]⟩,[⟨true,10,0,35,8⟩]⟩]
def qH:List (Nat×Nat×Bool×List Nat):=[]
def bo:UP:=.s #[]<|.b .neq 9 0<|.ite 0 (.i 0<|.i 0<|.i 0<|.c 2<|.po (.e 78 3)<|.po (.e 35 8)<|.po (.e 9 1)<|.po (.e 9 1)<|.po (.e 9 1)<|.c 6<|.c 5<|.c 18<|.ret [(true,[7,4,3,2,1,0,6,5]),(false,[18])])<|.c 9<|.c 8<|.c 7<|.po (.mk 35 8 [[9,2,3,4,5,6,8,7]])<|.po (.app 35 8 144 22 0)<|.i 1<|.a 25 0<|.jump 0 [0,2]
def bn:UP:=.join 9 bo<|.ite 0 (.sel [2,3,4,5,6,7,8,9]<|.cl 36 [(true,[7,6,5,4,3,2,1,0])] dF<|.jump 1 [0,8,2,1,3,4,5,6,7])<|.i 0<|.b .gtr 12 0<|.ite 0 (.i 3<|.e 12 0<|.ite 0 (.sel [6,7,8,9,10,11,12,13]<|.cl 37 [(true,[7,6,5,4,3,2,1,0])] dF<|.jump 1 [0,8,2,1,3,4,5,6,7])<|.jump 1 [5,13,7,6,8,9,10,11,12])<|.f<|.jump 1 [4,12,6,5,7,8,9,10,11]
def gn:UP:=.b .lss 1 4<|.ite 0 (.z 2<|.po (.chk 8 7 2)<|.x 8 7 2<|.i 0<|.i 0<|.i 0<|.sel [3,4,5,6,7,8,9,10,12,13,17]<|.cl 35 [(true,[7,6,5,4,3,2,1,0]),(false,[10])] cB<|.i 0<|.i 0<|.i 0<|.s #[]<|.sel [0,4,5,6,7,8,9,10,11,20,21]<|.join 1 bn<|.i 0<|.b .gtr 11 0<|.ite 0 (.sel [3,4,5,6,7,8,9,10]<|.cl 34 [(true,[7,6,5,4,3,2,1,0])] au<|.jump 1 [0])<|.f<|.jump 1 [0])<|.sel [1,8]<|.cl 5000038 [(false,[0]),(false,[1])] dF<|.c 8<|.c 2<|.c 1<|.c 0<|.ret [(true,[8,7,6,5,4,3,2,1]),(false,[0])]
def bP:UP:=.i 0<|.i 0<|.i 0<|.s #[]<|.sel [4,5,6,7,8,9,10,11,12,13,14,15]<|.cl 31 [(true,[11,10,9,8])] au<|.n 0<|.ite 0 (.i 0<|.i 0<|.i 0<|.s #[105,110,118,97,108,105,100,32,102,111,114,109,117,108,97]<|.c 3<|.po (.e 78 3)<|.po (.e 35 8)<|.po (.e 9 1)<|.po (.e 9 1)<|.po (.e 9 1)<|.c 7<|.c 6<|.c 5<|.ret [(true,[8,4,3,2,1,0,7,6]),(false,[5])])<|.c 13<|.po (.mk 9 1 [[13]])<|.po (.flat 12)<|.po (.app 9 1 16 0 12)<|.sel [0,4,5,6,7,8,9,10,11]<|.cl 32 [(true,[8,7,6,5,4,3,2,1]),(false,[0])] dF<|.i 0<|.i 0<|.i 0<|.s #[]<|.b .neq 4 0<|.ite 0 (.i 0<|.i 0<|.i 0<|.c 2<|.po (.e 78 3)<|.po (.e 35 8)<|.po (.e 9 1)<|.po (.e 9 1)<|.po (.e 9 1)<|.c 6<|.c 5<|.c 13<|.ret [(true,[7,4,3,2,1,0,6,5]),(false,[13])])<|.sel [6,7,8,9,10,11,12,13,14]<|.cl 33 [(true,[7,6,5,4,3,2,1,0])] Fm<|.l 0<|.i 0<|.e 1 0<|.ite 0 (.i 0<|.i 0<|.i 0<|.s #[110,111,32,99,111,109,112,108,101,116,101,32,114,111,119,115]<|.c 3<|.po (.e 78 3)<|.po (.e 35 8)<|.po (.e 9 1)<|.po (.e 9 1)<|.po (.e 9 1)<|.c 7<|.c 6<|.c 5<|.ret [(true,[8,4,3,2,1,0,7,6]),(false,[5])])<|.i 0<|.z 0<|.po (.chk 8 10 0)<|.x 8 10 0<|.i 3<|.e 8 0<|.ite 0 (.t<|.i 0<|.i 0<|.i 0<|.s #[114,101,115,112,111,110,115,101,32,105,115,32,110,111,116,32,110,117,109,101,114,105,99]<|.c 3<|.po (.e 78 3)<|.po (.e 35 8)<|.po (.e 9 1)<|.po (.e 9 1)<|.po (.e 9 1)<|.c 7<|.c 6<|.c 5<|.ret [(true,[8,4,3,2,1,0,7,6]),(false,[5])])<|.i 0<|.z 0<|.po (.chk 8 21 0)<|.x 8 21 0<|.sel [0,1,2,3,4,5,6,7,23,29,32]<|.cl 34 [(true,[7,6,5,4,3,2,1,0])] au<|.ite 0 (.i 0<|.i 0<|.i 0<|.s #[114,101,115,112,111,110,115,101,32,105,115,32,110,111,116,32,110,117,109,101,114,105,99]<|.c 3<|.po (.e 78 3)<|.po (.e 35 8)<|.po (.e 9 1)<|.po (.e 9 1)<|.po (.e 9 1)<|.c 7<|.c 6<|.c 5<|.ret [(true,[8,4,3,2,1,0,7,6]),(false,[5])])<|.l 10<|.i 0<|.po (.e 35 8)<|.sel [0,1,2,12,13,14]<|.loop [1,0] gn
theorem cb:aM Tryz.prog 9 Tryz.f9 bO qy qH=some ([(true,4),(true,8)],bP):=by kernel_rfl
def rj:List aQ:=[⟨3000008,2,⟨[bF 9 15 15,aa 32 52,aa 31 49,bF 30 14 14,aC 7 13 13 0,aC 5 7 7 0,aa 15 14,aa 4 12,aa 3 11,aC 2 1 1 0,aC 1 0 0 0,(0,.p true [.d 0,.d 1,.d 2,.d 3,.d 4,.d 5,.d 6,.d 7])],[(0,.var 0 35 [.d 0,.d 1,.d 2,.d 3,.d 4,.d 5,.d 6,.d 7]),(1,.var 1 35 [.d 8,.nil,.nil,.nil,.nil,.nil,.d 9,.d 10]),(7,.var 7 35 [.d 24,.own 2 2,.own 3 3,.own 4 4,.own 5 5,.own 6 6,.d 30,.d 31]),(6,.row 6 9 1 29),(5,.row 5 9 1 28),(4,.row 4 9 1 27),(3,.row 3 35 8 26),(2,.row 2 78 3 25),(13,.var 13 35 [.d 36,.own 8 8,.own 9 9,.own 10 10,.own 11 11,.own 12 12,.d 42,.d 43]),(12,.row 12 9 1 41),(11,.row 11 9 1 40),(10,.row 10 9 1 39),(9,.row 9 35 8 38),(8,.row 8 78 3 37),(14,.row 14 78 3 48),(15,.row 15 9 1 53)],16,16,54,[(23,false),(14,false)]⟩,[⟨true,9,0,9,1⟩]⟩]
def qw:List (Nat×Nat×Bool×List Nat):=[]
def gv:UP:=.b .lss 1 4<|.ite 0 (.z 2<|.po (.chk 3 6 2)<|.x 3 6 2<|.i 0<|.i 0<|.s #[]<|.c 3<|.po (.mk 9 1 [[3]])<|.po (.flat 0)<|.po (.app 9 1 16 8 0)<|.i 1<|.a 11 0<|.jump 0 [0,2])<|.sel [1,7,8,9,10,11,12,13,14]<|.cl 80 [(true,[8,7,6,5,4,3,2,1]),(false,[0])] dF<|.c 8<|.c 2<|.c 1<|.c 0<|.ret [(true,[8,7,6,5,4,3,2,1]),(false,[0])]
def iL:UP:=.i 0<|.i 0<|.i 0<|.s #[]<|.sel [4,5,6,7,8,9,10,11]<|.cl 81 [(true,[7,6,5,4,3,2,1,0])] au<|.s #[]<|.b .neq 1 0<|.ite 0 (.i 0<|.i 0<|.i 0<|.c 2<|.po (.e 78 3)<|.po (.e 35 8)<|.po (.e 9 1)<|.po (.e 9 1)<|.po (.e 9 1)<|.c 6<|.c 5<|.c 10<|.ret [(true,[7,4,3,2,1,0,6,5]),(false,[10])])<|.cl 83 [(true,[10,9,8,7,6,5,4,3])] cB<|.f<|.cl 82 [(true,[8,7,6,5,4,3,2,1]),(false,[0])] dF<|.i 0<|.i 0<|.i 0<|.sel [4,5,6,7,8,9,10,11,24,25,26,27,28,29,30,31]<|.cl 84 [(true,[7,6,5,4,3,2,1,0])] dF<|.i 0<|.i 0<|.i 0<|.sel [4,5,6,7,8,9,10,11,20,21,22,23,24,25,26,27]<|.cl 85 [(true,[7,6,5,4,3,2,1,0])] IB<|.l 0<|.i 0<|.po (.e 9 1)<|.sel [0,1,2,3,12,13,14,15,16,17,18,19]<|.loop [1,0] gv
theorem qT:aM Tryz.prog 37 Tryz.f37 bO rj qw=some ([(true,8)],iL):=by kernel_rfl
def za:List aQ:=[⟨2000001,3,⟨[bF 7 3 3,aa 33 23,aa 9 24,aa 24 22,aa 23 20,aa 22 17,bF 21 2 2,aa 13 15,aa 6 13,aa 5 12,aC 4 1 1 0,aC 2 0 0 0,(0,.p true [.d 0,.d 1,.d 2,.d 3,.d 4,.d 5,.d 6,.d 7]),aa 1 8],[(0,.var 0 35 [.d 0,.d 1,.d 2,.d 3,.d 4,.d 5,.d 6,.d 7]),(1,.var 1 35 [.d 9,.nil,.nil,.nil,.nil,.nil,.d 10,.d 11]),(2,.row 2 3 1 16),(3,.row 3 3 1 25)],4,4,26,[(22,true),(15,false)]⟩,[]⟩,⟨3000006,2,⟨[bF 7 3 3,aa 23 20,aa 22 17,bF 21 2 2,aa 13 15,aa 6 13,aa 5 12,aC 4 1 1 0,aC 2 0 0 0,(0,.p true [.d 0,.d 1,.d 2,.d 3,.d 4,.d 5,.d 6,.d 7]),aa 1 8],[(0,.var 0 35 [.d 0,.d 1,.d 2,.d 3,.d 4,.d 5,.d 6,.d 7]),(1,.var 1 35 [.d 9,.nil,.nil,.nil,.nil,.nil,.d 10,.d 11]),(2,.row 2 3 1 16),(3,.row 3 3 1 21)],4,4,22,[(15,false)]⟩,[⟨true,7,0,3,1⟩]⟩]
def yM:List (Nat×Nat×Bool×List Nat):=[]
def fR:UP:=.i 1<|.a 5 0<|.jump 0 [0,2]
def lN:UP:=.b .lss 1 4<|.ite 0 (.sel [1,2,6,13]<|.join 3 fR<|.z 1<|.po (.chk 1 2 1)<|.x 1 2 1<|.z 0<|.x 3 4 0<|.cl 74 [(true,[2,1,0])] au<|.n 0<|.ite 0 (.c 5<|.po (.mk 3 1 [[5]])<|.po (.flat 0)<|.po (.app 3 1 8 7 0)<|.jump 1 [2,7,0])<|.jump 1 [0,5,6])<|.sel [1,7,8,9,10,11,12,13,14]<|.cl 114 [(true,[8,7,6,5,4,3,2,1]),(false,[0])] cB<|.s #[]<|.c 8<|.c 2<|.c 1<|.c 0<|.ret [(true,[8,7,6,5,4,3,2,1]),(false,[0])]
def nO:UP:=.i 0<|.i 0<|.i 0<|.s #[]<|.sel [4,5,6,7,8,9,10,11,12]<|.cl 81 [(true,[8,7,6,5,4,3,2,1])] au<|.s #[]<|.b .neq 1 0<|.ite 0 (.i 0<|.i 0<|.i 0<|.c 2<|.po (.e 78 3)<|.po (.e 35 8)<|.po (.e 9 1)<|.po (.e 9 1)<|.po (.e 9 1)<|.c 6<|.c 5<|.c 10<|.ret [(true,[7,4,3,2,1,0,6,5]),(false,[10])])<|.cl 113 [(false,[11]),(false,[10]),(false,[3])] Fm<|.l 0<|.i 0<|.po (.e 3 1)<|.sel [0,1,2,3,8,9,10,11,12,13,14,15]<|.loop [1,0] lN
theorem zn:aM Tryz.prog 82 Tryz.f82 bO za yM=some ([(true,8),(false,1)],nO):=by kernel_rfl
def uB:List aQ:=[⟨2000001,5,⟨[bF 5 2 3,aa 29 21,aa 6 18,aC 7 3 2 0,aa 19 20,aa 18 18,aa 17 15,aa 16 1,aa 12 14,aa 4 12,aa 3 11,aC 2 1 1 0,aC 1 0 0 0,(0,.p true [.d 0,.d 1,.d 2,.d 3,.d 4,.d 5,.d 6,.d 7])],[(0,.var 0 35 [.d 0,.d 1,.d 2,.d 3,.d 4,.d 5,.d 6,.d 7]),(1,.var 1 35 [.d 8,.nil,.nil,.nil,.nil,.nil,.d 9,.d 10]),(3,.var 2 78 [.d 22,.d 23,.d 24]),(2,.row 3 3 1 25)],4,4,26,[(20,true),(14,false)]⟩,[]⟩,⟨3000006,2,⟨[bF 5 2 2,aa 18 18,aa 17 15,aa 16 1,aa 12 14,aa 4 12,aa 3 11,aC 2 1 1 0,aC 1 0 0 0,(0,.p true [.d 0,.d 1,.d 2,.d 3,.d 4,.d 5,.d 6,.d 7])],[(0,.var 0 35 [.d 0,.d 1,.d 2,.d 3,.d 4,.d 5,.d 6,.d 7]),(1,.var 1 35 [.d 8,.nil,.nil,.nil,.nil,.nil,.d 9,.d 10]),(2,.row 2 3 1 19)],3,3,20,[(14,false)]⟩,[⟨true,5,0,3,1⟩]⟩]
def uY:List (Nat×Nat×Bool×List Nat):=[(8,7,false,[])]
def ew:UP:=.i 1<|.a 7 0<|.jump 0 [0,2]
def j9:UP:=.b .lss 1 4<|.ite 0 (.sel [1,2,15]<|.join 5 ew<|.z 1<|.x 3 2 1<|.i 0<|.i 0<|.s #[]<|.po (.cutL 3 8 none (some 7))<|.c 6<|.c 5<|.c 4<|.sel [0,4,5,6,7,8]<|.cl 116 [(false,[0]),(true,[3,2,1])] au<|.i 0<|.b .lss 1 0<|.c 0<|.ite 0 (.c 8<|.po (.mk 3 1 [[8]])<|.po (.flat 0)<|.po (.app 3 1 8 8 0)<|.jump 1 [2,8,7,6,0])<|.jump 1 [0,6,5,4,7])<|.sel [1,9,10,11,12,13,14,15,16]<|.cl 114 [(true,[8,7,6,5,4,3,2,1]),(false,[0])] cB<|.i 0<|.i 0<|.i 0<|.s #[]<|.c 11<|.po (.e 9 1)<|.c 6<|.c 5<|.c 1<|.ret [(true,[12,11,10,0,8,7,6,5]),(false,[1])]
def kl:UP:=.i 0<|.i 0<|.i 0<|.s #[]<|.sel [4,5,6,7,8,9,10,11]<|.cl 81 [(true,[7,6,5,4,3,2,1,0])] au<|.s #[]<|.b .neq 1 0<|.ite 0 (.i 0<|.i 0<|.i 0<|.c 2<|.po (.e 78 3)<|.po (.e 35 8)<|.po (.e 9 1)<|.po (.e 9 1)<|.po (.e 9 1)<|.c 6<|.c 5<|.c 10<|.ret [(true,[7,4,3,2,1,0,6,5]),(false,[10])])<|.l 9<|.i 0<|.po (.e 3 1)<|.loop [1,0] j9
theorem vb:aM Tryz.prog 84 Tryz.f84 bO uB uY=some ([(true,8)],kl):=by kernel_rfl
def qU:List aQ:=[⟨3000002,1,⟨[aa 9 7,aa 8 5,aa 7 0,aa 4 4,aC 3 0 0 0,aa 0 0,(1,.p true [.d 1,.d 2,.d 3])],[(0,.var 0 78 [.d 1,.d 2,.d 3])],1,1,8,[]⟩,[]⟩]
def rq:List (Nat×Nat×Bool×List Nat):=[]
def gS:UP:=.b .lss 0 2<|.ite 0 (.z 1<|.x 3 8 1<|.i 0<|.i 0<|.s #[]<|.po (.eqS false [.i,.i,.s] [13,12,11] [5,4,3])<|.ite 0 (.c 8<|.r 8)<|.i 1<|.a 9 0<|.jump 0 [0])<|.i (-1)<|.c 0<|.r 0
def iq:UP:=.i 0<|.l 4<|.i 0<|.loop [0] gS
theorem qL:aM Tryz.prog 116 Tryz.f116 bO qU rq=some ([(false,1),(true,3)],iq):=by kernel_rfl
def Cr:List aQ:=[⟨2000001,6,⟨[aa 46 38,aa 21 39,aa 7 40,aa 16 37,aa 15 33,aa 14 31,aa 13 8,aC 5 7 5 0,aC 4 1 1 0,aC 2 0 0 0,(0,.p true [.d 0,.d 1,.d 2,.d 3,.d 4,.d 5,.d 6,.d 7]),aa 1 8],[(0,.var 0 35 [.d 0,.d 1,.d 2,.d 3,.d 4,.d 5,.d 6,.d 7]),(1,.var 1 35 [.d 9,.nil,.nil,.nil,.nil,.nil,.d 10,.d 11]),(7,.var 5 35 [.d 20,.own 2 2,.own 3 6,.own 4 7,.own 5 3,.own 6 4,.d 26,.d 27]),(6,.row 4 9 1 25),(5,.row 3 9 1 24),(4,.row 7 9 1 41),(3,.row 6 35 8 42),(2,.row 2 78 3 43)],8,8,44,[(37,true)]⟩,[]⟩,⟨1000006,2,⟨[aa 21 40,aa 7 38,aa 16 37,aa 15 33,aa 14 31,aa 13 8,aC 5 7 6 0,aC 4 1 1 0,aC 2 0 0 0,(0,.p true [.d 0,.d 1,.d 2,.d 3,.d 4,.d 5,.d 6,.d 7]),aa 1 8],[(0,.var 0 35 [.d 0,.d 1,.d 2,.d 3,.d 4,.d 5,.d 6,.d 7]),(1,.var 1 35 [.d 9,.nil,.nil,.nil,.nil,.nil,.d 10,.d 11]),(7,.var 6 35 [.d 20,.own 2 2,.own 3 7,.own 4 3,.own 5 4,.own 6 5,.d 26,.d 27]),(6,.row 5 9 1 25),(5,.row 4 9 1 24),(4,.row 3 9 1 34),(3,.row 7 35 8 41),(2,.row 2 78 3 42)],8,8,43,[(37,true)]⟩,[]⟩,⟨3000003,4,⟨[aa 15 33,aa 14 31,aa 13 8,aC 5 7 7 0,aC 4 1 1 0,aC 2 0 0 0,(0,.p true [.d 0,.d 1,.d 2,.d 3,.d 4,.d 5,.d 6,.d 7]),aa 1 8],[(0,.var 0 35 [.d 0,.d 1,.d 2,.d 3,.d 4,.d 5,.d 6,.d 7]),(1,.var 1 35 [.d 9,.nil,.nil,.nil,.nil,.nil,.d 10,.d 11]),(7,.var 7 35 [.d 20,.own 2 2,.own 3 3,.own 4 4,.own 5 5,.own 6 6,.d 26,.d 27]),(6,.row 6 9 1 25),(5,.row 5 9 1 24),(4,.row 4 9 1 34),(3,.row 3 35 8 35),(2,.row 2 78 3 36)],8,8,37,[]⟩,[]⟩]
def Cw:List (Nat×Nat×Bool×List Nat):=[(9,8,false,[]),(7,8,false,[]),(6,9,false,[])]
def pW:UP:=.l 7<|.i 0<|.b .gtr 1 0<|.ite 0 (.z 6<|.x 1 10 6<|.c 0<|.po (.mk 9 1 [[0]])<|.c 1<|.po (.mk 9 1 [[1]])<|.po (.flat 0)<|.po (.app 9 1 16 12 0)<|.jump 1 [4,9,10,0,8,7])<|.jump 1 [0,5,6,9,4,3]
def pw:UP:=.i 1<|.a 10 0<|.jump 0 [0,4,3,2]
def pU:UP:=.b .lss 3 5<|.ite 0 (.sel [1,2,3,4,15,16,17,18,19]<|.join 6 pw<|.z 3<|.x 1 4 3<|.i 4<|.e 10 0<|.sel [0,2,3,4,5,8,9,10]<|.join 2 pW<|.ite 0 (.z 1<|.x 8 6 1<|.sel [0,1,2,3,4,5,6,7,10,11]<|.cl 71 [(true,[7,6,5,4,3,2,1,0])] cB<|.po (.mk 35 8 [[7,6,5,4,3,2,1,0]])<|.c 8<|.c 2<|.c 1<|.po (.mk 35 8 [[8,7,6,5,4,3,2,1]])<|.po (.app 35 8 144 19 0)<|.jump 2 [0,19])<|.z 1<|.x 3 7 1<|.c 2<|.c 1<|.c 0<|.po (.mk 78 3 [[2,1,0]])<|.c 3<|.c 2<|.c 1<|.po (.mk 78 3 [[3,2,1]])<|.po (.flat 0)<|.po (.app 78 3 32 7 0)<|.jump 2 [9,0])<|.c 14<|.c 8<|.c 7<|.sel [1,2,3,7,8,9,10,14]<|.cl 5000078 [(true,[7,0,1,2,6,5,4,3])] cB<|.c 7<|.c 1<|.c 0<|.ret [(true,[7,6,5,4,3,2,1,0])]
def rC:UP:=.i 0<|.i 0<|.i 0<|.i 0<|.i 0<|.i 0<|.c 14<|.po (.e 78 3)<|.po (.e 35 8)<|.po (.e 9 1)<|.po (.e 9 1)<|.po (.e 9 1)<|.c 6<|.c 5<|.sel [0,1,2,3,4,5,6,11,12,13,14,15,16,17,18,19]<|.cl 5000076 [(true,[15,4,3,2,1,0,6,5]),(true,[15,14,13,12,11,10,9,8])] cB<|.i 0<|.i 0<|.i 0<|.l 18<|.i 0<|.sel [0,1,5,6,7,8,9,10,11,12,20,25,26,27,28]<|.loop [0,6,7,8] pU
theorem Cy:aM Tryz.prog 114 Tryz.f114 bO Cr Cw=some ([(true,8),(false,1)],rC):=by kernel_rfl
def qP:List aQ:=[]
def qO:List (Nat×Nat×Bool×List Nat):=[(4,8,false,[6])]
def io:UP:=.i 0<|.i 0<|.i 0<|.s #[]<|.sel [4,5,6,7,8,9,10,11]<|.cl 64 [(true,[7,6,5,4,3,2,1,0])] au<|.s #[]<|.b .neq 1 0<|.ite 0 (.i 0<|.i 0<|.i 0<|.c 2<|.po (.e 78 3)<|.po (.e 35 8)<|.po (.e 9 1)<|.po (.e 9 1)<|.po (.e 9 1)<|.c 6<|.c 5<|.c 10<|.ret [(true,[7,4,3,2,1,0,6,5]),(false,[10])])<|.cl 65 [(true,[10,9,8,7,6,5,4,3])] la<|.cl 63 [(true,[11,10,9,8,7,6,5,4]),(false,[0])] dF<|.i 0<|.i 0<|.i 0<|.c 11<|.c 5<|.c 4<|.c 3<|.ret [(true,[11,10,9,8,7,6,5,4]),(false,[3])]
theorem qr:aM Tryz.prog 25 Tryz.f25 bO qP qO=some ([(true,8)],io):=by kernel_rfl
def y8:List aQ:=[⟨2000001,2,⟨[bF 8 3 3,aa 37 23,aa 24 22,aa 9 19,aa 17 16,aa 7 14,bF 6 2 2,aa 5 12,aC 4 1 1 0,aC 2 0 0 0,(0,.p true [.d 0,.d 1,.d 2,.d 3,.d 4,.d 5,.d 6,.d 7]),aa 1 8],[(0,.var 0 35 [.d 0,.d 1,.d 2,.d 3,.d 4,.d 5,.d 6,.d 7]),(1,.var 1 35 [.d 9,.nil,.nil,.nil,.nil,.nil,.d 10,.d 11]),(2,.row 2 3 1 13),(3,.row 3 3 1 24)],4,4,25,[(22,true),(16,false)]⟩,[]⟩,⟨3000006,2,⟨[aa 9 19,bF 8 3 3,aa 17 16,aa 7 14,bF 6 2 2,aa 5 12,aC 4 1 1 0,aC 2 0 0 0,(0,.p true [.d 0,.d 1,.d 2,.d 3,.d 4,.d 5,.d 6,.d 7]),aa 1 8],[(0,.var 0 35 [.d 0,.d 1,.d 2,.d 3,.d 4,.d 5,.d 6,.d 7]),(1,.var 1 35 [.d 9,.nil,.nil,.nil,.nil,.nil,.d 10,.d 11]),(2,.row 2 3 1 13),(3,.row 3 3 1 20)],4,4,21,[(16,false)]⟩,[]⟩]
def yw:List (Nat×Nat×Bool×List Nat):=[(8,11,false,[])]
def fU:UP:=.i 1<|.a 4 0<|.jump 0 [0,2]
def my:UP:=.l 4<|.b .lss 2 0<|.ite 0 (.sel [2,3,6,13]<|.join 2 fU<|.z 1<|.po (.chk 1 2 1)<|.x 1 2 1<|.c 0<|.i 1<|.b .sub 1 0<|.c 0<|.z 0<|.x 3 6 0<|.c 1<|.i 0<|.b .neq 2 0<|.c 0<|.ite 0 (.z 9<|.po (.chk 1 10 9)<|.x 1 10 9<|.c 0<|.po (.mk 3 1 [[0]])<|.po (.flat 0)<|.po (.app 3 1 8 10 0)<|.jump 1 [3,0])<|.jump 1 [0,8])<|.sel [2,7,8,9,10,11,12,13,14]<|.cl 60 [(true,[8,7,6,5,4,3,2,1]),(false,[0])] cB<|.s #[]<|.c 8<|.c 2<|.c 1<|.c 0<|.ret [(true,[8,7,6,5,4,3,2,1]),(false,[0])]
def nW:UP:=.i 0<|.i 0<|.i 0<|.s #[]<|.sel [4,5,6,7,8,9,10,11,12]<|.cl 121 [(true,[8,7,6,5,4,3,2,1]),(false,[0])] [(false,[some (3,1)],true),(false,[none],true)]<|.s #[]<|.b .neq 1 0<|.ite 0 (.i 0<|.i 0<|.i 0<|.c 2<|.po (.e 78 3)<|.po (.e 35 8)<|.po (.e 9 1)<|.po (.e 9 1)<|.po (.e 9 1)<|.c 6<|.c 5<|.c 10<|.ret [(true,[7,4,3,2,1,0,6,5]),(false,[10])])<|.po (.mk 3 1 [])<|.i 0<|.sel [0,1,5,7,8,9,10,11,12,13,14]<|.loop [0,1] my
theorem yt:aM Tryz.prog 100 Tryz.f100 bO y8 yw=some ([(true,8),(false,1)],nW):=by kernel_rfl
def rZ:List aQ:=[⟨2000001,3,⟨[bF 3 1 13,aa 36 38,aa 8 39,aa 21 37,aa 7 34,aC 5 13 12 0,aC 4 7 6 0,(2,.p false [.nil]),aC 1 0 0 0,(0,.p true [.d 0,.d 1,.d 2,.d 3,.d 4,.d 5,.d 6,.d 7])],[(0,.var 0 35 [.d 0,.d 1,.d 2,.d 3,.d 4,.d 5,.d 6,.d 7]),(7,.var 6 35 [.d 9,.own 2 1,.own 3 2,.own 4 3,.own 5 4,.own 6 5,.d 15,.d 16]),(6,.row 5 9 1 14),(5,.row 4 9 1 13),(4,.row 3 9 1 12),(3,.row 2 35 8 11),(2,.row 1 78 3 10),(13,.var 12 35 [.d 21,.own 8 7,.own 9 8,.own 10 9,.own 11 10,.own 12 11,.d 27,.d 28]),(12,.row 11 9 1 26),(11,.row 10 9 1 25),(10,.row 9 9 1 24),(9,.row 8 35 8 23),(8,.row 7 78 3 22),(1,.row 13 9 1 40)],14,14,41,[(37,true),(20,false)]⟩,[]⟩,⟨3000005,2,⟨[aa 7 34,aC 5 13 13 0,aC 4 7 7 0,bF 3 1 1,(2,.p false [.nil]),aC 1 0 0 0,(0,.p true [.d 0,.d 1,.d 2,.d 3,.d 4,.d 5,.d 6,.d 7])],[(0,.var 0 35 [.d 0,.d 1,.d 2,.d 3,.d 4,.d 5,.d 6,.d 7]),(1,.row 1 9 1 35),(7,.var 7 35 [.d 9,.own 2 2,.own 3 3,.own 4 4,.own 5 5,.own 6 6,.d 15,.d 16]),(6,.row 6 9 1 14),(5,.row 5 9 1 13),(4,.row 4 9 1 12),(3,.row 3 35 8 11),(2,.row 2 78 3 10),(13,.var 13 35 [.d 21,.own 8 8,.own 9 9,.own 10 10,.own 11 11,.own 12 12,.d 27,.d 28]),(12,.row 12 9 1 26),(11,.row 11 9 1 25),(10,.row 10 9 1 24),(9,.row 9 35 8 23),(8,.row 8 78 3 22)],14,14,36,[(20,false)]⟩,[]⟩]
def rO:List (Nat×Nat×Bool×List Nat):=[(7,10,false,[])]
def d6:UP:=.i 1<|.a 5 0<|.jump 0 [0,2]
def iQ:UP:=.l 3<|.b .lss 2 0<|.ite 0 (.sel [2,3,5,6]<|.join 3 d6<|.c 3<|.z 1<|.po (.chk 3 2 1)<|.x 3 2 1<|.c 2<|.c 1<|.c 0<|.i 3<|.cl 101 [(false,[7]),(false,[0]),(true,[3,2,1])] mu<|.c 0<|.sel [0,7]<|.cl 102 [(false,[1]),(false,[0])] au<|.n 0<|.ite 0 (.c 2<|.po (.mk 9 1 [[2]])<|.po (.flat 0)<|.po (.app 9 1 16 4 0)<|.jump 1 [2,4,0])<|.jump 1 [0,2,3])<|.r 2
def jL:UP:=.po (.mk 9 1 [])<|.cl 99 [(true,[8,7,6,5,4,3,2,1])] cB<|.i 0<|.i 0<|.i 0<|.f<|.sel [0,4,5,6,7,8,9,10,11,12]<|.cl 100 [(true,[8,7,6,5,4,3,2,1]),(false,[0])] dF<|.i 0<|.i 0<|.i 0<|.i 0<|.sel [0,11,12,22]<|.loop [0,3] iQ
theorem tC:aM Tryz.prog 65 Tryz.f65 bO rZ rO=some ([(true,8)],jL):=by kernel_rfl
def xv:List aQ:=[⟨8,1,⟨[aa 57 27,aa 9 23,bF 6 1 1,aa 22 24,aa 8 25,aa 7 11,aa 5 9,(4,.p false [.nil]),aC 2 0 0 0,(0,.p true [.d 0,.d 1,.d 2,.d 3,.d 4,.d 5,.d 6,.d 7]),aa 1 8],[(0,.var 0 35 [.d 0,.d 1,.d 2,.d 3,.d 4,.d 5,.d 6,.d 7]),(1,.row 1 3 1 26)],2,2,28,[(16,true)]⟩,[]⟩,⟨3000008,4,⟨[aa 9 23,bF 6 1 1,aa 22 24,aa 8 25,aa 7 11,aa 5 9,(4,.p false [.nil]),aC 2 0 0 0,(0,.p true [.d 0,.d 1,.d 2,.d 3,.d 4,.d 5,.d 6,.d 7]),aa 1 8],[(0,.var 0 35 [.d 0,.d 1,.d 2,.d 3,.d 4,.d 5,.d 6,.d 7]),(1,.row 1 3 1 26)],2,2,27,[(16,true)]⟩,[]⟩,⟨3000004,2,⟨[aa 8 13,aa 7 11,bF 6 1 1,aa 5 9,(4,.p false [.nil]),aC 2 0 0 0,(0,.p true [.d 0,.d 1,.d 2,.d 3,.d 4,.d 5,.d 6,.d 7]),aa 1 8],[(0,.var 0 35 [.d 0,.d 1,.d 2,.d 3,.d 4,.d 5,.d 6,.d 7]),(1,.row 1 3 1 14)],2,2,15,[]⟩,[]⟩]
def wW:List (Nat×Nat×Bool×List Nat):=[(8,27,false,[])]
def dy:UP:=.ite 0 (.z 4<|.po (.chk 1 1 4)<|.x 1 1 4<|.i 1<|.b .sub 6 0<|.z 0<|.po (.chk 1 4 0)<|.x 1 4 0<|.z 8<|.po (.chk 1 5 8)<|.c 0<|.po (.set 1 5 8 0 [0])<|.i 1<|.b .sub 10 0<|.z 0<|.po (.chk 1 2 0)<|.c 6<|.po (.set 1 2 0 0 [6])<|.i 1<|.b .sub 13 0<|.jump 1 [0,13,12,2])<|.i 1<|.a 3 0<|.jump 0 [0,3]
def lh:UP:=.join 1 dy<|.i 0<|.b .gtr 4 0<|.c 0<|.ite 0 (.c 11<|.z 5<|.po (.chk 1 2 5)<|.x 1 2 5<|.c 0<|.i 1<|.b .sub 1 0<|.c 0<|.z 0<|.x 3 13 0<|.c 2<|.c 1<|.c 0<|.i 1<|.b .sub 12 0<|.c 0<|.z 0<|.po (.chk 1 10 0)<|.x 1 10 0<|.c 0<|.i 1<|.b .sub 1 0<|.c 0<|.z 0<|.x 3 21 0<|.c 2<|.c 1<|.c 0<|.sel [0,1,2,8,9,10,23,25]<|.cl 129 [(false,[7]),(true,[5,4,3]),(true,[2,1,0]),(false,[6])] au<|.c 0<|.jump 2 [0])<|.f<|.c 0<|.jump 2 [0]
def kM:UP:=.s #[]<|.e 4 0<|.ite 0 (.l 8<|.b .lss 4 0<|.ite 0 (.i 1<|.a 6 0<|.c 0<|.po (.mk 3 1 [[0]])<|.po (.flat 0)<|.po (.app 3 1 8 7 0)<|.sel [0,4,9,13,14,15]<|.loop [2,1,2,0] lh)<|.c 7<|.ret [(false,[4]),(false,[7])])<|.f<|.c 6<|.ret [(false,[3]),(false,[6])]
def mv:UP:=.s #[]<|.po (.mk 3 1 [])<|.cl 64 [(true,[10,9,8,7,6,5,4,3])] au<|.i 0<|.sel [0,1,2,4,11,12]<|.loop [0,2] kM
theorem xi:aM Tryz.prog 121 Tryz.f121 bO xv wW=some ([(true,8),(false,1)],mv):=by kernel_rfl
def ou:List aQ:=[]
def nX:List (Nat×Nat×Bool×List Nat):=[]
def fy:UP:=.i 0<|.i 3<|.e 8 0<|.ite 0 (.sel [3,6]<|.cl 134 [(false,[1]),(false,[0])] au<|.c 0<|.r 0)<|.sel [3,4,5,6,7,8]<|.cl 135 [(true,[5,4,3]),(true,[2,1,0])] au<|.c 0<|.r 0
theorem oh:aM Tryz.prog 126 Tryz.f126 bO ou nX=some ([(false,1),(true,3),(true,3)],fy):=by kernel_rfl
def oa:List aQ:=[]
def ol:List (Nat×Nat×Bool×List Nat):=[]
def fE:UP:=.i 0<|.b .lss 2 1<|.ite 0 (.i (-1)<|.c 0<|.r 0)<|.b .gtr 3 2<|.ite 0 (.i 1<|.c 0<|.r 0)<|.i 0<|.c 0<|.r 0
theorem n7:aM Tryz.prog 134 Tryz.f134 bO oa ol=some ([(false,1),(false,1)],fE):=by kernel_rfl
def rl:List aQ:=[⟨2000002,2,⟨[aa 36 10,aa 10 11,aa 9 6,aa 15 8,bF 7 0 0,aa 14 6,aa 13 3,(8,.p false [.fn 125 [0,2]]),(6,.p false [.nil]),aa 0 0,aa 1 1,aa 2 2],[(0,.row 0 3 1 7)],1,1,12,[(8,true)]⟩,[]⟩,⟨3000007,1,⟨[aa 10 10,aa 9 6,aa 15 8,bF 7 0 0,aa 14 6,aa 13 3,(8,.p false [.fn 125 [0,2]]),(6,.p false [.nil]),aa 0 0,aa 1 1,aa 2 2],[(0,.row 0 3 1 7)],1,1,11,[(8,true)]⟩,[]⟩,⟨3000004,2,⟨[bF 7 0 0,aa 14 6,aa 13 3,(8,.p false [.fn 125 [0,2]]),(6,.p false [.nil]),aa 0 0,aa 1 1,aa 2 2],[(0,.row 0 3 1 7)],1,1,8,[]⟩,[⟨true,7,0,3,1⟩]⟩]
def qM:List (Nat×Nat×Bool×List Nat):=[(10,7,false,[]),(7,16,false,[])]
def gt:UP:=.i 0<|.b .gtr 1 0<|.c 0<|.ite 0 (.z 5<|.x 3 7 5<|.c 2<|.c 1<|.c 0<|.i 1<|.b .sub 6 0<|.c 0<|.z 0<|.po (.chk 1 9 0)<|.x 1 9 0<|.c 0<|.z 0<|.x 3 13 0<|.c 2<|.c 1<|.c 0<|.sel [0,1,2,6,7,8,11,15,17]<|.cl 2002000125 [(true,[5,4,3]),(true,[2,1,0]),(false,[8]),(false,[7])] au<|.ite 0 (.i 1<|.b .sub 8 0<|.jump 2 [0])<|.jump 1 [0,7])<|.f<|.jump 1 [0,3]
def go:UP:=.i 0<|.c 0<|.po (.mk 3 1 [[0]])<|.po (.flat 0)<|.po (.app 3 1 8 5 0)<|.i 1<|.a 4 0<|.c 0<|.po (.cutI 2 (some 0) none)<|.po (.cutI 4 (some 7) none)<|.po (.cpy 1 6 3 2 1 0)<|.z 11<|.po (.chk 1 1 11)<|.c 15<|.po (.set 1 1 11 0 [15])<|.i 1<|.a 17 0<|.jump 0 [0,2]
def gN:UP:=.b .lss 1 4<|.ite 0 (.l 1<|.sel [0,2,3,7,8,9]<|.join 2 go<|.loop [0] gt)<|.r 1
def ir:UP:=.l 1<|.i 0<|.po (.e 3 1)<|.loop [1,0] gN
theorem qI:aM Tryz.prog 113 Tryz.f113 bO rl qM=some ([(false,1),(false,1),(false,1)],ir):=by kernel_rfl
def mP:List aQ:=[]
def ng:List (Nat×Nat×Bool×List Nat):=[]
def eN:UP:=.f<|.cl 74 [(true,[8,7,6])] au<|.ite 0 (.t<|.sel [5,6,7,8,9,10]<|.cl 74 [(true,[5,4,3])] au<|.n 0<|.ite 0 (.sel [2,3,4]<|.cl 74 [(true,[2,1,0])] au<|.c 0<|.r 0)<|.f<|.c 0<|.r 0)<|.cl 74 [(true,[6,5,4])] au<|.ite 0 (.sel [5,6,7,8,9,10]<|.cl 74 [(true,[5,4,3])] au<|.n 0<|.ite 0 (.sel [2,3,4]<|.cl 74 [(true,[2,1,0])] au<|.c 0<|.r 0)<|.f<|.c 0<|.r 0)<|.cl 126 [(false,[4]),(true,[10,9,8]),(true,[7,6,5])] au<|.ite 4 (.i 0<|.b .gtr 1 0<|.c 0<|.r 0)<|.i 0<|.b .lss 1 0<|.c 0<|.r 0
theorem nk:HJ Tryz.prog 125 Tryz.f125 bO mP ng=some (([(true,3),(true,3)],2),eN):=by kernel_rfl
def xT:List aQ:=[]
def wG:List (Nat×Nat×Bool×List Nat):=[]
def lT:UP:=.i 0<|.i 0<|.e 6 0<|.ite 0 (.t<|.i 2<|.c 0<|.r 0)<|.i 0<|.e 5 0<|.ite 0 (.i 2<|.c 0<|.r 0)<|.i 3<|.b .neq 12 0<|.ite 0 (.sel [7,8,9,10,11,12]<|.cl 143 [(true,[5,4,3]),(true,[2,1,0])] au<|.c 0<|.r 0)<|.b .lss 10 7<|.ite 0 (.i (-1)<|.c 0<|.r 0)<|.b .gtr 11 8<|.ite 0 (.i 1<|.c 0<|.r 0)<|.i 0<|.c 0<|.r 0
theorem xS:aM Tryz.prog 138 Tryz.f138 bO xT wG=some ([(false,1),(true,3),(true,3)],lT):=by kernel_rfl
def xy:List aQ:=[]
def wz:List (Nat×Nat×Bool×List Nat):=[]
def dP:UP:=.f<|.i 0<|.e 7 0<|.ite 0 (.t<|.i 0<|.b .neq 10 0<|.ite 0 (.i 0<|.e 9 0<|.c 0<|.r 0)<|.f<|.c 0<|.r 0)<|.i 0<|.e 6 0<|.ite 0 (.i 0<|.b .neq 11 0<|.ite 0 (.i 0<|.e 10 0<|.c 0<|.r 0)<|.f<|.c 0<|.r 0)<|.sel [5,6,7,8,9,10,11,12]<|.cl 138 [(false,[7]),(true,[6,5,4]),(true,[3,2,1])] au<|.i 0<|.b .lss 1 0<|.ite 0 (.n 3<|.ite 0 (.t<|.c 0<|.r 0)<|.i 0<|.b .gtr 4 0<|.ite 0 (.c 6<|.r 6)<|.f<|.c 0<|.r 0)<|.f<|.i 0<|.b .gtr 4 0<|.ite 0 (.c 6<|.r 6)<|.f<|.c 0<|.r 0
theorem fM:aM Tryz.prog 129 Tryz.f129 bO xy wz=some ([(false,1),(true,3),(true,3),(false,1)],dP):=by kernel_rfl
def qC:List aQ:=[⟨2000001,3,⟨[bF 4 3 3,aa 20 21,aa 6 22,aa 5 18,aa 15 20,aa 14 18,aa 13 15,bF 12 2 2,aa 9 13,aa 3 11,aC 2 1 1 0,aC 1 0 0 0,(0,.p true [.d 0,.d 1,.d 2,.d 3,.d 4,.d 5,.d 6,.d 7])],[(0,.var 0 35 [.d 0,.d 1,.d 2,.d 3,.d 4,.d 5,.d 6,.d 7]),(1,.var 1 35 [.d 8,.nil,.nil,.nil,.nil,.nil,.d 9,.d 10]),(2,.row 2 3 1 14),(3,.row 3 9 1 23)],4,4,24,[(20,true),(13,false)]⟩,[]⟩,⟨3000005,2,⟨[bF 4 3 3,aa 14 18,aa 13 15,bF 12 2 2,aa 9 13,aa 3 11,aC 2 1 1 0,aC 1 0 0 0,(0,.p true [.d 0,.d 1,.d 2,.d 3,.d 4,.d 5,.d 6,.d 7])],[(0,.var 0 35 [.d 0,.d 1,.d 2,.d 3,.d 4,.d 5,.d 6,.d 7]),(1,.var 1 35 [.d 8,.nil,.nil,.nil,.nil,.nil,.d 9,.d 10]),(2,.row 2 3 1 14),(3,.row 3 9 1 19)],4,4,20,[(13,false)]⟩,[⟨true,4,0,9,1⟩]⟩]
def rk:List (Nat×Nat×Bool×List Nat):=[]
def dM:UP:=.i 1<|.a 5 0<|.jump 0 [0,2]
def gJ:UP:=.b .lss 1 4<|.ite 0 (.sel [1,2,6,11]<|.join 3 dM<|.z 1<|.po (.chk 1 2 1)<|.x 1 2 1<|.i 0<|.b .gtr 1 0<|.ite 0 (.z 4<|.x 1 6 4<|.c 0<|.po (.mk 9 1 [[0]])<|.po (.flat 0)<|.po (.app 9 1 16 5 0)<|.jump 1 [3,5,0])<|.jump 1 [0,2,3])<|.sel [1,9,10,11,12,13,14,15,16]<|.cl 80 [(true,[8,7,6,5,4,3,2,1]),(false,[0])] dF<|.c 8<|.c 2<|.c 1<|.c 0<|.ret [(true,[8,7,6,5,4,3,2,1]),(false,[0])]
def iS:UP:=.i 0<|.i 0<|.i 0<|.s #[]<|.sel [4,5,6,7,8,9,10,11]<|.cl 34 [(true,[7,6,5,4,3,2,1,0])] au<|.n 0<|.ite 0 (.i 0<|.i 0<|.i 0<|.s #[110,111,116,32,97,32,102,97,99,116,111,114]<|.c 3<|.po (.e 78 3)<|.po (.e 35 8)<|.po (.e 9 1)<|.po (.e 9 1)<|.po (.e 9 1)<|.c 7<|.c 6<|.c 5<|.ret [(true,[8,4,3,2,1,0,7,6]),(false,[5])])<|.cl 79 [(true,[9,8,7,6,5,4,3,2])] Fm<|.l 0<|.i 0<|.po (.e 9 1)<|.loop [1,0] gJ
theorem rf:aM Tryz.prog 36 Tryz.f36 bO qC rk=some ([(true,8)],iS):=by kernel_rfl
def yT:List aQ:=[⟨2000001,5,⟨[aa 19 15,aC 5 2 2 0,aa 14 14,aa 13 12,aa 12 10,aa 11 1,bF 3 1 1,(2,.p false [.nil]),aC 1 0 0 0,(0,.p true [.d 0,.d 1,.d 2,.d 3,.d 4,.d 5,.d 6,.d 7])],[(0,.var 0 35 [.d 0,.d 1,.d 2,.d 3,.d 4,.d 5,.d 6,.d 7]),(1,.row 1 3 1 16),(2,.var 2 78 [.d 17,.d 18,.d 19])],3,3,20,[(14,true)]⟩,[]⟩,⟨3000003,2,⟨[aa 13 12,aa 12 10,aa 11 1,bF 3 1 1,(2,.p false [.nil]),aC 1 0 0 0,(0,.p true [.d 0,.d 1,.d 2,.d 3,.d 4,.d 5,.d 6,.d 7])],[(0,.var 0 35 [.d 0,.d 1,.d 2,.d 3,.d 4,.d 5,.d 6,.d 7]),(1,.row 1 3 1 13)],2,2,14,[]⟩,[]⟩]
def yD:List (Nat×Nat×Bool×List Nat):=[]
def fQ:UP:=.i 1<|.a 7 0<|.jump 0 [0,5]
def mh:UP:=.b .lss 1 3<|.ite 0 (.sel [1,2,6]<|.join 5 fQ<|.z 1<|.x 3 2 1<|.i 0<|.i 0<|.s #[]<|.sel [3,4,5,6]<|.cl 74 [(true,[2,1,0])] au<|.n 0<|.ite 0 (.i 1<|.b .sub 5 0<|.z 0<|.po (.chk 1 7 0)<|.x 1 7 0<|.i 1<|.a 1 0<|.z 3<|.po (.chk 1 10 3)<|.c 0<|.po (.set 1 10 3 0 [0])<|.jump 1 [6,0,10,9,8])<|.jump 1 [0,5,4,3,2])<|.r 1
def nM:UP:=.l 2<|.po (.make 3 1 8 [.sc (.int .i64 0)] 0)<|.l 8<|.i 0<|.sel [0,1,2,10]<|.loop [0,2] mh
theorem zd:aM Tryz.prog 79 Tryz.f79 bO yT yD=some ([(true,8)],nM):=by kernel_rfl
def qJ:List aQ:=[⟨2000001,2,⟨[bF 4 2 2,aa 26 20,aa 17 19,aa 5 16,aa 10 13,aa 3 11,aC 2 1 1 0,aC 1 0 0 0,(0,.p true [.d 0,.d 1,.d 2,.d 3,.d 4,.d 5,.d 6,.d 7])],[(0,.var 0 35 [.d 0,.d 1,.d 2,.d 3,.d 4,.d 5,.d 6,.d 7]),(1,.var 1 35 [.d 8,.nil,.nil,.nil,.nil,.nil,.d 9,.d 10]),(2,.row 2 9 1 21)],3,3,22,[(19,true),(13,false)]⟩,[]⟩,⟨3000005,2,⟨[aa 5 16,bF 4 2 2,aa 10 13,aa 3 11,aC 2 1 1 0,aC 1 0 0 0,(0,.p true [.d 0,.d 1,.d 2,.d 3,.d 4,.d 5,.d 6,.d 7])],[(0,.var 0 35 [.d 0,.d 1,.d 2,.d 3,.d 4,.d 5,.d 6,.d 7]),(1,.var 1 35 [.d 8,.nil,.nil,.nil,.nil,.nil,.d 9,.d 10]),(2,.row 2 9 1 17)],3,3,18,[(13,false)]⟩,[]⟩]
def qW:List (Nat×Nat×Bool×List Nat):=[(7,7,false,[])]
def dE:UP:=.i 1<|.a 4 0<|.jump 0 [0,2]
def gg:UP:=.l 8<|.b .lss 2 0<|.ite 0 (.sel [2,3,10,14]<|.join 2 dE<|.i 1<|.a 2 0<|.c 0<|.cl 62 [(false,[0])] mu<|.cl 61 [(false,[8]),(true,[2,1,0])] au<|.i 0<|.b .geq 1 0<|.c 0<|.ite 0 (.z 9<|.x 1 10 9<|.c 0<|.po (.mk 9 1 [[0]])<|.po (.flat 0)<|.po (.app 9 1 16 10 0)<|.jump 1 [3,0])<|.jump 1 [0,8])<|.sel [2,8,9,10,11,12,13,14,15]<|.cl 63 [(true,[8,7,6,5,4,3,2,1]),(false,[0])] dF<|.i 0<|.i 0<|.i 0<|.c 11<|.c 5<|.c 4<|.c 3<|.ret [(true,[11,10,9,8,7,6,5,4]),(false,[3])]
def iB:UP:=.i 0<|.i 0<|.i 0<|.s #[]<|.sel [4,5,6,7,8,9,10,11]<|.cl 22 [(true,[7,6,5,4,3,2,1,0])] au<|.n 0<|.ite 0 (.i 0<|.i 0<|.i 0<|.s #[110,111,116,32,97,32,102,97,99,116,111,114]<|.c 3<|.po (.e 78 3)<|.po (.e 35 8)<|.po (.e 9 1)<|.po (.e 9 1)<|.po (.e 9 1)<|.c 7<|.c 6<|.c 5<|.ret [(true,[8,4,3,2,1,0,7,6]),(false,[5])])<|.po (.mk 9 1 [])<|.i 0<|.loop [0,1] gg
theorem qG:aM Tryz.prog 24 Tryz.f24 bO qJ qW=some ([(true,8)],iB):=by kernel_rfl
def wE:List aQ:=[⟨3000002,1,⟨[aa 5 6,aa 4 4,aC 3 0 0 0,aa 0 0,(1,.p true [.d 1,.d 2,.d 3])],[(0,.var 0 78 [.d 1,.d 2,.d 3])],1,1,7,[]⟩,[]⟩]
def w7:List (Nat×Nat×Bool×List Nat):=[(4,6,false,[])]
def kt:UP:=.l 6<|.b .lss 1 0<|.ite 0 (.z 2<|.x 3 8 2<|.c 2<|.c 1<|.c 0<|.c 10<|.c 9<|.c 8<|.po (.eqS false [.i,.i,.s] [2,1,0] [10,9,8])<|.c 0<|.ite 0 (.c 6<|.r 6)<|.i 1<|.a 7 0<|.jump 0 [0])<|.i (-1)<|.c 0<|.r 0
def mw:UP:=.i 0<|.i 0<|.loop [0] kt
theorem xQ:aM Tryz.prog 61 Tryz.f61 bO wE w7=some ([(false,1),(true,3)],mw):=by kernel_rfl
def lJ:List aQ:=[]
def mg:List (Nat×Nat×Bool×List Nat):=[(6,7,false,[])]
def cL:UP:=.i 0<|.i 0<|.i 0<|.s #[]<|.sel [4,5,6,7,8,9,10,11,12]<|.cl 81 [(true,[8,7,6,5,4,3,2,1])] au<|.s #[]<|.b .neq 1 0<|.ite 0 (.i 0<|.i 0<|.i 0<|.c 2<|.po (.e 78 3)<|.po (.e 35 8)<|.po (.e 9 1)<|.po (.e 9 1)<|.po (.e 9 1)<|.c 6<|.c 5<|.c 10<|.ret [(true,[7,4,3,2,1,0,6,5]),(false,[10])])<|.l 3<|.i 0<|.e 1 0<|.ite 0 (.i 0<|.i 0<|.i 0<|.s #[110,111,32,108,101,118,101,108,115]<|.c 3<|.po (.e 78 3)<|.po (.e 35 8)<|.po (.e 9 1)<|.po (.e 9 1)<|.po (.e 9 1)<|.c 7<|.c 6<|.c 5<|.ret [(true,[8,4,3,2,1,0,7,6]),(false,[5])])<|.sel [6,7,8,9,10,11,12,13,14]<|.cl 112 [(true,[8,7,6,5,4,3,2,1]),(false,[0])] cB<|.sel [6,8,13]<|.cl 5000111 [(false,[0]),(false,[2]),(false,[1])] dF<|.c 8<|.c 2<|.c 1<|.c 0<|.ret [(true,[8,7,6,5,4,3,2,1]),(false,[0])]
theorem eH:aM Tryz.prog 80 Tryz.f80 bO lJ mg=some ([(true,8),(false,1)],cL):=by kernel_rfl
def nr:List aQ:=[]
def m6:List (Nat×Nat×Bool×List Nat):=[]
def eS:UP:=.s #[]<|.cl 75 [(true,[8,7,6,5,4,3,2,1])] au<|.n 0<|.ite 0 (.s #[105,110,118,97,108,105,100,32,118,101,99,116,111,114]<|.c 0<|.r 0)<|.i 4<|.b .geq 11 0<|.ite 0 (.s #[110,111,116,32,97,110,32,97,116,111,109,105,99,32,118,101,99,116,111,114]<|.c 0<|.r 0)<|.s #[]<|.c 0<|.r 0
theorem mX:aM Tryz.prog 81 Tryz.f81 bO nr m6=some ([(true,8)],eS):=by kernel_rfl
def ua:List aQ:=[]
def ud:List (Nat×Nat×Bool×List Nat):=[]
def kB:UP:=.i 0<|.i 0<|.i 0<|.s #[]<|.sel [4,5,6]<|.cl 86 [(false,[1])] la<|.s #[102,97,99,116,111,114]<|.c 0<|.po (.mk 9 1 [[0]])<|.cl 86 [(false,[3])] la<|.i 0<|.i 0<|.i 0<|.i 2<|.i 0<|.i 0<|.i 0<|.po (.e 35 8)<|.sel [0,4,5,6,8,9,11,14]<|.cl 75 [(true,[1,7,0,6,5,4,3,2])] au<|.n 0<|.ite 0 (.i 0<|.i 0<|.i 0<|.s #[105,110,118,97,108,105,100,32,108,101,118,101,108,115]<|.c 3<|.po (.e 78 3)<|.po (.e 35 8)<|.po (.e 9 1)<|.po (.e 9 1)<|.po (.e 9 1)<|.c 7<|.c 6<|.c 5<|.ret [(true,[8,4,3,2,1,0,7,6]),(false,[5])])<|.s #[]<|.c 4<|.po (.e 35 8)<|.c 7<|.c 6<|.c 1<|.ret [(true,[5,11,0,10,9,8,7,6]),(false,[1])]
theorem vr:oK Tryz.prog 111 Tryz.f111 bO ua ud [(false,[some (78,3)],true),(false,[some (9,1)],false),(false,[some (9,1)],false)]=some kB:=by kernel_rfl
def zy:List aQ:=[]
def yu:List (Nat×Nat×Bool×List Nat):=[]
def ib:UP:=.i 0<|.i 0<|.i 0<|.s #[]<|.sel [4,5,6,7,8,9,10,11,12]<|.cl 98 [(true,[8,7,6,5,4,3,2,1]),(false,[0])] cB<|.i 0<|.i 0<|.i 0<|.po (.mk 9 1 [])<|.po (.flat 17)<|.po (.app 9 1 16 0 17)<|.s #[102,97,99,116,111,114]<|.c 0<|.po (.mk 9 1 [[0]])<|.po (.mk 9 1 [])<|.po (.flat 16)<|.po (.app 9 1 16 0 16)<|.l 17<|.i 0<|.e 1 0<|.ite 0 (.i 0<|.i 0<|.i 0<|.s #[110,111,32,108,101,118,101,108,115]<|.c 3<|.po (.e 78 3)<|.po (.e 35 8)<|.po (.e 9 1)<|.po (.e 9 1)<|.po (.e 9 1)<|.c 7<|.c 6<|.c 5<|.ret [(true,[8,4,3,2,1,0,7,6]),(false,[5])])<|.sel [3,5,7,12,13,17,18,19]<|.cl 59 [(true,[7,6,5,2,1,0,4,3])] au<|.n 0<|.ite 0 (.i 0<|.i 0<|.i 0<|.s #[105,110,118,97,108,105,100,32,108,101,118,101,108,115]<|.c 3<|.po (.e 78 3)<|.po (.e 35 8)<|.po (.e 9 1)<|.po (.e 9 1)<|.po (.e 9 1)<|.c 7<|.c 6<|.c 5<|.ret [(true,[8,4,3,2,1,0,7,6]),(false,[5])])<|.s #[]<|.c 10<|.c 7<|.c 6<|.c 0<|.ret [(true,[10,9,8,5,4,3,7,6]),(false,[0])]
theorem nT:aM Tryz.prog 63 Tryz.f63 bO zy yu=some ([(true,8),(false,1)],ib):=by kernel_rfl
def tR:List aQ:=[]
def wc:List (Nat×Nat×Bool×List Nat):=[]
def kU:UP:=.s #[]<|.cl 59 [(true,[8,7,6,5,4,3,2,1])] au<|.n 0<|.ite 0 (.s #[105,110,118,97,108,105,100,32,118,101,99,116,111,114]<|.c 0<|.r 0)<|.i 4<|.b .geq 11 0<|.ite 0 (.s #[110,111,116,32,97,110,32,97,116,111,109,105,99,32,118,101,99,116,111,114]<|.c 0<|.r 0)<|.s #[]<|.c 0<|.r 0
theorem tW:aM Tryz.prog 64 Tryz.f64 bO tR wc=some ([(true,8)],kU):=by kernel_rfl
def oc:List aQ:=[⟨2000001,5,⟨[bF 3 1 1,aa 35 16,aa 21 17,aa 20 18,aa 19 19,aa 18 2,aa 5 16,aa 14 15,aa 4 12,aa 10 9,(2,.p false [.nil]),aC 1 0 0 0,(0,.p true [.d 0,.d 1,.d 2,.d 3,.d 4,.d 5,.d 6,.d 7])],[(0,.var 0 35 [.d 0,.d 1,.d 2,.d 3,.d 4,.d 5,.d 6,.d 7]),(1,.row 1 3 1 20)],2,2,21,[(15,true),(9,false)]⟩,[]⟩,⟨3000009,2,⟨[aa 20 19,aa 19 17,aa 18 2,aa 5 20,aa 14 15,bF 3 1 1,aa 4 12,aa 10 9,(2,.p false [.nil]),aC 1 0 0 0,(0,.p true [.d 0,.d 1,.d 2,.d 3,.d 4,.d 5,.d 6,.d 7])],[(0,.var 0 35 [.d 0,.d 1,.d 2,.d 3,.d 4,.d 5,.d 6,.d 7]),(1,.row 1 3 1 13)],2,2,21,[(16,true),(15,true),(9,false)]⟩,[]⟩,⟨3000005,2,⟨[bF 3 1 1,aa 4 12,aa 10 9,(2,.p false [.nil]),aC 1 0 0 0,(0,.p true [.d 0,.d 1,.d 2,.d 3,.d 4,.d 5,.d 6,.d 7])],[(0,.var 0 35 [.d 0,.d 1,.d 2,.d 3,.d 4,.d 5,.d 6,.d 7]),(1,.row 1 3 1 13)],2,2,14,[(9,false)]⟩,[⟨true,3,0,3,1⟩]⟩]
def n0:List (Nat×Nat×Bool×List Nat):=[]
def ff:UP:=.b .lss 1 3<|.ite 0 (.z 2<|.x 8 8 2<|.i 0<|.i 0<|.i 0<|.ite 12 (.z 18<|.x 3 9 18<|.sel [0,1,2,16]<|.cl 74 [(true,[2,1,0])] au<|.n 0<|.i 1<|.a 6 0<|.jump 2 [0,2])<|.f<|.i 1<|.a 15 0<|.jump 2 [0,2])<|.ite 1 (.i 1<|.a 8 0<|.c 0<|.po (.mk 3 1 [[0]])<|.po (.flat 0)<|.po (.app 3 1 8 9 0)<|.jump 1 [5,4,6,8,0])<|.jump 1 [1,0,2,4,6]
def cd:UP:=.i 1<|.a 7 0<|.jump 0 [0,2]
def eV:UP:=.sel [0,1,6,7,8,9,10,11,12,13]<|.cl 73 [(true,[9,8,7,6,5,4,3,2])] au<|.b .lss 2 0<|.ite 0 (.sel [2,3,9]<|.join 5 cd<|.t<|.l 3<|.i 0<|.loop [0,2] ff)<|.r 2
def fG:UP:=.cl 69 [(true,[7,6,5,4,3,2,1,0])] au<|.n 0<|.ite 0 (.po (.e 3 1)<|.r 0)<|.i 0<|.po (.e 3 1)<|.loop [1,0] eV
theorem n8:aM Tryz.prog 33 Tryz.f33 bO oc n0=some ([(true,8)],fG):=by kernel_rfl
def wV:List aQ:=[⟨3000003,2,⟨[aa 7 15,bF 6 2 2,aa 5 12,aC 4 1 1 0,aC 2 0 0 0,(0,.p true [.d 0,.d 1,.d 2,.d 3,.d 4,.d 5,.d 6,.d 7]),aa 1 8],[(0,.var 0 35 [.d 0,.d 1,.d 2,.d 3,.d 4,.d 5,.d 6,.d 7]),(1,.var 1 35 [.d 9,.nil,.nil,.nil,.nil,.nil,.d 10,.d 11]),(2,.row 2 35 8 16)],3,3,17,[]⟩,[]⟩]
def xG:List (Nat×Nat×Bool×List Nat):=[]
def kH:UP:=.l 6<|.b .lss 2 0<|.ite 0 (.z 3<|.x 8 8 3<|.sel [0,1,2,3,4,5,6,7,10,11,14]<|.cl 60 [(true,[7,6,5,4,3,2,1,0]),(false,[10])] cB<|.c 7<|.c 1<|.c 0<|.po (.mk 35 8 [[7,6,5,4,3,2,1,0]])<|.po (.app 35 8 144 17 0)<|.i 1<|.a 20 0<|.jump 0 [0,2])<|.sel [2,7]<|.cl 56 [(false,[0]),(false,[1])] dF<|.i 0<|.i 0<|.i 0<|.c 11<|.c 5<|.c 4<|.c 3<|.ret [(true,[11,10,9,8,7,6,5,4]),(false,[3])]
def lW:UP:=.i 0<|.i 0<|.i 0<|.s #[]<|.po (.mk 35 8 [])<|.i 0<|.sel [0,1,6,11,12]<|.loop [0,1] kH
theorem xA:aM Tryz.prog 23 Tryz.f23 bO wV xG=some ([(true,8),(false,1)],lW):=by kernel_rfl
def nb:List aQ:=[⟨3000005,2,⟨[bF 6 2 2,aa 16 18,aa 15 15,aa 14 8,aa 12 14,aa 5 12,aC 4 1 1 0,aC 2 0 0 0,(0,.p true [.d 0,.d 1,.d 2,.d 3,.d 4,.d 5,.d 6,.d 7]),aa 1 8],[(0,.var 0 35 [.d 0,.d 1,.d 2,.d 3,.d 4,.d 5,.d 6,.d 7]),(1,.var 1 35 [.d 9,.nil,.nil,.nil,.nil,.nil,.d 10,.d 11]),(2,.row 2 35 8 19)],3,3,20,[(14,false)]⟩,[⟨true,6,0,35,8⟩]⟩]
def nq:List (Nat×Nat×Bool×List Nat):=[]
def eI:UP:=.b .lss 1 4<|.ite 0 (.z 2<|.x 1 6 2<|.sel [0,2,3,8,9]<|.cl 70 [(false,[3]),(false,[0])] au<|.i 0<|.b .lss 1 0<|.ite 0 (.i 0<|.i 0<|.i 0<|.s #[110,111,32,115,117,99,104,32,99,111,108,117,109,110]<|.c 3<|.po (.e 78 3)<|.po (.e 35 8)<|.po (.e 9 1)<|.po (.e 9 1)<|.po (.e 9 1)<|.c 7<|.c 6<|.c 5<|.ret [(true,[8,4,3,2,1,0,7,6]),(false,[5])])<|.z 2<|.x 8 7 2<|.sel [0,1,2,3,4,5,6,7,12,13]<|.cl 71 [(true,[7,6,5,4,3,2,1,0])] cB<|.c 7<|.c 1<|.c 0<|.po (.mk 35 8 [[7,6,5,4,3,2,1,0]])<|.po (.app 35 8 144 17 0)<|.i 1<|.a 20 0<|.jump 0 [0,2])<|.l 1<|.sel [0,2,7]<|.cl 72 [(false,[2]),(false,[0])] au<|.n 0<|.ite 0 (.i 0<|.i 0<|.i 0<|.s #[105,110,118,97,108,105,100,32,110,97,109,101,115]<|.c 3<|.po (.e 78 3)<|.po (.e 35 8)<|.po (.e 9 1)<|.po (.e 9 1)<|.po (.e 9 1)<|.c 7<|.c 6<|.c 5<|.ret [(true,[8,4,3,2,1,0,7,6]),(false,[5])])<|.cl 5000038 [(false,[3]),(false,[4])] dF<|.c 8<|.c 2<|.c 1<|.c 0<|.ret [(true,[8,7,6,5,4,3,2,1]),(false,[0])]
def c8:UP:=.i 0<|.i 0<|.i 0<|.s #[]<|.sel [4,5,6,7,8,9,10,11,12]<|.cl 69 [(true,[8,7,6,5,4,3,2,1])] au<|.n 0<|.ite 0 (.i 0<|.i 0<|.i 0<|.s #[110,111,116,32,97,32,100,97,116,97,32,102,114,97,109,101]<|.c 3<|.po (.e 78 3)<|.po (.e 35 8)<|.po (.e 9 1)<|.po (.e 9 1)<|.po (.e 9 1)<|.c 7<|.c 6<|.c 5<|.ret [(true,[8,4,3,2,1,0,7,6]),(false,[5])])<|.l 2<|.i 0<|.po (.e 35 8)<|.sel [0,1,2,5,10,11]<|.loop [1,0] eI
theorem eQ:aM Tryz.prog 32 Tryz.f32 bO nb nq=some ([(true,8),(false,1)],c8):=by kernel_rfl
def mQ:List aQ:=[⟨3000005,2,⟨[aa 7 17,bF 6 2 2,aa 13 14,aa 5 12,aC 4 1 1 0,aC 2 0 0 0,(0,.p true [.d 0,.d 1,.d 2,.d 3,.d 4,.d 5,.d 6,.d 7]),aa 1 8],[(0,.var 0 35 [.d 0,.d 1,.d 2,.d 3,.d 4,.d 5,.d 6,.d 7]),(1,.var 1 35 [.d 9,.nil,.nil,.nil,.nil,.nil,.d 10,.d 11]),(2,.shr 2 35 8 18)],3,3,19,[(14,false)]⟩,[⟨true,6,7,0,0⟩]⟩]
def nt:List (Nat×Nat×Bool×List Nat):=[(7,8,false,[])]
def eG:UP:=.l 4<|.b .lss 2 0<|.ite 0 (.z 3<|.x 1 6 3<|.c 0<|.sel [0,3,4,8,9]<|.cl 55 [(false,[3]),(false,[0])] au<|.c 0<|.i 0<|.b .lss 1 0<|.ite 0 (.i 0<|.i 0<|.i 0<|.s #[110,111,32,115,117,99,104,32,99,111,108,117,109,110]<|.c 3<|.po (.e 78 3)<|.po (.e 35 8)<|.po (.e 9 1)<|.po (.e 9 1)<|.po (.e 9 1)<|.c 7<|.c 6<|.c 5<|.ret [(true,[8,4,3,2,1,0,7,6]),(false,[5])])<|.z 2<|.x 8 7 2<|.po (.mk 35 8 [[7,6,5,4,3,2,1,0]])<|.po (.app 35 8 144 13 0)<|.i 1<|.a 16 0<|.jump 0 [0,2])<|.sel [2,6]<|.cl 56 [(false,[0]),(false,[1])] dF<|.i 0<|.i 0<|.i 0<|.c 11<|.c 5<|.c 4<|.c 3<|.ret [(true,[11,10,9,8,7,6,5,4]),(false,[3])]
def da:UP:=.i 0<|.i 0<|.i 0<|.s #[]<|.sel [4,5,6,7,8,9,10,11,12]<|.cl 54 [(true,[8,7,6,5,4,3,2,1])] au<|.n 0<|.ite 0 (.i 0<|.i 0<|.i 0<|.s #[110,111,116,32,97,32,100,97,116,97,32,102,114,97,109,101]<|.c 3<|.po (.e 78 3)<|.po (.e 35 8)<|.po (.e 9 1)<|.po (.e 9 1)<|.po (.e 9 1)<|.c 7<|.c 6<|.c 5<|.ret [(true,[8,4,3,2,1,0,7,6]),(false,[5])])<|.po (.mk 35 8 [])<|.i 0<|.sel [0,1,4,9,10]<|.loop [0,1] eG
theorem fk:aM Tryz.prog 20 Tryz.f20 bO mQ nt=some ([(true,8),(false,1)],da):=by kernel_rfl
def qZ:List aQ:=[⟨3000004,1,⟨[aa 13 7,aa 12 5,aa 11 0,aa 10 4,aa 4 2,aa 0 0,aa 1 1],[],0,0,8,[(4,false),(2,false)]⟩,[]⟩]
def rm:List (Nat×Nat×Bool×List Nat):=[]
def gz:UP:=.b .lss 0 2<|.ite 0 (.z 1<|.x 1 4 1<|.s #[]<|.e 1 0<|.ite 0 (.t<|.t<|.f<|.c 0<|.r 0)<|.m 2<|.i 60<|.b .gtr 1 0<|.ite 0 (.t<|.f<|.c 0<|.r 0)<|.po (.cutL 1 10 none (some 7))<|.sel [0,6,8]<|.cl 104 [(false,[0]),(false,[1])] au<|.ite 0 (.f<|.c 0<|.r 0)<|.i 1<|.a 4 0<|.jump 0 [0])<|.t<|.c 0<|.r 0
def iU:UP:=.f<|.l 2<|.b .neq 0 2<|.ite 0 (.f<|.c 0<|.r 0)<|.l 4<|.i 0<|.sel [0,1,6]<|.loop [0] gz
theorem qB:aM Tryz.prog 72 Tryz.f72 bO qZ rm=some ([(false,1),(false,1)],iU):=by kernel_rfl
def wO:List aQ:=[]
def wB:List (Nat×Nat×Bool×List Nat):=[]
def lK:UP:=.i 0<|.i 0<|.i 0<|.s #[]<|.sel [4,5]<|.cl 86 [(false,[0])] la<|.s #[100,97,116,97,46,102,114,97,109,101]<|.c 0<|.po (.mk 9 1 [[0]])<|.i 0<|.i 0<|.i 0<|.i 4<|.i 0<|.i 0<|.i 0<|.po (.e 78 3)<|.po (.e 9 1)<|.sel [0,1,5,6,7,9,11,13]<|.cl 69 [(true,[2,1,7,6,5,0,4,3])] au<|.n 0<|.ite 0 (.i 0<|.i 0<|.i 0<|.s #[114,101,115,117,108,116,32,105,115,32,116,111,111,32,108,97,114,103,101]<|.c 3<|.po (.e 78 3)<|.po (.e 35 8)<|.po (.e 9 1)<|.po (.e 9 1)<|.po (.e 9 1)<|.c 7<|.c 6<|.c 5<|.ret [(true,[8,4,3,2,1,0,7,6]),(false,[5])])<|.s #[]<|.c 5<|.po (.e 78 3)<|.po (.e 9 1)<|.c 9<|.c 8<|.c 2<|.ret [(true,[7,1,12,11,10,0,9,8]),(false,[2])]
theorem xh:oK Tryz.prog 38 Tryz.f38 bO wO wB [(false,[some (35,8)],true),(false,[some (9,1)],false)]=some lK:=by kernel_rfl
def wC:List aQ:=[]
def wR:List (Nat×Nat×Bool×List Nat):=[]
def dQ:UP:=.i 0<|.i 0<|.i 0<|.s #[]<|.sel [4,5]<|.cl 92 [(false,[1])] [(false,[some (35,8)],true)]<|.po (.mk 9 1 [])<|.po (.flat 2)<|.po (.app 9 1 16 0 2)<|.s #[100,97,116,97,46,102,114,97,109,101]<|.c 0<|.po (.mk 9 1 [[0]])<|.i 0<|.i 0<|.i 0<|.i 4<|.i 0<|.i 0<|.i 0<|.l 12<|.l 14<|.b .neq 1 0<|.ite 0 (.t<|.i 0<|.i 0<|.i 0<|.s #[105,110,118,97,108,105,100,32,110,97,109,101,115]<|.c 3<|.po (.e 78 3)<|.po (.e 35 8)<|.po (.e 9 1)<|.po (.e 9 1)<|.po (.e 9 1)<|.c 7<|.c 6<|.c 5<|.ret [(true,[8,4,3,2,1,0,7,6]),(false,[5])])<|.i 40<|.sel [0,7,8,9,11,13,15,16]<|.cl 90 [(false,[7]),(false,[0])] au<|.n 0<|.ite 0 (.i 0<|.i 0<|.i 0<|.s #[105,110,118,97,108,105,100,32,110,97,109,101,115]<|.c 3<|.po (.e 78 3)<|.po (.e 35 8)<|.po (.e 9 1)<|.po (.e 9 1)<|.po (.e 9 1)<|.c 7<|.c 6<|.c 5<|.ret [(true,[8,4,3,2,1,0,7,6]),(false,[5])])<|.c 3<|.po (.e 78 3)<|.po (.e 9 1)<|.c 7<|.c 6<|.sel [0,1,5,6,7,8,9,10]<|.cl 5000026 [(true,[2,1,7,6,5,0,4,3])] dF<|.i 0<|.i 0<|.i 0<|.c 11<|.c 5<|.c 4<|.c 3<|.ret [(true,[11,10,9,8,7,6,5,4]),(false,[3])]
theorem fJ:aM Tryz.prog 56 Tryz.f56 bO wC wR=some ([(false,1),(false,1)],dQ):=by kernel_rfl
def wM:List aQ:=[⟨2000001,10,⟨[aa 96 27,aa 81 28,aa 3 25,aC 4 1 1 0,aa 39 26,aa 38 25,aa 37 23,aa 36 2,aa 34 22,aa 2 8,aC 1 0 0 0,(0,.p true [.d 0,.d 1,.d 2,.d 3,.d 4,.d 5,.d 6,.d 7])],[(0,.var 0 35 [.d 0,.d 1,.d 2,.d 3,.d 4,.d 5,.d 6,.d 7]),(1,.var 1 35 [.d 29,.d 30,.d 31,.d 32,.d 33,.d 34,.d 35,.d 36])],2,2,37,[(26,true),(22,false),(19,false),(15,false),(12,false),(10,false),(8,false)]⟩,[]⟩,⟨6,1,⟨[aa 81 38,aa 3 25,aC 4 1 1 0,aa 39 26,aa 38 25,aa 37 23,aa 36 2,aa 34 22,aa 2 8,aC 1 0 0 0,(0,.p true [.d 0,.d 1,.d 2,.d 3,.d 4,.d 5,.d 6,.d 7])],[(0,.var 0 35 [.d 0,.d 1,.d 2,.d 3,.d 4,.d 5,.d 6,.d 7]),(1,.var 1 35 [.d 27,.d 28,.d 29,.d 30,.d 31,.d 32,.d 33,.d 34])],2,2,39,[(26,true),(22,false),(19,false),(15,false),(12,false),(10,false),(8,false)]⟩,[]⟩,⟨3000004,1,⟨[aa 38 25,aa 37 23,aa 36 2,aa 34 22,aa 2 8,aC 1 0 0 0,(0,.p true [.d 0,.d 1,.d 2,.d 3,.d 4,.d 5,.d 6,.d 7])],[(0,.var 0 35 [.d 0,.d 1,.d 2,.d 3,.d 4,.d 5,.d 6,.d 7])],1,1,26,[(22,false),(19,false),(15,false),(12,false),(10,false),(8,false)]⟩,[]⟩]
def xF:List (Nat×Nat×Bool×List Nat):=[(6,39,false,[])]
def fi:UP:=.ite 0 (.f<|.c 0<|.r 0)<|.l 4<|.i 0<|.b .gtr 1 0<|.ite 0 (.t<|.sel [4,5,6,7,8,9,10,11,12]<|.cl 34 [(true,[8,7,6,5,4,3,2,1])] au<|.n 0<|.ite 0 (.f<|.c 0<|.r 0)<|.jump 1 [0,2,10,9,8,7,6,5,4,3])<|.l 6<|.i 0<|.b .gtr 1 0<|.ite 0 (.sel [6,7,8,9,10,11,12,13,14]<|.cl 34 [(true,[8,7,6,5,4,3,2,1])] au<|.n 0<|.ite 0 (.f<|.c 0<|.r 0)<|.jump 1 [0,2,10,9,8,7,6,5,4,3])<|.f<|.jump 1 [0,7,15,14,13,12,11,10,9,8]
def fb:UP:=.i 1<|.a 12 0<|.jump 0 [0]
def kZ:UP:=.b .lss 0 2<|.ite 0 (.join 10 fb<|.z 1<|.x 8 5 1<|.i 0<|.i 0<|.i 0<|.sel [3,4,5,6,7,8,9,10,12,15,16]<|.join 1 fi<|.z 8<|.x 1 9 8<|.c 0<|.s #[]<|.e 1 0<|.c 0<|.ite 0 (.t<|.c 0<|.t<|.c 0<|.t<|.c 0<|.t<|.c 0<|.jump 2 [0])<|.po (.cutL 1 12 none (some 11))<|.z 12<|.x 1 13 12<|.c 0<|.sel [0,1,5,6,7,8,9,10,11,12,15]<|.cl 104 [(false,[1]),(false,[0])] au<|.c 0<|.ite 0 (.t<|.c 0<|.t<|.c 0<|.t<|.c 0<|.jump 2 [0])<|.cl 105 [(true,[10,9,8,7,6,5,4,3])] au<|.n 0<|.c 0<|.c 0<|.ite 0 (.t<|.c 0<|.t<|.c 0<|.jump 2 [0])<|.l 9<|.c 0<|.i 0<|.b .gtr 1 0<|.c 0<|.c 0<|.ite 0 (.t<|.c 0<|.jump 2 [0])<|.sel [8,9,10,11,12,13,14,15,16]<|.cl 77 [(true,[7,6,5,4,3,2,1,0])] au<|.i 0<|.z 0<|.x 8 10 0<|.sel [0,1,2,3,4,5,6,7,9]<|.cl 77 [(true,[7,6,5,4,3,2,1,0])] au<|.b .neq 9 0<|.c 0<|.c 0<|.jump 2 [0])<|.t<|.c 0<|.r 0
def fN:UP:=.f<|.cl 75 [(true,[8,7,6,5,4,3,2,1])] au<|.n 0<|.ite 0 (.t<|.t<|.t<|.t<|.f<|.c 0<|.r 0)<|.i 4<|.b .neq 11 0<|.ite 0 (.t<|.t<|.t<|.f<|.c 0<|.r 0)<|.l 8<|.i 1<|.b .neq 1 0<|.ite 0 (.t<|.t<|.f<|.c 0<|.r 0)<|.i 0<|.z 0<|.x 1 12 0<|.s #[100,97,116,97,46,102,114,97,109,101]<|.b .neq 1 0<|.ite 0 (.t<|.f<|.c 0<|.r 0)<|.l 16<|.l 18<|.b .neq 1 0<|.ite 0 (.f<|.c 0<|.r 0)<|.l 20<|.i 0<|.sel [0,1,21,22]<|.loop [0] kZ
theorem lS:aM Tryz.prog 69 Tryz.f69 bO wM xF=some ([(true,8)],fN):=by kernel_rfl
def Cp:List aQ:=[]
def CM:List (Nat×Nat×Bool×List Nat):=[]
def lx:UP:=.i 0<|.l 6<|.i 0<|.e 1 0<|.ite 0 (.i 0<|.c 0<|.r 0)<|.i 0<|.z 0<|.x 8 10 0<|.sel [0,1,2,3,4,5,6,7]<|.cl 77 [(true,[7,6,5,4,3,2,1,0])] au<|.c 0<|.r 0
theorem rD:aM Tryz.prog 73 Tryz.f73 bO Cp CM=some ([(true,8)],lx):=by kernel_rfl
def nZ:List aQ:=[⟨2000001,2,⟨[bF 3 1 1,aa 14 14,aa 9 13,aa 4 10,(2,.p false [.nil]),aC 1 0 0 0,(0,.p true [.d 0,.d 1,.d 2,.d 3,.d 4,.d 5,.d 6,.d 7])],[(0,.var 0 35 [.d 0,.d 1,.d 2,.d 3,.d 4,.d 5,.d 6,.d 7]),(1,.row 1 3 1 15)],2,2,16,[(13,true)]⟩,[]⟩,⟨3000003,2,⟨[aa 4 10,bF 3 1 1,(2,.p false [.nil]),aC 1 0 0 0,(0,.p true [.d 0,.d 1,.d 2,.d 3,.d 4,.d 5,.d 6,.d 7])],[(0,.var 0 35 [.d 0,.d 1,.d 2,.d 3,.d 4,.d 5,.d 6,.d 7]),(1,.row 1 3 1 11)],2,2,12,[]⟩,[]⟩]
def oA:List (Nat×Nat×Bool×List Nat):=[]
def eZ:UP:=.i 1<|.a 4 0<|.jump 0 [0,2]
def fa:UP:=.cl 57 [(true,[11,10,9,8,7,6,5,4])] au<|.b .lss 2 0<|.ite 0 (.sel [2,3,6,7,8,9,10,11,12,13]<|.join 2 eZ<|.cl 58 [(true,[9,8,7,6,5,4,3,2]),(false,[1])] au<|.ite 0 (.i 1<|.a 3 0<|.c 0<|.po (.mk 3 1 [[0]])<|.po (.flat 0)<|.po (.app 3 1 8 4 0)<|.jump 1 [4,0])<|.jump 1 [0,1])<|.r 2
def fB:UP:=.po (.mk 3 1 [])<|.i 0<|.loop [0,1] fa
theorem oz:aM Tryz.prog 21 Tryz.f21 bO nZ oA=some ([(true,8)],fB):=by kernel_rfl
def yE:List aQ:=[]
def yU:List (Nat×Nat×Bool×List Nat):=[]
def gY:UP:=.i 0<|.cl 54 [(true,[8,7,6,5,4,3,2,1])] au<|.n 0<|.ite 0 (.i (-1)<|.c 0<|.r 0)<|.l 8<|.i 0<|.e 1 0<|.ite 0 (.i 0<|.c 0<|.r 0)<|.i 0<|.z 0<|.x 8 12 0<|.l 6<|.c 0<|.r 0
theorem nP:aM Tryz.prog 57 Tryz.f57 bO yE yU=some ([(true,8)],gY):=by kernel_rfl
def pH:List aQ:=[⟨3000002,1,⟨[aa 5 11,aa 4 9,aC 2 0 0 0,(0,.p true [.d 0,.d 1,.d 2,.d 3,.d 4,.d 5,.d 6,.d 7]),aa 1 8],[(0,.var 0 35 [.d 0,.d 1,.d 2,.d 3,.d 4,.d 5,.d 6,.d 7])],1,1,12,[(9,false)]⟩,[]⟩]
def oM:List (Nat×Nat×Bool×List Nat):=[]
def fF:UP:=.l 3<|.b .lss 1 0<|.ite 0 (.z 2<|.x 8 5 2<|.z 12<|.x 3 6 12<|.i 0<|.e 2 0<|.ite 0 (.f<|.c 0<|.r 0)<|.i 1<|.a 16 0<|.jump 0 [0])<|.t<|.c 0<|.r 0
def gp:UP:=.f<|.i 0<|.sel [0,2,8]<|.loop [0] fF
theorem oN:aM Tryz.prog 58 Tryz.f58 bO pH oM=some ([(true,8),(false,1)],gp):=by kernel_rfl
end Go.Proofs.YtliknccmjjncbaaGreat
