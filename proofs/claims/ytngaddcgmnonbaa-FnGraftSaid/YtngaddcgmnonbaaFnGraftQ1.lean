/- Proved: for every input the law 'FnGraft' returns true and its arguments read behind the call as before: part 1 of its proof. No condition. -/
import Derived.WalkKit
import Derived.Lib.Hide
import Derived.WalkSpells
import Derived.Laws.OwnMore
import Derived.Deep.AppendLies
import Derived.Deep.Draws
import Derived.Maps.AppendAt
import Derived.RegionTactic
import Derived.OwnWalk
import Derived.Below
import Derived.Laws.AppendOwnNone
import Derived.Deep.QuietTactic
import Derived.BigQuiet
import Derived.StillTailTactics
import Derived.Laws.Cells
import Derived.Laws.IdiomCopy
import Derived.ChangeKeysEq
import Derived.Laws.BytesArg
import Derived.Laws.StructEq
import Derived.Laws.Tables
import Derived.Great.BuildSlice
import Derived.StillTail
import Derived.OrdersHeld
import Derived.Test.YtngaddcgmnonbaaFnGraftQ0
set_option linter.unusedVariables false
set_option linter.unusedSimpArgs false
namespace Go.Proofs.Ytngaddcgmnonbaa
open Go.RowKit
section
variable {P:Program}{N:Nat}{s:AS}{w0:Cx}{w w':World}{a:Act}{E:En}
theorem zB{args:List (Bool×List DV)}{vs:List Value}{B fr:Nat->Prop}{hfr:∀b,w.heap.size<=b->fr b}{cu:Option (Nat×Value)}{ow:Nat->Prop}{how:∀b,fr b->ow b}(hB:∀b,B b->b<w.heap.size)(ha:cL w B vs args)(hN:vs.length<=N):
 aD ⟨w,B,fr,hfr,cu,ow,how⟩ N (bM args) {tmps:=vs.toArray++Array.replicate (N-vs.toArray.size) undef,defers:=[]} w ⟨λ_=>undef,λ_=>[],λ_=>[],B⟩:=by
 refine⟨by simp;omega,rfl,⟨rfl,rfl,rfl,Nat.le_refl _,λ_ _=>rfl⟩,λi hi=>by simp[bM]at hi,λt=>?_,hB,λb hb i hi=>by simp[bM]at hi,λi hi=>by simp[bM]at hi,λi j hi=>by simp[bM]at hi,λi j hi=>by simp[bM]at hi,λi hi=>by simp[bM]at hi,λb hb=>.inl hb,λi hi=>by simp[bM]at hi,λi hi=>by simp[bM]at hi⟩;simp only[bM];split
 ·rename_i b ds hx;have hlt:t<vs.length:=by rw[ha.1];exact(List.getElem?_eq_some_iff.1 hx).1
  have hv:(vs.toArray++Array.replicate (N-vs.toArray.size) undef).getD t undef=vs[t]:=by
   simp[Array.getElem?_append,hlt]
  rw[hv];have:=ha.2 t _ _ (List.getElem?_eq_getElem hlt) hx;unfold xO at this;show cW _ _ _ _ b _ _;unfold cW
  cases b with
  |true=>obtain⟨vals,h1,h2⟩:=this;exact⟨vals,h1,ay.ofRep h2⟩
  |false=>exact ay.ofRep this
 ·trivial
def yh(tmps:Array Value):ResultVar->Sem Value
 |.tmp t=>pure (tmps.getD t undef)
 |.cell a t=>do loadVar t (<-asAddr (tmps.getD a undef))
theorem Cj(h:aD w0 N s a w E){rv:ResultVar}{x:AV}(hx:Cq P s rv=some x):∃v,(yh a.tmps rv).run P w=.ok v w/\ba w E s.lv s.c x v:=by
 cases rv with
 |tmp t=>simp only[Cq]at hx;injection hx with hx;subst hx;exact⟨_,rfl,h.slot t⟩
 |cell t ty=>
  obtain⟨u,h1,h2⟩:=zH (P:=P) h hx (h.slot t);refine⟨u,?_,h2⟩;simp only[yh]
  cases hv:a.tmps.getD t undef with
  |pointer ad=>
   rw[hv]at h1
   cases ad with
   |none=>simp[Instr.loadAt,Instr.sureAddr]at h1
   |some ad=>simpa[Instr.loadAt,Instr.sureAddr,asAddr]using h1
  |_=>rw[hv]at h1;simp[Instr.loadAt,Instr.sureAddr]at h1
def lP(P:Program)(w:World)(tmps:Array Value):List ResultVar->List Value->Prop
 |[],[]=>True
 |rv::rvs,v::vs=>(yh tmps rv).run P w=.ok v w/\lP P w tmps rvs vs
 |_,_=>False
theorem yg{tmps:Array Value}:∀{rvs:List ResultVar} {vs:List Value},lP P w tmps rvs vs->(rvs.mapM (yh tmps)).run P w=.ok vs w
 |[],[],_=>rfl
 |rv::rvs,v::vs,h=>by simp[List.mapM_cons,h.1,yg h.2]
 |[],_::_,h=>h.elim
 |_::_,[],h=>h.elim
theorem fU{fn:Func}{tmps:Array Value}{vs:List Value}(h:lP P w tmps fn.results.toList vs):∃v,(results fn tmps).run P w=.ok v w/\if vs.length=1 then vs=[v]else v=.tuple vs.toArray:=by
 have h1:(fn.results.mapM (yh tmps)).run P w=.ok vs.toArray w:=by
  rw[Array.mapM_eq_mapM_toList];simp[yg h]
 have h2:results fn tmps=(do let vs <-fn.results.mapM (yh tmps);pure (if h:vs.size=1 then vs[0]else .tuple vs)):=by
  unfold results;congr 1
 rw[h2];by_cases hl:vs.length=1
 ·match vs,hl with
  |[v],_=>exact⟨v,by simp[h1],by simp⟩
 ·refine⟨.tuple vs.toArray,by simp[h1,hl],by simp[hl]⟩
theorem wr{f:List AC->Prop}{b:Bool}{x:Option AV}(h:ML f b x):∃cs,x=some (.p b cs)/\f cs:=by
 unfold ML at h;split at h
 ·rename_i b' cs;obtain⟨rfl,h⟩:=h;exact⟨cs,rfl,h⟩
 ·exact h.elim
theorem uq{s0:AS}{E0:En}(h0:aD w0 N s0 a w E0):∀{rvs:List ResultVar} {rs:List Rs} {s:AS} {E:En},en P s0 rvs rs s->aD w0 N s a w E->gZ w E0 s0.lv s0.c w E s.lv s.c->
 ∃(vs:List Value) (fs:List (List Nat)),lP P w a.tmps rvs vs/\vs.length=rs.length/\fs.length=rs.length/\fs.flatten.Nodup/\(∀b∈fs.flatten,∃j,j<s.n/\(b∈E.m j\/b∈E.o j))/\
  ∀(j:Nat) u r f,vs[j]? =some u->rs[j]? =some r->fs[j]? =some f->r.2.2=true/\∃vals:List Value,(if r.1 then u=.agg vals.toArray else vals=[u])/\bi w 0 vals r.2.1 f/\∀x∈vals,∀b∈x.ownBlock.toList,∃j,j<s.n/\b∈E.m j
 |[],[],s,E,_,h,_=>⟨[],[],trivial,rfl,rfl,List.nodup_nil,by simp,λj u r f h1=>by simp at h1⟩
 |rv::rvs,(b,ds,dp)::rs,s,E,hd,h,hst=>by
  obtain⟨hdp,hd⟩:=hd;obtain⟨cs,hcs,s',hg,hd⟩:=wr hd;obtain⟨v,hv1,hv2⟩:=Cj h0 hcs;obtain⟨vals,hp,hcell⟩:=iA (show cW w E0 s0.lv s0.c b cs v from hv2);obtain⟨g1,g2,g3,g4,g5⟩:=hg;obtain⟨E',f,hgp⟩:=g5 w0 N a w E vals h (hcell.stay hst)
  have hst':gZ w E0 s0.lv s0.c w E' s'.lv s'.c:=by
   refine⟨λb hb=>⟨hgp.A' b (hst.A b hb).1,rfl⟩,λi st hlt hl=>?_,by rw[g2];exact hst.c⟩;obtain⟨k1,k2⟩:=hst.L i st hlt (g4 i st hl);exact⟨k1,by rw[hgp.v];exact k2⟩
  obtain⟨vs,fs,r1,r2,r3,r4,r5,r6⟩:=uq h0 hd hgp.rep hst';refine⟨v::vs,f::fs,⟨hv1,r1⟩,by simp[r2],by simp[r3],?_,?_,?_⟩
  ·rw[List.flatten_cons];refine List.nodup_append.2 ⟨hgp.own.nodup,r4,λx hx y hy e=>?_⟩;subst e;obtain⟨j,hj,hbj⟩:=r5 x hy;rcases hbj with hbj|hbj
   ·exact hgp.rep.A_m x (hgp.A x hx) j hj hbj
   ·exact hgp.o x hx j hj hbj
  ·intro x hx;rw[List.flatten_cons]at hx;rcases List.mem_append.1 hx with hx|hx
   ·exact hgp.from_ x hx
   ·obtain⟨j,hj,hbj⟩:=r5 x hx;exact⟨j,by rw[g1]at hj;exact hj,hbj.imp (hgp.m' j x) (hgp.o' j x)⟩
  ·intro j u r f' k1 k2 k3
   cases j with
   |zero=>simp at k1 k2 k3;subst k1 k2 k3;exact⟨hdp,vals,hp,hgp.own,hgp.top⟩
   |succ j=>
    obtain⟨q1,vals,q2,q3,q4⟩:=r6 j u r f' (by simpa using k1) (by simpa using k2) (by simpa using k3)
    exact⟨q1,vals,q2,q3,λx hx b hb=>by obtain⟨j,hj,h1⟩:=q4 x hx b hb;exact⟨j,by rw[g1]at hj;exact hj,hgp.m' j b h1⟩⟩
 |[],_::_,_,_,hd,_,_=>hd.elim
 |_::_,[],_,_,hd,_,_=>hd.elim
theorem CV{s0:AS}{E0:En}(h0:aD w0 N s0 a w E0){rvs:List ResultVar}{rs:List Rs}{s:AS}{E:En}(hd:en P s0 rvs rs s)(h:aD w0 N s a w E)(hst:gZ w E0 s0.lv s0.c w E s.lv s.c):
 ∃(vs:List Value) (fs:List (List Nat)),lP P w a.tmps rvs vs/\vs.length=rs.length/\fs.length=rs.length/\fs.flatten.Nodup/\(∀b∈fs.flatten,∃j,j<s.n/\(b∈E.m j\/b∈E.o j))/\
  ∀(j:Nat) u r f,vs[j]? =some u->rs[j]? =some r->fs[j]? =some f->r.2.2=true/\∃vals:List Value,(if r.1 then u=.agg vals.toArray else vals=[u])/\bi w 0 vals r.2.1 f:=by
 obtain⟨vs,fs,r1,r2,r3,r4,r5,r6⟩:=uq h0 hd h hst;refine⟨vs,fs,r1,r2,r3,r4,r5,λj u r f k1 k2 k3=>?_⟩;obtain⟨q1,vals,q2,q3,-⟩:=r6 j u r f k1 k2 k3;exact⟨q1,vals,q2,q3⟩
theorem Cd(h:aD w0 N s a w E):∀{rvs:List ResultVar} {rs:List Rs},nF P s rvs rs->
 ∃(vs:List Value),lP P w a.tmps rvs vs/\vs.length=rs.length/\∀(j:Nat) u r,vs[j]? =some u->rs[j]? =some r->r.2.2=false/\∃vals:List Value,(if r.1 then u=.agg vals.toArray else vals=[u])/\aH w (AM s E) vals r.2.1
 |[],[],_=>⟨[],trivial,rfl,λj u r h1=>by simp at h1⟩
 |rv::rvs,(b,ds,dp)::rs,hd=>by
  obtain⟨hdp,hd,hrest⟩:=hd;obtain⟨cs,hcs,hrd⟩:=wr hd;obtain⟨v,hv1,hv2⟩:=Cj h hcs;obtain⟨vals,hp,hcell⟩:=iA (show cW w E s.lv s.c b cs v from hv2);obtain⟨vs,r1,r2,r6⟩:=Cd h hrest;refine⟨v::vs,⟨hv1,r1⟩,by simp[r2],?_⟩;intro j u r k1 k2
  cases j with
  |zero=>simp at k1 k2;subst k1 k2;exact⟨hdp,vals,hp,Iq h hcell hrd⟩
  |succ j=>exact r6 j u r (by simpa using k1) (by simpa using k2)
 |[],_::_,hd=>hd.elim
 |_::_,[],hd=>hd.elim
def S6(w:World)(B:Nat->Prop):Cx:=⟨w,B,λb=>w.heap.size<=b,λ_ h=>h,none,λb=>w.heap.size<=b,λ_ h=>h⟩
theorem bi.hi{w:World}{b0 b1:Nat}{vs:List Value}{ds:List DV}{f:List Nat}(h:bi w b0 vs ds f)(hf:∀b∈f,b1<=b):bi w b1 vs ds f:=by
 induction h with
 |nil=>exact .nil
 |sc h1 _ ih=>exact .sc h1 (ih hf)
 |sl h1 h2 h3 _ _ h6 ih1 ih2=>
  refine .sl ?_ h2 h3 (ih1 λb hb=>hf b (by simp[hb])) (ih2 λb hb=>hf b (by simp[hb])) h6;refine⟨h1.1,?_⟩;rcases h1.2 with h|⟨g,cap,cur,rfl,k2,k3,k4⟩
  ·exact .inl h
  ·exact .inr ⟨g,cap,cur,rfl,hf g (by simp[Value.ownBlock]),k3,k4⟩
theorem C9.below0{w w':World}{B:Nat->Prop}(h:C9 (S6 w B) w'):Below w.heap.size w w':=⟨h.os,h.tape,h.output,h.size,λb hb=>h.block b (λhf=>Nat.lt_irrefl _ (Nat.lt_of_lt_of_le hb hf))⟩
theorem Jl{fn:Func}{B:Nat->Prop}{w w':World}{a':Act}{s:AS}{E:En}{res:List Rs}(hr:aD (S6 w B) N s a' w' E)(hq:en P s fn.results.toList res s\/nF P s fn.results.toList res):
 a'.defers=[]/\∃v,(results fn a'.tmps).run P w'=.ok v w'/\Qk w B res (.returned v) w':=by
 refine⟨hr.defers,?_⟩;rcases hq with hq|hq
 ·obtain⟨us,fs,r1,r2,r3,r4,r5,r6⟩:=CV hr hq hr gZ.refl;obtain⟨v,k1,k2⟩:=fU r1;refine⟨v,k1,v,rfl,⟨us,fs,by rw[r2]at k2;exact k2,r2,r3,r4,λj u r f e1 e2 e3=>?_⟩,hr.bel.below0⟩;obtain⟨q1,vals,q2,q3⟩:=r6 j u r f e1 e2 e3;refine⟨vals,q2,?_⟩;rw[if_pos q1];refine q3.hi λb hb=>?_
  obtain⟨j,hj,h1⟩:=r5 b (List.mem_flatten.2 ⟨f,List.mem_of_getElem? e3,hb⟩);exact h1.elim (hr.mF j hj b) (hr.oF j hj b)
 ·obtain⟨us,r1,r2,r6⟩:=Cd hr hq;obtain⟨v,k1,k2⟩:=fU r1;refine⟨v,k1,v,rfl,⟨us,List.replicate res.length [],by rw[r2]at k2;exact k2,r2,by simp,by simp,λj u r f e1 e2 e3=>?_⟩,hr.bel.below0⟩;obtain⟨q1,vals,q2,q3⟩:=r6 j u r e1 e2;have hf0:f=[]:=List.eq_of_mem_replicate (List.mem_of_getElem? e3);refine⟨vals,q2,?_⟩;rw[if_neg (by simp[q1])];refine⟨hf0,q3.mono λb hb=>?_⟩
  have hlt:b<w'.heap.size:=by
   rcases hb with hb|⟨i,hi,hnd,hb⟩
   ·exact hr.A_lt b hb
   ·exact hr.m_lt i hi b hb
  by_cases hge:w.heap.size<=b
  ·exact .inr ⟨hge,hlt,by simp⟩
  ·left;rcases hb with hb|⟨i,hi,hnd,hb⟩
   ·exact(hr.anc b hb).resolve_right hge
   ·exact absurd (hr.mF i hi b hb) hge
end
end Go.Proofs.Ytngaddcgmnonbaa
namespace Go.Proofs.Ytngaddcgmnonbaa
open Go.RowKit
section
variable {P:Program}{N:Nat}{s:AS}{o:Oper}{K:AS->Prop}
def Qo(k:Nat):Option (TypeId×Nat)->Option (List DV)->Option AV
 |some (_,k'),some e=>if k'=k then some (.p false [.rd e])else none
 |_,_=>none
def Mw(id st j:Nat):Option (TypeId×Nat)->Option Ob->Option AV
 |some (_,k'),some (.row _ _ k es _)=>if k'=k/\j<es.length then some (.p false [.elt id st k j 0])else none
 |some (_,k'),some (.arr _ _ k es)=>if k'=k/\j<es.length then some (.p false [.elt id st k j 0])else none
 |some (el,k'),some (.frz _ (.sl _ k es))=>Qo k (some (el,k')) es[j]?
 |_,_=>none
theorem QW{t t' k:Nat}{es:List (List DV)}{i:Int}(h0:0<=i):qG P s t (.d (.sl t' k es)) i=Qo k (fh P t) es[i.toNat]?:=by
 unfold qG;rw[if_pos h0]
 cases h1:fh P t with
 |none=>rfl
 |some p=>cases h2:es[i.toNat]? <;>simp[Qo,h2]
theorem RU{t id st:Nat}{i:Int}(h0:0<=i):qG P s t (.own id st) i=Mw id st i.toNat (fh P t) (s.own? id st):=by
 unfold qG;rw[if_pos h0]
 cases h1:fh P t with
 |none=>rfl
 |some p=>
  cases h2:s.own? id st with
  |none=>simp[Mw,h2]
  |some ob=>
   cases ob with
   |frz st' x=>
    cases x with
    |sc v=>simp[Mw,h2]
    |sl t' k es=>cases h3:es[i.toNat]? <;>simp[Mw,Qo,h2,h3]
   |_=>simp[Mw,h2]
end
end Go.Proofs.Ytngaddcgmnonbaa
namespace Go.Proofs.Ytngaddcgmnonbaa
open Go.RowKit
section
variable {P:Program}{s s':AS}
structure dI(s s':AS)(xs:List Operand):Prop where
 ob:s'.ob=s.ob
 n:s'.n=s.n
 sl:∀t,Operand.tmp t∈xs->s'.sl t=s.sl t
theorem dI.ev{xs:List Operand}(h:dI s s' xs){x:Operand}(hx:x∈xs):s'.ev x=s.ev x:=by
 cases x with
 |tmp t=>exact h.sl t hx
 |const v=>rfl
 |global g=>rfl
 |func f=>rfl
theorem dI.own{xs:List Operand}(h:dI s s' xs)(i st:Nat):s'.own? i st=s.own? i st:=by unfold AS.own?;rw[h.ob,h.n]
theorem dI.sub{xs ys:List Operand}(h:dI s s' xs)(hy:∀y∈ys,y∈xs):dI s s' ys:=⟨h.ob,h.n,λt ht=>h.sl t (hy _ ht)⟩
theorem rt{op:Op}(h:dI s s' op.operands.toList):hV P s' op=hV P s op:=by
 have ho:=λi st=>h.own i st
 have hoo:s'.own? =s.own?:=by funext i st;exact ho i st
 cases op<;>try rfl
 case move x=>simp only[hV,h.ev (x:=x) (by simp[Op.operands])]
 case assign x=>simp only[hV,h.ev (x:=x) (by simp[Op.operands])]
 case pick c x y=>simp only[hV,h.ev (x:=x) (by simp[Op.operands]),h.ev (x:=y) (by simp[Op.operands]),h.ev (x:=c) (by simp[Op.operands])]
 case load t x=>simp only[hV,h.ev (x:=x) (by simp[Op.operands])];unfold xV;rw[hoo]
 case fieldAddr t x f=>simp only[hV,h.ev (x:=x) (by simp[Op.operands])];unfold KB;rw[hoo]
 case field t x f=>simp only[hV,h.ev (x:=x) (by simp[Op.operands])]
 case indexAddr t x ix=>simp only[hV,h.ev (x:=x) (by simp[Op.operands]),h.ev (x:=ix) (by simp[Op.operands])];unfold qG;rw[hoo]
 case index t x ix=>simp only[hV,h.ev (x:=x) (by simp[Op.operands]),h.ev (x:=ix) (by simp[Op.operands])]
 case binOp op t x y ty=>simp only[hV,h.ev (x:=x) (by simp[Op.operands]),h.ev (x:=y) (by simp[Op.operands])]
 case unOp op t x=>simp only[hV,h.ev (x:=x) (by simp[Op.operands])]
 case convert a b x=>
  have hrd:KH s'=KH s:=by funext c;unfold KH;rw[h.ob,h.n]
  have hcv:∀y,Ki P s' a b y=Ki P s a b y:=by intro y;unfold Ki cvB;rw[hrd]
  simp only[hV,h.ev (x:=x) (by simp[Op.operands]),hcv]
 case nilCheck x=>simp only[hV,h.ev (x:=x) (by simp[Op.operands])];unfold Pd;rw[hoo]
 case extract x ix=>simp only[hV,h.ev (x:=x) (by simp[Op.operands])]
 case slice t x lo hi mx=>
  cases mx with
  |some _=>rfl
  |none=>
   have e1:s'.evI lo=s.evI lo:=by
    cases lo with
    |none=>rfl
    |some y=>simp only[AS.evI,h.ev (x:=y) (by simp[Op.operands])]
   have e2:s'.evI hi=s.evI hi:=by
    cases hi with
    |none=>rfl
    |some y=>simp only[AS.evI,h.ev (x:=y) (by simp[Op.operands])]
   simp only[hV,e1,e2,h.ev (x:=x) (by simp[Op.operands])];unfold rH;rw[hoo]
 case call c=>
  obtain⟨callee,args,ts⟩:=c;simp only[hV];unfold sq;split
  ·rename_i y t h1 h2
   have:y∈(Op.call ⟨.builtin .len,args,ts⟩).operands.toList:=by simp[Op.operands,Call.operands,<-h1];simpa using congrArg (y∈ ·) h1
   rw[h.ev this];unfold jr;rw[hoo]
  ·rename_i y z h1;have m1:y∈(Op.call ⟨.builtin .max,args,ts⟩).operands.toList:=by simp[Op.operands,Call.operands];simp[<-Array.mem_toList_iff,h1]
   have m2:z∈(Op.call ⟨.builtin .max,args,ts⟩).operands.toList:=by simp[Op.operands,Call.operands];simp[<-Array.mem_toList_iff,h1]
   rw[h.ev m1,h.ev m2]
  ·rename_i y z h1;have m1:y∈(Op.call ⟨.builtin .min,args,ts⟩).operands.toList:=by simp[Op.operands,Call.operands];simp[<-Array.mem_toList_iff,h1]
   have m2:z∈(Op.call ⟨.builtin .min,args,ts⟩).operands.toList:=by simp[Op.operands,Call.operands];simp[<-Array.mem_toList_iff,h1]
   rw[h.ev m1,h.ev m2]
  ·rfl
end
end Go.Proofs.Ytngaddcgmnonbaa
namespace Go.Proofs.Ytngaddcgmnonbaa
open Go.RowKit
inductive HK where
 |v (x:AV)
 |c (res:List Rs)
 |b (el k:Nat) (parts:List (Nat×Operand))
 |a (t:TypeId) (cs:List AC)
 |p (op:Op)
def Eh(P:Program)(w:World)(a:Act)(v:Value):Op->Prop
 |.load t x=>∀w',Below w.heap.size w w'->(Instr.loadAt t (a.eval x)).run P w'=.ok v w'
 |.build t parts=>∃us:List Value,v=.agg us.toArray/\P.built t (parts.map λx=>(x.1,a.eval x.2)).toList=some us.toArray
 |.move x=>v=a.eval x
 |.assign x=>v=a.eval x
 |.extract x ix=>∃vs:List Value,a.eval x=.tuple vs.toArray/\vs[ix]? =some v
 |.call ⟨.builtin .append,args,_⟩=>∃X Y,args=#[X,Y]/\v=a.eval X
 |_=>False
def D9:Op->Bool
 |.build _ _=>true
 |.move _=>true
 |.assign _=>true
 |.extract _ _=>true
 |.load _ _=>true
 |_=>false
def JC(h:AS)(op:Op):Prop:=D9 op=true/\∀t x,op=.load t x->∃i st off ty cs,h.ev x=.p false [.ptr i st off]/\h.own? i st=some (.var st ty cs)
def jO(rs:List Rs):AV:=match rs.map λr=>(r.1,r.2.1.map AC.d)with|[(b,cs)]=>.p b cs|l=>.tup l
def jm(a:Act)(parts:List (Nat×Operand)):List Value:=parts.flatMap λx=>(a.eval x.2).cells.toList
def dL:List AC->Option (List DV)
 |[]=>some []
 |.d x::r=>match dL r with|some xs=>some (x::xs)|none=>none
 |_::_=>none
def LJ:List (List AC)->Option (List (List DV))
 |[]=>some []
 |e::r=>match dL e,LJ r with|some x,some xs=>some (x::xs)|_,_=>none
def rq(el k:Nat)(es:List (List AC)):AV:=if es.isEmpty then .p false [.emp]else match LJ es with|some ds=>.p false [.d (.sl el k ds)]|none=>.und
def xw:AV->Bool
 |.p false [.emp]=>true
 |.p false [.nil]=>true
 |_=>false
def cU:AC->Bool
 |.d (.sc _)=>true
 |.nil=>true
 |.own _ _=>true
 |.ptr _ _ _=>true
 |.elt _ _ _ _ _=>true
 |.sub _ _ _ _ _=>true
 |.emp=>true
 |_=>false
def jo(pr:Bool)(x:AV):AV:=if pr then x else match x with
 |.p b cs=>if cs.all cU then .p b cs else .und
 |_=>.und
def oS(P:Program)(s:AS):Op->Option AV
 |.build t parts=>if N4 P t then(match et P t with|some z=>(match gt P s t parts.toList z with|some cs=>some (.p true cs)|none=>none)|none=>none)else none
 |op=>hV P s op
def sy(P:Program)(pr:Bool)(h q:AS)(o:Oper)(kd:HK)(x:AV)(q':AS):Prop:=
 (∃y,oS P h o.op=some y/\kd=.v y/\x=y/\q'=q.put o.dst (jo pr y))\/
 (∃f args ts ys res,o.op=.call ⟨.value (.func f),args,ts⟩/\aW P f ys res/\fF h args.toList ys/\res.all (·.2.2)=true/\(pr=true->dy false res 0=[])/\kd=.c res/\x=jO res/\q'=(q.pushL (dy false res q.c)).put o.dst (nY res q.n q.c))\/
 (∃t len parts el k es esq,o.op=.buildSlice t len parts/\pr=false/\fh P t=some (el,k)/\(ci P el).isSome=true/\0<k/\parts.toList.length=len/\len*k<=16777216/\ut h k parts.toList 0=some es/\ut q k parts.toList 0=some esq/\
  kd=.b el k parts.toList/\x=rq el k es/\q'=(q.push (.arr q.c el k esq)).put o.dst (.p false [.own q.n q.c]))\/
 (∃t cs,o.op=.alloc t/\pr=false/\et P t=some cs/\kd=.a t cs/\x=.und/\q'=(q.push (.var q.c t cs)).put o.dst (.p false [.ptr q.n q.c 0]))\/
 (∃y z,JC h o.op/\pr=false/\oS P h o.op=some y/\oS P q o.op=some z/\kd=.p o.op/\x=y/\q'=q.put o.dst z)\/
 (∃X Y t el k by_ c t2 es zs res,o.op=.call ⟨.builtin .append,#[X,Y],#[t,t]⟩/\pr=false/\fh P t=some (el,k)/\ci P el=some zs/\zs.length=k/\0<k/\Cs P el=some by_/\xw (h.ev X)=true/\h.ev Y=.p false [c]/\xW h c (.sl t2 k es)/\es≠[]/\jl es.flatten/\
  es.length<=maxLen/\es.length*by_<=140737488355328/\res=[(false,[.sl el k es],true)]/\kd=.c res/\x=jO res/\q'=(q.pushL (dy false res q.c)).put o.dst (nY res q.n q.c))\/
 (∃X Y t el k c t2 k2,o.op=.call ⟨.builtin .append,#[X,Y],#[t,t]⟩/\pr=false/\fh P t=some (el,k)/\xw (h.ev X)=true/\h.ev Y=.p false [c]/\xW h c (.sl t2 k2 [])/\kd=.p o.op/\x=h.ev X/\q'=q.put o.dst (q.ev X))\/
 (∃f args ts ys r,o.op=.call ⟨.value (.func f),args,ts⟩/\pr=false/\aW P f ys [r]/\fb h args.toList ys/\r.2.2=false/\kd=.v (jO [r])/\x=jO [r]/\q'=q.put o.dst (jo pr (jO [r])))
def En.plus(E:En)(m M:Nat):En:={E with A:=λb=>E.A b\/(m<=b/\b<M)}
def AN(P:Program)(m:Nat)(E:En)(L:Nat->Option Nat)(c:Nat)(a:Act)(w:World)(v:Value)(f:List Nat):HK->Prop
 |.v x=>f=[]
 |.c res=>∃vs fs,(if res.length=1 then vs=[v]else v=.tuple vs.toArray)/\ca w m (λ_=>False) vs res fs/\f=fs.flatten/\f.Nodup/\∀r∈res,r.2.2=true
 |.b el k parts=>∃g,v=.slice (some ⟨g,0,none⟩) parts.length parts.length/\f=[g]/\m<=g/\lK w g el (jm a parts).toArray
 |.a t cs=>∃g vals,v=.pointer (some ⟨g,0,none⟩)/\f=[g]/\m<=g/\lK w g t (vals:List Value).toArray/\∀w E L c,ay w E L c cs vals
 |.p op=>f=[]/\Eh P w a v op
section
variable {P:Program}{w0:Cx}{w w':World}{N m:Nat}{s h H:AS}{a:Act}{E:En}{o:Oper}
theorem ca.keep{b0:Nat}{A:Nat->Prop}(hk:∀b,b<w.heap.size->w'.heap[b]? =w.heap[b]?):∀{vs:List Value} {rs:List Rs} {fs:List (List Nat)},(∀r∈rs,r.2.2=true)->ca w b0 A vs rs fs->ca w' b0 A vs rs fs
 |[],[],[],_,_=>trivial
 |v::vs,r::rs,f::fs,hd,h=>by
  refine⟨?_,ca.keep hk (λr hr=>hd r (List.mem_cons_of_mem _ hr)) h.2⟩;obtain⟨vals,h1,h2⟩:=h.1;have hr:=hd r (List.mem_cons_self ..);rw[if_pos hr]at h2
  exact⟨vals,h1,by rw[if_pos hr];exact h2.keep λb hb=>hk b (h2.blocks b hb).2⟩
 |[],_::_,_,_,h=>by cases h
 |[],[],_::_,_,h=>by cases h
 |_::_,[],_,_,h=>by cases h
 |_::_,_::_,[],_,h=>by cases h
theorem ca.blocks{b0:Nat}{A:Nat->Prop}:∀{vs:List Value} {rs:List Rs} {fs:List (List Nat)},(∀r∈rs,r.2.2=true)->ca w b0 A vs rs fs->∀b∈fs.flatten,b0<=b/\b<w.heap.size
 |[],[],[],_,_=>by simp
 |v::vs,r::rs,f::fs,hd,h=>by
  intro b hb;rw[List.flatten_cons]at hb;rcases List.mem_append.1 hb with hb|hb
  ·obtain⟨vals,h1,h2⟩:=h.1;rw[if_pos (hd r (List.mem_cons_self ..))]at h2;exact h2.blocks b hb
  ·exact ca.blocks (λr hr=>hd r (List.mem_cons_of_mem _ hr)) h.2 b hb
 |[],_::_,_,_,h=>by cases h
 |[],[],_::_,_,h=>by cases h
 |_::_,[],_,_,h=>by cases h
 |_::_,_::_,[],_,h=>by cases h
theorem ca.lo{b0 b1:Nat}{A:Nat->Prop}(hb:b1<=b0):∀{vs:List Value} {rs:List Rs} {fs:List (List Nat)},(∀r∈rs,r.2.2=true)->ca w b0 A vs rs fs->ca w b1 A vs rs fs
 |[],[],[],_,_=>trivial
 |v::vs,r::rs,f::fs,hd,h=>by
  refine⟨?_,ca.lo hb (λr hr=>hd r (List.mem_cons_of_mem _ hr)) h.2⟩;obtain⟨vals,h1,h2⟩:=h.1;have hr:=hd r (List.mem_cons_self ..);rw[if_pos hr]at h2
  exact⟨vals,h1,by rw[if_pos hr];exact h2.lo hb⟩
 |[],_::_,_,_,h=>by cases h
 |[],[],_::_,_,h=>by cases h
 |_::_,[],_,_,h=>by cases h
 |_::_,_::_,[],_,h=>by cases h
theorem ca.parts{b0:Nat}{A:Nat->Prop}{L:Nat->Option Nat}{c:Nat}(hA:∀b,b0<=b->b<w.heap.size->E.A b):∀{vs:List Value} {rs:List Rs} {fs:List (List Nat)},(∀r∈rs,r.2.2=true)->ca w b0 A vs rs fs->pH w E L c (rs.map λr=>(r.1,r.2.1.map AC.d)) vs
 |[],[],[],_,_=>trivial
 |v::vs,r::rs,f::fs,hd,h=>by
  refine⟨?_,ca.parts hA (λr hr=>hd r (List.mem_cons_of_mem _ hr)) h.2⟩;obtain⟨vals,h1,h2⟩:=h.1;rw[if_pos (hd r (List.mem_cons_self ..))]at h2
  exact rj h1 (ay.ofRep (h2.rep.mono λb hb=>hA b (h2.blocks b hb).1 (h2.blocks b hb).2))
 |[],_::_,_,_,h=>by cases h
 |[],[],_::_,_,h=>by cases h
 |_::_,[],_,_,h=>by cases h
 |_::_,_::_,[],_,h=>by cases h
theorem wa{L:Nat->Option Nat}{c:Nat}{rs:List Rs}{vs:List Value}{v:Value}(h:pH w E L c (rs.map λr=>(r.1,r.2.1.map AC.d)) vs)(hv:if rs.length=1 then vs=[v]else v=.tuple vs.toArray):ba w E L c (jO rs) v:=by
 obtain⟨h1,h2⟩:=qu h;unfold jO;split
 ·rename_i b cs he;have hl:rs.length=1:=by have:=congrArg List.length he;simpa using this
  rw[he]at h;rw[if_pos hl]at hv;subst hv;exact h.1
 ·rename_i hne
  have:¬rs.length=1:=by
   intro e
   match rs,e with
   |[r],_=>exact hne _ _ rfl
  rw[if_neg this]at hv;exact⟨vs,hv,h1,h2⟩
theorem pa{xs:List Operand}(hal:dI h H xs)(x:AV):cA H x=cA h x:=by
 have hoo:H.own? =h.own?:=by funext i st;exact hal.own i st
 have hok:B7 H=B7 h:=by funext c;cases c<;>simp[B7,hoo]
 unfold cA;rw[hok]
theorem uw{t:TypeId}:∀{parts:List (Nat×Operand)} {z:List AC},dI h H (parts.map (·.2))->gt P H t parts z=gt P h t parts z
 |[],z,_=>rfl
 |(i,x)::r,z,hal=>by
  have e1:=hal.ev (x:=x) (by simp);simp only[gt,e1,pa hal];split
  ·split
   ·exact uw (hal.sub (λy hy=>by simp at hy ⊢;exact .inr hy))
   ·rfl
  ·rfl
theorem sC{k:Nat}:∀{parts:List (Nat×Operand)} {j:Nat},dI h H (parts.map (·.2))->ut H k parts j=ut h k parts j
 |[],j,_=>rfl
 |(i,x)::r,j,hal=>by
  have e1:=hal.ev (x:=x) (by simp);simp only[ut,e1,pa hal,sC (parts:=r) (hal.sub (λy hy=>by simp at hy ⊢;exact .inr hy))]
theorem sx{xs:List Operand}(hal:dI h H xs)(cs:List AC)(ds:List DV):G3 H cs ds=G3 h cs ds:=by
 have e0:xd H=xd h:=by funext c x;cases c<;>simp[xd,hal.ob,hal.n]
 have e1:wE H=wE h:=by
  funext c x
  induction c generalizing x with
  |nil=>cases x<;>rfl
  |cons a c ih=>cases x with
   |nil=>rfl
   |cons y x=>simp[wE,e0,ih]
 have e2:rW H=rW h:=by
  funext c x
  induction c generalizing x with
  |nil=>cases x<;>rfl
  |cons a c ih=>cases x with
   |nil=>rfl
   |cons y x=>simp[rW,e1,ih]
 have e3:xW H=xW h:=by funext c x;cases c<;>simp[xW,hal.ob,hal.n,e2]
 induction cs generalizing ds with
 |nil=>cases ds<;>rfl
 |cons a c ih=>cases ds with
  |nil=>rfl
  |cons y x=>simp[G3,e3,ih]
theorem rR:∀{xs:List Operand} {ys:List (Bool×List DV)},dI h H xs->fF h xs ys->fF H xs ys
 |[],[],_,_=>trivial
 |[],_::_,_,h=>h.elim
 |_::_,[],_,h=>h.elim
 |x::xs,y::ys,hal,hr=>by
  refine⟨?_,rR (hal.sub λz hz=>List.mem_cons_of_mem _ hz) hr.2⟩;have:=hr.1;rw[hal.ev (List.mem_cons_self ..)];split
  ·rename_i b cs he;rw[he]at this;exact⟨this.1,by rw[sx hal];exact this.2⟩
  ·rename_i hne;split at this
   ·rename_i b cs he;exact absurd he (hne b cs)
   ·exact this
theorem CD{xs:List Operand}(hal:dI h H xs)(cs:List AC)(ds:List DV):z6 H cs ds=z6 h cs ds:=by
 have e1:Ke H=Ke h:=by funext c x;cases c<;>simp[Ke,hal.ob,hal.n]
 induction cs generalizing ds with
 |nil=>cases ds<;>rfl
 |cons a c ih=>cases ds with
  |nil=>rfl
  |cons y x=>simp[z6,e1,ih]
theorem oZ:∀{xs:List Operand} {ys:List (Bool×List DV)},dI h H xs->fb h xs ys->fb H xs ys
 |[],[],_,_=>trivial
 |[],_::_,_,h=>h.elim
 |_::_,[],_,h=>h.elim
 |x::xs,y::ys,hal,hr=>by
  refine⟨?_,oZ (hal.sub λz hz=>List.mem_cons_of_mem _ hz) hr.2⟩;have:=hr.1;rw[hal.ev (List.mem_cons_self ..)];split
  ·rename_i b cs he;rw[he]at this;exact⟨this.1,by rw[CD hal];exact this.2⟩
  ·rename_i hne;split at this
   ·rename_i b cs he;exact absurd he (hne b cs)
   ·exact this
theorem D5(hr:aD w0 N h a w E){k:Nat}:∀{parts:List (Nat×Operand)} {j:Nat} {es:List (List AC)},ut h k parts j=some es->ay w E h.lv h.c es.flatten (jm a parts)/\(jm a parts).length=parts.length*k
 |[],j,es,hf=>by simp only[ut]at hf;injection hf with hf;subst hf;exact⟨ay.nil,by simp[jm]⟩
 |(i,x)::r,j,es,hf=>by
  simp only[ut]at hf;split at hf
  ·rename_i cs es' h1 h2;split at hf
   ·rename_i hl;injection hf with hf;subst hf;obtain⟨c1,_⟩:=dP hr h1 (aJ hr x);obtain⟨c2,c3⟩:=D5 hr h2;have hcat:jm a ((i,x)::r)=(a.eval x).cells.toList++jm a r:=by simp[jm]
    rw[hcat,List.flatten_cons];refine⟨c1.app c2,?_⟩;rw[List.length_append,c3,<-c1.1,hl.2,List.length_cons,Nat.succ_mul];omega
   ·cases hf
  ·cases hf
theorem BZ(hr:aD w0 N h a w E){k:Nat}:∀{parts:List (Nat×Operand)} {j:Nat} {es:List (List AC)} {done rest:List Value},ut h k parts j=some es->done.length=j*k->rest.length=parts.length*k->
 Instr.fill (λi=>some (i*k,k)) (done++rest).toArray (parts.map λx=>(x.1,a.eval x.2))=some (done++jm a parts).toArray
 |[],j,es,done,rest,hf,hd,hr'=>by
  have:rest=[]:=List.eq_nil_of_length_eq_zero (by simpa using hr');subst this
  simp[Instr.fill,jm]
 |(i,x)::r,j,es,done,rest,hf,hd,hr'=>by
  simp only[ut]at hf;split at hf
  ·rename_i cs es' h1 h2;split at hf
   ·rename_i hl;obtain⟨rfl,hl⟩:=hl;obtain⟨c1,_⟩:=dP hr h1 (aJ hr x);have hsz:(a.eval x).cells.toList.length=k:=by rw[<-c1.1];exact hl
    rw[List.length_cons,Nat.succ_mul]at hr';have e1:=BZ hr (done:=done++(a.eval x).cells.toList) (rest:=rest.drop k) h2 (by rw[List.length_append,hsz,hd,Nat.succ_mul]) (by rw[List.length_drop];omega);have hcat:jm a ((i,x)::r)=(a.eval x).cells.toList++jm a r:=by simp[jm]
    rw[List.map_cons,Instr.fill];have hsz':(a.eval x).cells.size=k:=by simpa using hsz
    have hle:i*k+(a.eval x).cells.size<=(done++rest).toArray.size:=by rw[hsz'];simp;omega
    simp only;rw[if_neg (by simp[hsz'];omega),ua hle]
    have:plug (i*k) (a.eval x).cells.toList (done++rest).toArray.toList=done++(a.eval x).cells.toList++rest.drop k:=by
     unfold plug;rw[hsz];rw[show(done++rest).toArray.toList=done++rest from rfl,<-hd,List.take_left,List.drop_length_add_append]
    rw[this,e1,hcat,List.append_assoc]
   ·cases hf
  ·cases hf
theorem M7{L:Nat->Option Nat}{c:Nat}:∀{cs:List AC} {ds:List DV} {vals:List Value},dL cs=some ds->ay w E L c cs vals->aH w E.A vals ds
 |[],ds,vals,hd,hc=>by simp only[dL]at hd;injection hd with hd;subst hd;rw[hc.nil'];exact .nil
 |x::r,ds,vals,hd,hc=>by
  cases x with
  |d y=>
   simp only[dL]at hd;split at hd
   ·rename_i xs hx;injection hd with hd;subst hd;obtain⟨u,us,rfl,c1,c2⟩:=hc.cons';exact aH.cons c1 (M7 hx c2)
   ·cases hd
  |_=>simp only[dL]at hd;cases hd
theorem Hp{L:Nat->Option Nat}{c:Nat}:∀{es:List (List AC)} {ds:List (List DV)} {vals:List Value},LJ es=some ds->ay w E L c es.flatten vals->aH w E.A vals ds.flatten/\ds.length=es.length/\∀k,(∀e∈es,e.length=k)->∀e∈ds,e.length=k
 |[],ds,vals,hd,hc=>by simp only[LJ]at hd;injection hd with hd;subst hd;rw[hc.nil'];exact⟨.nil,rfl,by simp⟩
 |e::r,ds,vals,hd,hc=>by
  simp only[LJ]at hd;split at hd
  ·rename_i x xs h1 h2;injection hd with hd;subst hd;rw[List.flatten_cons]at hc;have hl:e.length<=vals.length:=by rw[<-hc.1];simp
   have c1:ay w E L c e (vals.take e.length):=by have:=hc.take e.length;rwa [List.take_left]at this
   have c2:ay w E L c r.flatten (vals.drop e.length):=by have:=hc.drop e.length;rwa [List.drop_left]at this
   have r1:=M7 h1 c1;obtain⟨r2,r3,r4⟩:=Hp h2 c2;refine⟨?_,by simp[r3],λk hk y hy=>?_⟩
   ·have:=r1.app r2
    rwa [List.take_append_drop]at this
   ·rcases List.mem_cons.1 hy with rfl|hy
    ·have:=r1.len;have h5:=hk e (List.mem_cons_self ..);rw[List.length_take]at this;omega
    ·exact r4 k (λe he=>hk e (List.mem_cons_of_mem _ he)) y hy
  ·cases hd
end
end Go.Proofs.Ytngaddcgmnonbaa
namespace Go.Proofs.Ytngaddcgmnonbaa
open Go.RowKit
def Q3(P:Program)(m:Nat)(L:Nat->Option Nat)(c:Nat)(o:Oper)(a:Act)(w:World)(E:En)(kd:HK)(x:AV)(a':Act)(w':World):Prop:=
 ∃v f,a'=a.put o.dst v/\Below w.heap.size w w'/\(∀b∈f,w.heap.size<=b/\b<w'.heap.size)/\AN P m E L c a w' v f kd/\ba w' (E.plus m w'.heap.size) L c x v
section
variable {P:Program}{w0:Cx}{w w':World}{N m:Nat}{s h H q q':AS}{a:Act}{E:En}{o:Oper}
theorem yH{L:Nat->Option Nat}{c:Nat}(hb:Below w.heap.size w w')(hA:∀b,E.A b->b<w.heap.size):gZ w (E.plus m w.heap.size) L c w' (E.plus m w'.heap.size) L c:=by
 refine⟨λb hb'=>?_,λi st _ h=>⟨h,rfl⟩,Nat.le_refl _⟩;have hs:=hb.size;rcases hb' with h1|h1
 ·exact⟨.inl h1,hb.block b (hA b h1)⟩
 ·exact⟨.inr ⟨h1.1,by omega⟩,hb.block b h1.2⟩
theorem Dw{t:TypeId}{parts:Array (Nat×Operand)}:(parts.toList.map (·.2))=(Op.build t parts).operands.toList:=by simp[Op.operands]
theorem As{t:TypeId}{len:Nat}{parts:Array (Nat×Operand)}:(parts.toList.map (·.2))=(Op.buildSlice t len parts).operands.toList:=by simp[Op.operands]
theorem Pr{x:AV}(hx:oS P H o.op=some x):eU P o H x []:=by
 unfold oS at hx;split at hx
 ·rename_i t parts ho;split at hx
  ·rename_i h1;split at hx
   ·rename_i z h2;split at hx
    ·rename_i cs h3;injection hx with hx;subst hx;exact Fh ho h1 h2 h3
    ·cases hx
   ·cases hx
  ·cases hx
 ·exact Ji hx
theorem Fn{x:AV}(hx:oS P s o.op=some x):∀w0 N a w E,aD w0 N s a w E->∃v,(execOp a.eval o).run P w=.ok (.value v) w/\ba w E s.lv s.c x v:=by
 unfold oS at hx;split at hx
 ·rename_i t parts ho;split at hx
  ·rename_i h1;split at hx
   ·rename_i z h2;split at hx
    ·rename_i cs h3;injection hx with hx;subst hx;intro w0 N a w E h;obtain⟨us,k1,k2⟩:=od (o:=o) h1 h2 h3 h;exact⟨.agg us.toArray,tR ho k1 w,us,rfl,k2⟩
    ·cases hx
   ·cases hx
  ·cases hx
 ·exact Ig hx
theorem ij{op:Op}(hal:dI h H op.operands.toList):oS P H op=oS P h op:=by
 cases op with
 |build t parts=>simp only[oS,uw (parts:=parts.toList) (hal.sub (by rw[Dw (t:=t)];exact λ_ h=>h))]
 |_=>exact rt (P:=P) hal
theorem yj{x:AV}{v:Value}{L:Nat->Option Nat}{c:Nat}(hx:xw x=true)(hv:ba w E L c x v):∃A,v=.slice A 0 0:=by
 unfold xw at hx;split at hx
 ·exact aA hv
 ·obtain rfl:v=_:=aA hv;exact⟨none,rfl⟩
 ·cases hx
theorem D7{X Y:Operand}{t el:TypeId}{k by_ t2:Nat}{c:AC}{es:List (List DV)}{zs:List Value}(ho:o.op=.call ⟨.builtin .append,#[X,Y],#[t,t]⟩)(ht:fh P t=some (el,k))(hz:ci P el=some zs)(hzl:zs.length=k)(hk:0<k)(hby:Cs P el=some by_)
 (hX:xw (H.ev X)=true) (hY:H.ev Y=.p false [c]) (hrd:xW H c (.sl t2 k es)) (hne:es≠[]) (hfl:jl es.flatten) (h63:es.length<=maxLen) (hbytes:es.length*by_<=140737488355328) (hrep:aD w0 N H a w E):
 ∃v' w',(execOp a.eval o).run P w=.ok (.value v') w'/\Below w.heap.size w w'/\bi w' w.heap.size [v'] [.sl el k es] v'.ownBlock.toList:=by
 obtain⟨A0,hA⟩:=yj hX (aJ hrep X);have e2:=aJ hrep Y;rw[hY]at e2;obtain⟨Ad,cp,us,hv,hR,hru,hek⟩:=zQ (vZ hrep (aA e2) hrd);obtain⟨hu,hsz⟩:=mv ht;unfold ci at hz;unfold lw at hsz;unfold Cs at hby
 cases hi:P.info? el with
 |none=>simp[hi]at hsz
 |some ie=>
  simp[hi]at hsz hby
  cases hzz:ie.zero with
  |none=>simp[hi,hzz]at hz
  |some z=>
   simp[hi,hzz]at hz;have hzc:z.cells.size=k:=by rw[<-hzl,<-hz];simp
   have hpos:0<es.length:=by cases es with
    |nil=>exact absurd rfl hne
    |cons=>simp
   obtain⟨v',w',bS,hown,hbl⟩:=nW (P:=P) (w:=w) t o.type el ie z k by_ hu hi hzz hsz hby hzc hk A0 _ Ad es.length cp us hR hru.one h63 hbytes hpos;refine⟨v',w',?_,hbl,?_⟩
   ·simp only[execOp,ho,resolve,invoke,builtin,Sem.run_bind,Sem.run_pure,Result.andThen_ok,List.map_toArray,List.map_cons,List.map_nil,hA,hv,bS]
   ·have hcl:bi w' w.heap.size us es.flatten []:=(bi.flat hru hfl).keep (by simp)
    have:=bi.sl (vs:=[]) (ds:=[]) (f:=[]) hown hk hek hcl .nil (by
     rw[List.append_nil,List.append_nil]
     cases v'.ownBlock<;>simp)
    rwa [List.append_nil,List.append_nil]at this
theorem zh{X Y:Operand}{t el:TypeId}{k t2 k2:Nat}{c:AC}(ho:o.op=.call ⟨.builtin .append,#[X,Y],#[t,t]⟩)(ht:fh P t=some (el,k))(hX:xw (H.ev X)=true)(hY:H.ev Y=.p false [c])(hrd:xW H c (.sl t2 k2 []))(hrep:aD w0 N H a w E):
 (execOp a.eval o).run P w=.ok (.value (a.eval X)) w:=by
 obtain⟨A0,hA⟩:=yj hX (aJ hrep X);have e2:=aJ hrep Y;rw[hY]at e2;obtain⟨A1,c1,hv,_,_⟩:=(vZ hrep (aA e2) hrd).slShape;obtain⟨hu,hsz⟩:=mv ht;unfold lw at hsz
 cases hi:P.info? el with
 |none=>simp[hi]at hsz
 |some ie=>
  simp[hi]at hsz;have bS:=ms (P:=P) (w:=w) t o.type el ie k hu hi hsz A0 A1 c1;simp only[List.length_nil]at hv;simp only[execOp,ho,resolve,invoke,builtin,Sem.run_bind,Sem.run_pure,Result.andThen_ok,List.map_toArray,List.map_cons,List.map_nil,hA,hv,bS]
theorem Jg{L:Nat->Option Nat}{c:Nat}{t:TypeId}{cs:List AC}{vals:List Value}{b off:Nat}{x:AV}(h:AX P t cs=some x)(hc:ay w E L c cs vals)(ha:At w b off vals):
 ∃v,(∀w',w'.heap[b]? =w.heap[b]?->(Instr.loadAt t (.pointer (some ⟨b,off,none⟩))).run P w'=.ok v w')/\ba w E L c x v:=by
 unfold AX at h;split at h
 ·rename_i hg;split at h
  ·rename_i k hk;split at h
   ·rename_i hl;injection h with h;subst h;have hlen:(vals.take k).length=k:=by rw[List.length_take,<-hc.1];omega
    refine⟨.agg (vals.take k).toArray,λw' hw=>lO P hg (by rw[hlen];exact hk) ?_,vals.take k,rfl,hc.take k⟩;have:=nX (i:=0) (k:=k) (ha.keep hw);simpa using this
   ·cases h
  ·cases h
 ·rename_i hg;split at h
  ·rename_i c0 r;injection h with h;subst h;obtain⟨u,us,rfl,h1,h2⟩:=hc.cons';exact⟨u,λw' hw=>l7 P hg (by have:=(ha.keep hw) 0 u rfl;simpa using this),aI h1⟩
  ·cases h
 ·cases h
theorem L7{pr:Bool}{kd:HK}{x:AV}(hr:sy P pr h q o kd x q')(hal:dI h H o.op.operands.toList)(hrep:aD w0 N H a w (E.plus m w.heap.size))(hA:∀b,E.A b->b<w.heap.size)(hm:m<=w.heap.size):
 o.wp P a w (Q3 P m H.lv H.c o a w E kd x) (λ_ _ _=>False):=by
 rcases hr with⟨y,h1,rfl,rfl,-⟩|⟨f,args,ts,ys,res,ho,hmt,har,hdp,-,rfl,rfl,-⟩|⟨t,len,parts,el,k,es,esq,ho,-,ht,hz,hk,hl,hs,hf,-,rfl,rfl,-⟩|⟨t,cs,ho,-,hz,rfl,rfl,-⟩|⟨y,z,hpu,-,h1,-,rfl,rfl,-⟩|⟨X,Y,t,el,k,by_,c,t2,es,zs,res,ho,-,ht,hz,hzl,hk,hby,hX,hY,hrd,hne,hfl,h63,hbt,rfl,rfl,rfl,-⟩|⟨X,Y,t,el,k,c,t2,k2,ho,-,ht,hX,hY,hrd,rfl,rfl,-⟩|⟨f,args,ts,ys,r,ho,-,hmt,har,hro,rfl,rfl,-⟩
 ·rw[<-ij hal]at h1;refine Oper.wp_mono (λa' w' hp=>?_) (Pr h1 w0 N a w _ hrep);obtain⟨v,E',rfl,hb,hext,hrep',hsl⟩:=hp;refine⟨v,[],rfl,hb,by simp,rfl,?_⟩;refine hsl.stay ⟨λb hbA=>⟨?_,rfl⟩,λi st _ hl=>⟨hl,?_⟩,Nat.le_refl _⟩
  ·have hlt:=hrep'.A_lt b hbA;rcases hext.A' b hbA with h2|h2
   ·exact h2.imp id λh2=>⟨h2.1,hlt⟩
   ·exact .inr ⟨by omega,hlt⟩
  ·have hin:i<H.n:=by
    unfold AS.lv at hl;split at hl
    ·assumption
    ·cases hl
   exact((hext.same i hin).1).symm
 ·have hdp':∀r∈res,r.2.2=true:=λr hx=>by simpa using List.all_eq_true.1 hdp r hx
  unfold Oper.wp;rw[lj ho hmt.1,Oper.upon_enter];have har':fF H args.toList ys:=rR (hal.sub (λy hy=>by rw[ho];simp[Op.operands,Call.operands];right;simpa using hy)) har;refine(hmt.2 w (AM H (E.plus m w.heap.size)) _ (λb hb=>?_) (n8 hrep har')).mono ?_
  ·rcases hb with hb|⟨i,hi,_,hb⟩
   ·exact hrep.A_lt b hb
   ·exact hrep.m_lt i hi b hb
  ·rintro e w' ⟨v,rfl,⟨vs,fs,hv,hl1,hl2,hnd,hrr⟩,hb⟩;have hq:ca w' w.heap.size (λ_=>False) vs res fs:=xy hl1 hl2 hrr (.inr hdp');refine⟨v,fs.flatten,rfl,hb,ca.blocks hdp' hq,⟨vs,fs,hv,ca.lo hm hdp' hq,rfl,hnd,hdp'⟩,?_⟩;exact wa (ca.parts (E:=E.plus m w'.heap.size) (b0:=w.heap.size) (λb h1 h2=>Or.inr ⟨by omega,h2⟩) hdp' hq) hv
 ·have hal':=hal;rw[ho,<-As]at hal';rw[<-sC hal']at hf;obtain⟨hu,hsz⟩:=mv ht;obtain⟨zs,hz⟩:=Option.isSome_iff_exists.1 hz;obtain⟨hl1,hl2⟩:=rS hf;obtain⟨hc1,hc2⟩:=D5 hrep hf
  have bS:(execOp a.eval o).run P w=.ok (.value (.slice (some ⟨w.heap.size,0,none⟩) len len)) (w.alloc (.cells (jm a parts.toList).toArray el)):=by
   unfold ci at hz;unfold lw at hsz
   cases hi:P.info? el with
   |none=>simp[hi]at hsz
   |some ie=>
    simp[hi]at hsz
    cases hzz:ie.zero with
    |none=>simp[hi,hzz]at hz
    |some z=>
     rcases Nat.eq_zero_or_pos len with h0|h0
     ·subst h0
      obtain rfl:parts=#[]:=by
       have hp:parts.toList=[]:=List.eq_nil_of_length_eq_zero hl;cases parts;simp_all
      simp[execOp,ho,Instr.buildSlice,run_underlying hu,sizeOf,typeInfo,hi,hsz,Instr.fill,newRow,jm];rw[show Array.map (λ(_:Nat)=>(default:Value)) (Array.range 0)=#[]from Array.ext (by simp) (λi h1 h2=>by simp at h1)]
     ·obtain⟨us,e1,e2⟩:=C7 (w:=w) (a:=a) hrep (done:=[]) (rest:=((Array.range (len*k)).map (z.cells[· % z.cells.size]!)).toList) hf (by simp) (by simp[hl])
      have hus:us=jm a parts.toList:=by
       have h1:=BZ (a:=a) (k:=k) hrep hf (done:=[]) (rest:=((Array.range (len*k)).map (z.cells[· % z.cells.size]!)).toList) (by simp) (by simp[hl])
       rw[e1]at h1;simpa using h1
      subst hus
      have hr:=run_buildSlice (P:=P) w t el len (parts.map λx=>(x.1,a.eval x.2)) (jm a parts.toList).toArray ie z hu hi hzz (by rw[hsz];omega) (by rw[hsz];exact Nat.ne_of_gt (Nat.mul_pos h0 hk)) (by
       rw[hsz];have e3:=e1;rw[List.nil_append,List.nil_append,Array.toArray_toList]at e3
       rw[<-e3];simp)
      simp only[execOp,ho];rw[Sem.run_bind];rw[show(parts.map λ(x:Nat×Operand)=>match x with|(i,x)=>(i,a.eval x))=(parts.map λx=>(x.1,a.eval x.2))from rfl,hr];rfl
  unfold Oper.wp;rw[bS,Oper.upon_value];have hb:Below w.heap.size w (w.alloc (.cells (jm a parts.toList).toArray el)):=(Below.refl _ _).alloc (Nat.le_refl _) _;refine⟨_,[w.heap.size],rfl,hb,by simp,⟨w.heap.size,by rw[hl],rfl,hm,lK.new _ _ _⟩,?_⟩;unfold rq;split
  ·rename_i hem;have:len=0:=by rw[<-hl,<-hl1];simpa using hem
   subst this;exact aI ⟨_,rfl⟩
  split
  ·rename_i ds hds;have hc3:=hc1.stay (yH (m:=m) (L:=H.lv) (c:=H.c) hb hA);obtain⟨r1,r2,r3⟩:=Hp hds hc3;refine aI ?_;have hlen:ds.length=len:=by rw[r2,hl1,hl]
   rcases Nat.eq_zero_or_pos len with h0|h0
   ·have:ds=[]:=List.eq_nil_of_length_eq_zero (by omega);subst this;rw[h0];exact aH.sl0 (Nat.zero_le _) .nil
   ·refine aH.sl (.inr ⟨hm,by simp⟩) hlen.symm h0 (Nat.le_refl _) ?_ hk (r3 k hl2) r1 ?_ .nil
    ·have:len*1<=len*k:=Nat.mul_le_mul_left _ hk;unfold maxLen;omega
    ·simpa using nE (lK.new w el (jm a parts.toList).toArray) 0
  ·trivial
 ·unfold et at hz;split at hz
  ·rename_i vs hz0;obtain⟨zz,e1,e2⟩:=y7 hz0 w
   have bS:(execOp a.eval o).run P w=.ok (.value (.pointer (some ⟨w.heap.size,0,none⟩))) (w.alloc (.cells vs.toArray t)):=by
    simp[execOp,ho,Instr.alloc,e1,newVar,newRow,e2]
   unfold Oper.wp;rw[bS,Oper.upon_value];have hb:Below w.heap.size w (w.alloc (.cells vs.toArray t)):=(Below.refl _ _).alloc (Nat.le_refl _) _;exact⟨_,[w.heap.size],rfl,hb,by simp,⟨w.heap.size,vs,rfl,rfl,hm,lK.new _ _ _,λ_ _ _ _=>zI hz⟩,trivial⟩
  ·cases hz
 ·have hal':=hal
  cases hop:o.op with
  |build t parts=>
   rw[<-ij hal,hop]at h1;simp only[oS]at h1;split at h1
   ·rename_i g1;split at h1
    ·rename_i zz g2;split at h1
     ·rename_i cs g3;injection h1 with h1;subst h1;obtain⟨us,b1,b2⟩:=od (o:=o) g1 g2 g3 hrep;unfold Oper.wp;rw[tR hop b1 w,Oper.upon_value];exact⟨_,[],rfl,Below.refl _ _,by simp,⟨rfl,us,rfl,b1⟩,us,rfl,b2⟩
     ·cases h1
    ·cases h1
   ·cases h1
  |move u=>
   rw[hop]at h1 hal';simp only[oS,hV]at h1;injection h1 with h1;have e:=aJ hrep u;rw[hal'.ev (x:=u) (by simp[Op.operands]),h1]at e;unfold Oper.wp;have bS:(execOp a.eval o).run P w=.ok (.value (a.eval u)) w:=by simp[execOp,hop]
   rw[bS,Oper.upon_value]
   exact⟨_,[],rfl,Below.refl _ _,by simp,⟨rfl,rfl⟩,e⟩
  |assign u=>
   rw[hop]at h1 hal';simp only[oS,hV]at h1;injection h1 with h1;have e:=aJ hrep u;rw[hal'.ev (x:=u) (by simp[Op.operands]),h1]at e;unfold Oper.wp;have bS:(execOp a.eval o).run P w=.ok (.value (a.eval u)) w:=by simp[execOp,hop]
   rw[bS,Oper.upon_value]
   exact⟨_,[],rfl,Below.refl _ _,by simp,⟨rfl,rfl⟩,e⟩
  |extract u ix=>
   rw[hop]at h1 hal';simp only[oS,hV]at h1;have e:=aJ hrep u;rw[hal'.ev (x:=u) (by simp[Op.operands])]at e;unfold JQ at h1;split at h1
   ·rename_i xs hxs;split at h1
    ·rename_i b cs hb;injection h1 with h1;subst h1;rw[hxs]at e;obtain⟨vs,e1,e2,e3⟩:=e;have hlt:ix<vs.length:=by rw[<-e2];exact(List.getElem?_eq_some_iff.1 hb).1
     have hg:=List.getElem?_eq_getElem hlt;unfold Oper.wp
     have bS:(execOp a.eval o).run P w=.ok (.value vs[ix]) w:=by
      simp[execOp,hop,e1,Instr.extract,hlt]
     rw[bS,Oper.upon_value];exact⟨_,[],rfl,Below.refl _ _,by simp,⟨rfl,vs,e1,hg⟩,e3 ix b cs _ hb hg⟩
    ·cases h1
   ·cases h1
  |load t u=>
   obtain⟨i,st,off,ty,cs,e1,e2⟩:=hpu.2 t u hop;rw[hop]at h1 hal';rw[<-ij hal']at h1;simp only[oS,hV]at h1;have eu:H.ev u=.p false [.ptr i st off]:=by rw[hal'.ev (x:=u) (by simp[Op.operands]),e1]
   have eo:H.own? i st=some (.var st ty cs):=by rw[<-e2];unfold AS.own?;rw[hal'.ob,hal'.n]
   obtain⟨hi,hob,hl⟩:=af eo;have ho:=hrep.obj i hi;rw[hob]at ho;obtain⟨g,vals,_,q1,q2,_,_,hB,hcs⟩:=ho;have ev:=aJ hrep u;rw[eu]at ev;obtain⟨g',q3,q4⟩:=(aA ev).2 hl;rw[q1]at q3;injection q3 with q3;injection q3 with q3;injection q3 with q3;subst q3;have hlt:g<w.heap.size:=hrep.m_lt i hi g (by rw[q2];simp);rw[eu]at h1;simp only[xV,eo]at h1;obtain⟨v,hv,hs⟩:=Jg h1 (hcs.drop off) (nE hB off)
   have bS:(execOp a.eval o).run P w=.ok (.value v) w:=by
    have:=hv w rfl;simp only[execOp,hop,q4];simp[this]
   unfold Oper.wp;rw[bS,Oper.upon_value]
   refine⟨v,[],rfl,Below.refl _ _,by simp,⟨rfl,λw' hw=>by rw[q4];exact hv w' (hw.block g hlt)⟩,hs⟩
  |_=>rw[hop]at hpu;cases hpu.1
 ·have hal':=hal;rw[ho]at hal';have eX:H.ev X=h.ev X:=hal'.ev (x:=X) (by simp[Op.operands,Call.operands]);have eY:H.ev Y=h.ev Y:=hal'.ev (x:=Y) (by simp[Op.operands,Call.operands]);rw[<-eX]at hX;rw[<-eY]at hY;have hrd':xW H c (.sl t2 k es):=by have:=sx hal' [c] [.sl t2 k es];simp only[G3,and_true]at this;rw[this];exact hrd
  obtain⟨v',w',bS,hb,hown⟩:=D7 ho ht hz hzl hk hby hX hY hrd' hne hfl h63 hbt hrep;unfold Oper.wp;rw[bS,Oper.upon_value];have hq:ca w' w.heap.size (λ_=>False) [v'] [(false,[.sl el k es],true)] [v'.ownBlock.toList]:=⟨⟨[v'],rfl,hown⟩,trivial⟩;have hd':∀r∈[(false,[DV.sl el k es],true)],r.2.2=true:=by simp
  refine⟨v',v'.ownBlock.toList,rfl,hb,hown.blocks,⟨[v'],[v'.ownBlock.toList],rfl,ca.lo hm hd' hq,by simp,by cases v'.ownBlock<;>simp,hd'⟩,?_⟩;exact wa (ca.parts (E:=E.plus m w'.heap.size) (b0:=w.heap.size) (λb h1 h2=>Or.inr ⟨by omega,h2⟩) hd' hq) rfl
 ·have hal':=hal;rw[ho]at hal';have eX:H.ev X=h.ev X:=hal'.ev (x:=X) (by simp[Op.operands,Call.operands]);have eY:H.ev Y=h.ev Y:=hal'.ev (x:=Y) (by simp[Op.operands,Call.operands]);have hX':=hX;have hY':=hY;rw[<-eX]at hX';rw[<-eY]at hY';have hrd':xW H c (.sl t2 k2 []):=by have:=sx hal' [c] [.sl t2 k2 []];simp only[G3,and_true]at this;rw[this];exact hrd
  have bS:=zh (P:=P) ho ht hX' hY' hrd' hrep;unfold Oper.wp;rw[bS,Oper.upon_value];have e:=aJ hrep X;rw[eX]at e;exact⟨_,[],rfl,Below.refl _ _,by simp,⟨rfl,by rw[ho];exact⟨X,Y,rfl,rfl⟩⟩,e⟩
 ·unfold Oper.wp;rw[lj ho hmt.1,Oper.upon_enter];have har':fb H args.toList ys:=oZ (hal.sub (λy hy=>by rw[ho];simp[Op.operands,Call.operands];right;simpa using hy)) har;refine(hmt.2 w (E.plus m w.heap.size).A _ (λb hb=>hrep.A_lt b hb) (iG hrep har')).mono ?_;rintro e w' ⟨v,rfl,⟨vs,fs,hv,hl1,hl2,hnd,hrr⟩,hb⟩;refine⟨v,[],rfl,hb,by simp,rfl,?_⟩;have hv:vs=[v]:=by simpa using hv
  subst hv
  match fs,hl2 with
  |[f0],_=>
   obtain⟨vals,h1,h2⟩:=hrr 0 v r f0 rfl rfl rfl;rw[hro]at h2;simp only[Bool.false_eq_true,if_false]at h2
   have h3:aH w' (E.plus m w'.heap.size).A vals r.2.1:=h2.2.mono λb hb'=>by
    have hs:=hb.size;rcases hb' with(h|h)|h
    ·exact .inl h
    ·exact .inr ⟨h.1,by omega⟩
    ·exact .inr ⟨by omega,h.2.1⟩
   exact wa (rs:=[r]) (vs:=[v]) (v:=v) ⟨rj h1 (ay.ofRep h3),trivial⟩ (by simp)
end
end Go.Proofs.Ytngaddcgmnonbaa
namespace Go.Proofs.Ytngaddcgmnonbaa
open Go.RowKit
def Ud:Option Bool->AV
 |some b=>.p false [.d (.sc (.bool b))]
 |none=>.tup []
def IF(P:Program)(N:Nat)(pr:Bool)(ops:Array Oper)(h q:AS)(o:Oper)(kd:HK)(x:AV)(q':AS):Option (Nat×Bool)->Prop
 |none=>sy P pr h q o kd x q'
 |some (g,want)=>∃t b,iM ops g=some t/\t<N/\h.sl t=Ud b/\if b=some want then sy P pr h q o kd x q' else(kd=.v (.tup [])/\x=.tup []/\q'=q.put o.dst (jo pr (.tup [])))
def fw(P:Program)(N:Nat)(pr:Bool)(ops:Array Oper):List Oper->AS->AS->List HK->List AV->AS->Prop
 |[],h,q,[],[],q'=>q'=q
 |o::r,h,q,kd::kds,x::xs,q'=>(∃d,o.dst=some d/\d<N)/\∃q1,IF P N pr ops h q o kd x q1 o.guard/\fw P N pr ops r (h.put o.dst x) q1 kds xs q'
 |_,_,_,_,_,_=>False
def kT(s:AS):List Oper->List AV->AS
 |o::l,x::xs=>kT (s.put o.dst x) l xs
 |_,_=>s
def dk(l:List Oper):List Nat:=l.filterMap (·.dst)
def cE(q:AS)(ds:List Nat):AS:={q with sl:=λt=>if ds.contains t then .und else q.sl t}
section
variable {P:Program}{w0:Cx}{w w':World}{N m:Nat}{s h H q q':AS}{a:Act}{E:En}{o:Oper}{pr:Bool}{ops:Array Oper}
theorem kP:∀{l:List Oper} {xs:List AV} {s:AS},(kT s l xs).ob=s.ob/\(kT s l xs).n=s.n/\(kT s l xs).c=s.c
 |[],xs,s=>by cases xs<;>exact⟨rfl,rfl,rfl⟩
 |o::l,[],s=>⟨rfl,rfl,rfl⟩
 |o::l,x::xs,s=>by
  obtain⟨h1,h2,h3⟩:=kP (l:=l) (xs:=xs) (s:=s.put o.dst x);exact⟨h1.trans (AS.put_ob ..),h2.trans (AS.put_n ..),h3.trans (AS.put_c ..)⟩
theorem yo{d:Option Nat}{x:AV}{t:Nat}(h:d≠some t):(s.put d x).sl t=s.sl t:=by
 cases d with
 |none=>rfl
 |some d=>exact az _ _ (λe=>h (by rw[e]))
theorem og:∀{l:List Oper} {xs:List AV} {s:AS} {t:Nat},(∀o∈l,o.dst≠some t)->(kT s l xs).sl t=s.sl t
 |[],xs,s,t,_=>by cases xs<;>rfl
 |o::l,[],s,t,_=>rfl
 |o::l,x::xs,s,t,h=>by
  rw[kT,og λo ho=>h o (List.mem_cons_of_mem _ ho)];exact yo (h o (List.mem_cons_self ..))
theorem sk:∀{l:List Oper} {xs:List AV} {s:AS} {t j:Nat} {o:Oper} {x:AV},(dk l).Nodup->l[j]? =some o->xs[j]? =some x->o.dst=some t->(kT s l xs).sl t=x
 |[],xs,s,t,j,o,x,_,h,_,_=>by simp at h
 |o'::l,[],s,t,j,o,x,_,_,h,_=>by simp at h
 |o'::l,x'::xs,s,t,j,o,x,hnd,h1,h2,h3=>by
  rw[kT]
  have hnd':(dk l).Nodup:=by
   unfold dk at hnd ⊢;rw[List.filterMap_cons]at hnd;split at hnd
   ·exact hnd
   ·exact(List.nodup_cons.1 hnd).2
  cases j with
  |zero=>
   simp at h1 h2;subst h1 h2;rw[og]
   ·rw[h3];exact ab _ _ _
   ·intro o2 ho2 he;unfold dk at hnd;rw[List.filterMap_cons,h3]at hnd
    exact(List.nodup_cons.1 hnd).1 (List.mem_filterMap.2 ⟨o2,ho2,he⟩)
  |succ j=>exact sk hnd' (by simpa using h1) (by simpa using h2) h3
theorem iy:∀{l:List Oper} {h q q':AS} {kds:List HK} {xs:List AV},fw P N pr ops l h q kds xs q'->∀(i:Nat) o,l[i]? =some o->∃kd x qi qi',kds[i]? =some kd/\xs[i]? =some x/\(∃d,o.dst=some d/\d<N)/\IF P N pr ops (kT h (l.take i) xs) qi o kd x qi' o.guard
 |[],h,q,q',kds,xs,_,i,o,ho=>by simp at ho
 |o'::l,h,q,q',[],xs,hh,i,o,ho=>hh.elim
 |o'::l,h,q,q',kd::kds,[],hh,i,o,ho=>hh.elim
 |o'::l,h,q,q',kd::kds,x::xs,hh,i,o,ho=>by
  obtain⟨hd,q1,h1,h2⟩:=hh
  cases i with
  |zero=>simp at ho;subst ho;exact⟨kd,x,q,q1,rfl,rfl,hd,h1⟩
  |succ i=>
   obtain⟨kd',x',qi,qi',k1,k2,k3,k4⟩:=iy h2 i o (by simpa using ho);exact⟨kd',x',qi,qi',by simpa using k1,by simpa using k2,k3,by rw[List.take_succ_cons,kT];exact k4⟩
def D8(P:Program)(m:Nat)(E:En)(L:Nat->Option Nat)(c:Nat)(a:Act)(w:World):List Oper->List HK->List AV->List (List Nat)->Prop
 |[],[],[],[]=>True
 |o::l,kd::kds,x::xs,f::fs=>(∀d,o.dst=some d->AN P m E L c a w (a.tmps.getD d undef) f kd/\ba w (E.plus m w.heap.size) L c x (a.tmps.getD d undef))/\D8 P m E L c a w l kds xs fs
 |_,_,_,_=>False
def JT(ops:Array Oper):List Oper->Prop
 |[]=>True
 |o::r=>(∀t∈o.looksAt ops,t∉dk (o::r))/\JT ops r
theorem sX{ds:List Nat}{x:Ob}:(cE q ds).push x=cE (q.push x) ds:=rfl
theorem wl{ds:List Nat}:∀{l:List Ob} {q:AS},(cE q ds).pushL l=cE (q.pushL l) ds
 |[],q=>rfl
 |x::l,q=>by rw[AS.pushL,AS.pushL,sX,wl]
theorem zq(h:aD w0 N s a w E){sl':Nat->AV}(hs:∀t,ba w E s.lv s.c (sl' t) (a.tmps.getD t undef)):aD w0 N {s with sl:=sl'} a w E:=
 ⟨h.size,h.defers,h.bel,h.obj,hs,h.A_lt,h.A_m,h.A_o,h.mm,h.oo,h.m_lt,h.anc,h.mF,h.oF⟩
theorem Dl{L L':Nat->Option Nat}{c c':Nat}{E1 E2:En}{x:AC}{u:Value}(h:dM w E1 L c x u)(hs:cU x=true)(hL:∀i st,st<c->L' i=some st->L i=some st/\E2.v i=E1.v i)(hc:c<=c'):dM w E2 L' c' x u:=by
 cases x with
 |d y=>
  cases y with
  |sc v=>obtain⟨rfl,hv⟩:=aH.scOf h;exact aH.sc hv .nil
  |sl=>simp[cU]at hs
 |nil=>exact h
 |own i st=>exact⟨Nat.lt_of_lt_of_le h.1 hc,λhl=>by obtain⟨h1,h2⟩:=hL i st h.1 hl;rw[h2];exact h.2 h1⟩
 |ptr i st off=>exact⟨Nat.lt_of_lt_of_le h.1 hc,λhl=>by obtain⟨h1,h2⟩:=hL i st h.1 hl;rw[h2];exact h.2 h1⟩
 |elt i st kk j off=>exact⟨Nat.lt_of_lt_of_le h.1 hc,λhl=>by obtain⟨h1,h2⟩:=hL i st h.1 hl;rw[h2];exact h.2 h1⟩
 |sub i st kk lo n=>exact⟨Nat.lt_of_lt_of_le h.1 hc,λhl=>by obtain⟨h1,h2⟩:=hL i st h.1 hl;rw[h2];exact h.2 h1⟩
 |emp=>exact h
 |rd=>simp[cU]at hs
theorem Hi{L L':Nat->Option Nat}{c c':Nat}{E2:En}{x:AV}{v:Value}(h:ba w E L c x v)(hL:∀i st,st<c->L' i=some st->L i=some st/\E2.v i=E.v i)(hc:c<=c')(hpr:pr=true->∀b,E.A b->E2.A b):ba w E2 L' c' (jo pr x) v:=by
 unfold jo;split
 ·rename_i hp;exact h.stay ⟨λb hb=>⟨hpr hp b hb,rfl⟩,hL,hc⟩
 ·split
  ·rename_i b cs;split
   ·rename_i hall;obtain⟨vals,h1,h2⟩:=iA (show cW w E L c b cs v from h);exact rj h1 ⟨h2.1,λj x u hx hu=>Dl (h2.2 j x u hx hu) (List.all_eq_true.1 hall x (List.mem_of_getElem? hx)) hL hc⟩
   ·trivial
  ·trivial
theorem AR:∀{ds:List DV} {c b0:Nat} {vals:List Value} {f:List Nat},jA false ds c=[]->bi w b0 vals ds f->f=[]
 |[],c,b0,vals,f,_,h=>by cases h;rfl
 |.sc v::ds,c,b0,vals,f,h,ho=>by cases ho with|sc _ ho=>exact AR (show jA false ds c=[]from h) ho
 |.sl t k es::ds,c,b0,vals,f,h,_=>by simp[jA]at h
theorem yB{A:Nat->Prop}{b0:Nat}:∀{rs:List Rs} {vs:List Value} {fs:List (List Nat)} {c:Nat},(∀r∈rs,r.2.2=true)->dy false rs c=[]->ca w b0 A vs rs fs->fs.flatten=[]
 |[],[],[],_,_,_,_=>rfl
 |(b,ds,dp)::rs,v::vs,f::fs,c,hd,h,hq=>by
  have hdp:dp=true:=hd _ (List.mem_cons_self ..);subst hdp;simp only[dy,List.append_eq_nil_iff]at h;obtain⟨vals,_,h2⟩:=hq.1;have h2:bi w b0 vals ds f:=h2
  rw[List.flatten_cons,AR h.1 h2,yB (λr hr=>hd r (List.mem_cons_of_mem _ hr)) h.2 hq.2];rfl
 |[],_::_,_,_,_,_,h=>by cases h
 |[],[],_::_,_,_,_,h=>by cases h
 |_::_,[],_,_,_,_,h=>by cases h
 |_::_,_::_,[],_,_,_,h=>by cases h
theorem oB{ds:List Nat}{d:Nat}{x:AV}(hd:d∉ds)(h:aD w0 N (cE q (d::ds)) a w E)(hx:ba w E q.lv q.c x (a.tmps.getD d undef)):aD w0 N (cE (q.put (some d) x) ds) a w E:=by
 have:=zq h (sl':=λt=>if ds.contains t then .und else(q.put (some d) x).sl t) (λt=>?_)
 ·exact this
 ·split
  ·trivial
  ·rename_i ht;by_cases e:t=d
   ·subst e;simp only[AS.put,ab];exact hx
   ·simp only[AS.put,az _ _ e];have:=h.slot t;simp only[cE]at this;rw[if_neg (by simp only[List.contains_cons];simp[e];simpa using ht)]at this;exact this
theorem fI{s0:AS}(hw:w0.heap.size<=m):∀{l:List Oper} {h q q':AS} {kds:List HK} {xs:List AV} {fs:List (List Nat)} {Eq:En},fw P N pr ops l h q kds xs q'->(dk l).Nodup->JT ops l->D8 P m E s0.lv s0.c a w l kds xs fs->
 aD w0 N (cE q (dk l)) a w Eq->(∀i st,st<s0.c->q.lv i=some st->s0.lv i=some st/\Eq.v i=E.v i)->s0.c<=q.c->(pr=true->∀b,(E.plus m w.heap.size).A b->Eq.A b)->
 fs.flatten.Nodup->(pr=true\/∀b∈fs.flatten,¬Eq.A b)->(∀b∈fs.flatten,b<w.heap.size/\∀j,j<q.n->b∉Eq.m j/\b∉Eq.o j)->∃E',aD w0 N q' a w E'
 |[],h,q,q',kds,xs,fs,Eq,hh,_,_,_,hr,_,_,_,_,_,_=>by
  cases kds with
  |cons=>exact hh.elim
  |nil=>cases xs with
   |cons=>exact hh.elim
   |nil=>
    obtain rfl:q'=q:=hh;refine⟨Eq,?_⟩;have:cE q' (dk [])=q':=by unfold cE dk;simp
    rw[this]at hr;exact hr
 |o::l,h,q,q',[],xs,fs,Eq,hh,_,_,_,_,_,_,_,_,_,_=>hh.elim
 |o::l,h,q,q',kd::kds,[],fs,Eq,hh,_,_,_,_,_,_,_,_,_,_=>hh.elim
 |o::l,h,q,q',kd::kds,x::xs,[],Eq,hh,_,_,hfa,_,_,_,_,_,_,_=>hfa.elim
 |o::l,h,q,q',kd::kds,x::xs,f::fs,Eq,hh,hnd,hnf,hfa,hr,hL,hc,hpr,hfd,hfA,hff=>by
  obtain⟨⟨d,hd,hdN⟩,q1,hst,hh⟩:=hh;obtain⟨hfact,hfa⟩:=hfa;obtain⟨hfk,hsl⟩:=hfact d hd;have hds:dk (o::l)=d::dk l:=by unfold dk;rw[List.filterMap_cons,hd]
  rw[hds]at hnd hr;have hdl:=(List.nodup_cons.1 hnd).1;have hnd':=(List.nodup_cons.1 hnd).2;rw[List.flatten_cons]at hfd hfA hff;have hfd':=List.nodup_append.1 hfd
  have caseV:∀y,ba w (E.plus m w.heap.size) s0.lv s0.c y (a.tmps.getD d undef)->q1=q.put o.dst (jo pr y)->∃E',aD w0 N q' a w E':=by
   intro y hy e;subst e;rw[hd]at hh;have hsl:=Hi (pr:=pr) (E2:=Eq) (L':=q.lv) (c':=q.c) hy (λi st h1 h2=>hL i st h1 h2) hc hpr;refine fI hw hh hnd' hnf.2 hfa (oB hdl hr hsl) (by rw[AS.put_lv];exact hL) (by rw[AS.put_c];exact hc) hpr hfd'.2.1 (hfA.imp id λh b hb=>h b (List.mem_append_right _ hb)) (λb hb=>by rw[AS.put_n];exact hff b (List.mem_append_right _ hb))
  have caseC:∀res:List Rs,res.all (·.2.2)=true->(pr=true->dy false res 0=[])->kd=.c res->q1=(q.pushL (dy false res q.c)).put o.dst (nY res q.n q.c)->∃E',aD w0 N q' a w E':=by
   intro res hdp hpo hkd e;subst hkd;subst e;rw[hd]at hh;have hdp':∀r∈res,r.2.2=true:=λr hx=>by simpa using List.all_eq_true.1 hdp r hx
   obtain⟨vs,gs,hv,hq,rfl,hgn,_⟩:=hfk
   have hgA:∀b∈gs.flatten,¬Eq.A b:=by
    intro b hb;rcases hfA with hp|hA
    ·rw[yB hdp' (hpo hp) hq]at hb;cases hb
    ·exact hA b (List.mem_append_left _ hb)
   obtain⟨E2,k1,k2,k3⟩:=zY (b0:=m) hw res hr (λ_ h=>h.elim) hq hgn (λb hb=>⟨hgA b hb,(hff b (List.mem_append_left _ hb)).2⟩);have hc':(cE q (d::dk l)).c=q.c:=rfl;have hn':(cE q (d::dk l)).n=q.n:=rfl;rw[hc',hn']at k2;rw[hc']at k1 k3;rw[wl]at k1 k2 k3;rw[hn']at k3;obtain⟨p1,p2,p3,p4⟩:=eP (dy false res q.c) q
   have hlvn:∀i st,st<q.c->(q.pushL (dy false res q.c)).lv i=some st->q.lv i=some st/\i<q.n:=by
    intro i st hst hl;unfold AS.lv at hl;split at hl
    ·rename_i hi;by_cases hiq:i<q.n
     ·rw[p4 i hiq]at hl;unfold AS.lv;rw[if_pos hiq];exact⟨hl,hiq⟩
     ·obtain⟨st',h1,h2⟩:=tn _ q i (by omega) hi (vM false res q.c);rw[hl]at h1;injection h1 with h1;omega
    ·cases hl
   refine fI hw hh hnd' hnf.2 hfa (oB hdl k1 (xm k2 hv)) ?_ (by rw[AS.put_c,p2];omega) (λhp b hb=>k3.A b (hpr hp b hb)) hfd'.2.1 ?_ ?_
   ·intro i st hst hl;rw[AS.put_lv]at hl;obtain⟨h1,h2⟩:=hlvn i st (by omega) hl;obtain⟨h3,h4⟩:=hL i st hst h1;exact⟨h3,((k3.same i h2).1).trans h4⟩
   ·rcases hfA with hp|hA
    ·exact .inl hp
    ·right;intro b hb hbA;rcases k3.A' b hbA with h1|h1
     ·exact hA b (List.mem_append_right _ hb) h1
     ·exact hfd'.2.2 b h1 b hb rfl
   ·intro b hb;obtain⟨g1,g2⟩:=hff b (List.mem_append_right _ hb);refine⟨g1,λj hj=>?_⟩;rw[AS.put_n]at hj;have hbg:b∉gs.flatten:=λhbg=>hfd'.2.2 b hbg b hb rfl
    by_cases hjq:j<q.n
    ·obtain⟨_,e2,e3⟩:=k3.same j hjq;rw[e2,e3];exact g2 j hjq
    ·exact⟨λhm=>hbg (k3.new j (by omega) hj b (.inl hm)),λhm=>hbg (k3.new j (by omega) hj b (.inr hm))⟩
  have caseR:sy P pr h q o kd x q1->∃E',aD w0 N q' a w E':=by
   rintro(⟨y,_,rfl,rfl,e⟩|⟨fn,args,ts,ys,res,ho,hmt,_,hdp,hpo,rfl,rfl,e⟩|⟨t,len,parts,el,k,es,esq,ho,hp0,ht,hz,hk,hl,hs,_,hfq,rfl,rfl,e⟩|⟨t,cs,ho,hp0,hz,rfl,rfl,e⟩|⟨y,z,hpu,hp0,_,hz,rfl,rfl,e⟩|⟨X,Y,t,el,k,by_,c,t2,es,zs,res,ho,hp0,ht,hz,hzl,hk,hby,hX,hY,hrd,hne,hfl,h63,hbt,hres,rfl,rfl,e⟩|⟨X,Y,t,el,k,c,t2,k2,ho,hp0,ht,hX,hY,hrd,rfl,rfl,e⟩|⟨_,_,_,_,_,ho,hp0,_,_,_,rfl,rfl,e⟩)
   ·exact caseV _ hsl e
   ·exact caseC res hdp hpo rfl e
   ·subst e;rw[hd]at hh;obtain⟨g,hv,rfl,hmg,hB⟩:=hfk;obtain⟨hg1,hg2⟩:=hff g (by simp)
    have hgA:¬Eq.A g:=by
     rcases hfA with hp|hA
     ·rw[hp0]at hp;cases hp
     ·exact hA g (by simp)
    have hal:dI q (cE q (d::dk l)) (parts.toList.map (·.2)):=by
     refine⟨rfl,rfl,λt' ht'=>?_⟩
     have h1:t'∈o.looksAt ops:=by
      unfold Oper.looksAt;refine List.mem_append_left _ (List.mem_filterMap.2 ⟨.tmp t',?_,rfl⟩);rw[ho,<-As];exact ht'
     have h2:=hnf.1 t' h1;rw[hds]at h2;simp only[cE];rw[if_neg (by simpa using h2)]
    rw[<-sC hal]at hfq;obtain⟨c1,c2⟩:=D5 hr hfq;obtain⟨hl1,hl2⟩:=rS hfq
    have hpush:=hr.pushOb (X:=.arr q.c el k esq) (v':=.slice (some ⟨g,0,none⟩) parts.toList.length parts.toList.length) (m':=[g]) (o':=[]) rfl (Below.refl _ _)
     (λb hb=>by simp at hb;subst hb;exact⟨hg1,hgA,λj hj=>(hg2 j hj).1⟩) (by simp) (by simp) (by
      rintro E' rfl hstay
      have hmx:esq.length<=maxLen:=by
       have:len*1<=len*k:=Nat.mul_le_mul_left _ hk;rw[hl1,hl];unfold maxLen;omega
      refine⟨g,jm a parts.toList,by exact Nat.lt_succ_self _,?_,?_,?_,Nat.zero_le _,hmx,hB,hk,hl2,c1.stay hstay⟩
      ·show upd Eq.v q.n _ q.n=_;rw[ab,hl1]
      ·show upd Eq.m q.n _ q.n=_;rw[ab]
      ·show upd Eq.o q.n _ q.n=_
       rw[ab]) (λb hb=>by simp at hb;subst hb;exact w0.hfr _ (Nat.le_trans hw hmg))
    rw[sX]at hpush;have hqn:(cE q (d::dk l)).n=q.n:=rfl;rw[hqn]at hpush;refine fI hw hh hnd' hnf.2 hfa (oB hdl hpush ?_) ?_ (by rw[AS.put_c];simp[AS.push];omega) (λhp b hb=>.inl (hpr hp b hb)) hfd'.2.1 ?_ ?_
    ·refine aI ⟨by simp[AS.push],λ_=>?_⟩;simp only[ab];exact hv
    ·intro i st hst hl;rw[AS.put_lv]at hl;unfold AS.lv AS.push at hl;by_cases e:i=q.n
     ·subst e;simp only[ab,Ob.st]at hl;split at hl
      ·injection hl with hl;omega
      ·cases hl
     ·simp only[az _ _ e]at hl ⊢;refine hL i st hst ?_;unfold AS.lv;split at hl
      ·rename_i hi;rw[if_pos (by omega)];exact hl
      ·cases hl
    ·rcases hfA with hp|hA
     ·exact .inl hp
     ·right;intro b hb hbA;rcases hbA with h1|h1
      ·exact hA b (List.mem_append_right _ hb) h1
      ·cases h1
    ·intro b hb;obtain⟨g1,g2⟩:=hff b (List.mem_append_right _ hb);refine⟨g1,λj hj=>?_⟩;rw[AS.put_n]at hj;by_cases e:j=q.n
     ·subst e;simp only[ab];exact⟨λhm=>by simp at hm;exact hfd'.2.2 g (by simp) b hb hm.symm,by simp⟩
     ·simp only[az _ _ e];exact g2 j (by simp[AS.push]at hj;omega)
   ·subst e;rw[hd]at hh;obtain⟨g,vals,hv,rfl,hmg,hB,hcs⟩:=hfk;obtain⟨hg1,hg2⟩:=hff g (by simp)
    have hgA:¬Eq.A g:=by
     rcases hfA with hp|hA
     ·rw[hp0]at hp;cases hp
     ·exact hA g (by simp)
    have hpush:=hr.pushOb (X:=.var q.c t cs) (v':=.pointer (some ⟨g,0,none⟩)) (m':=[g]) (o':=[]) rfl (Below.refl _ _)
     (λb hb=>by simp at hb;subst hb;exact⟨hg1,hgA,λj hj=>(hg2 j hj).1⟩) (by simp) (by simp) (by
      rintro E' rfl hstay;refine⟨g,vals,by exact Nat.lt_succ_self _,?_,?_,?_,Nat.zero_le _,hB,hcs _ _ _ _⟩
      ·show upd Eq.v q.n _ q.n=_;rw[ab]
      ·show upd Eq.m q.n _ q.n=_;rw[ab]
      ·show upd Eq.o q.n _ q.n=_
       rw[ab]) (λb hb=>by simp at hb;subst hb;exact w0.hfr _ (Nat.le_trans hw hmg))
    rw[sX]at hpush;have hqn:(cE q (d::dk l)).n=q.n:=rfl;rw[hqn]at hpush;refine fI hw hh hnd' hnf.2 hfa (oB hdl hpush ?_) ?_ (by rw[AS.put_c];simp[AS.push];omega) (λhp b hb=>.inl (hpr hp b hb)) hfd'.2.1 ?_ ?_
    ·refine aI ⟨by simp[AS.push],λ_=>?_⟩;simp only[ab];exact⟨g,rfl,hv⟩
    ·intro i st hst hl;rw[AS.put_lv]at hl;unfold AS.lv AS.push at hl;by_cases e:i=q.n
     ·subst e;simp only[ab,Ob.st]at hl;split at hl
      ·injection hl with hl;omega
      ·cases hl
     ·simp only[az _ _ e]at hl ⊢;refine hL i st hst ?_;unfold AS.lv;split at hl
      ·rename_i hi;rw[if_pos (by omega)];exact hl
      ·cases hl
    ·rcases hfA with hp|hA
     ·exact .inl hp
     ·right;intro b hb hbA;rcases hbA with h1|h1
      ·exact hA b (List.mem_append_right _ hb) h1
      ·cases h1
    ·intro b hb;obtain⟨g1,g2⟩:=hff b (List.mem_append_right _ hb);refine⟨g1,λj hj=>?_⟩;rw[AS.put_n]at hj;by_cases e:j=q.n
     ·subst e;simp only[ab];exact⟨λhm=>by simp at hm;exact hfd'.2.2 g (by simp) b hb hm.symm,by simp⟩
     ·simp only[az _ _ e];exact g2 j (by simp[AS.push]at hj;omega)
   ·subst e;rw[hd]at hh;obtain⟨rfl,hpv⟩:=hfk
    have hev:∀u,u∈o.op.operands.toList->ba w Eq q.lv q.c (q.ev u) (a.eval u):=by
     intro u hu
     have hal:dI q (cE q (d::dk l)) [u]:=by
      refine⟨rfl,rfl,λt' ht'=>?_⟩;have ht':Operand.tmp t'=u:=by simpa using ht'
      have h1:t'∈o.looksAt ops:=by
       unfold Oper.looksAt;exact List.mem_append_left _ (List.mem_filterMap.2 ⟨.tmp t',by rw[ht'];exact hu,rfl⟩)
      have h2:=hnf.1 t' h1;rw[hds]at h2;simp only[cE];rw[if_neg (by simpa using h2)]
     have e:=aJ hr u;rw[hal.ev (List.mem_cons_self ..)]at e;exact e
    have hsz:ba w Eq q.lv q.c z (a.tmps.getD d undef):=by
     cases hop:o.op with
     |build t parts=>
      have hal:dI q (cE q (d::dk l)) o.op.operands.toList:=by
       refine⟨rfl,rfl,λt' ht'=>?_⟩
       have h1:t'∈o.looksAt ops:=by
        unfold Oper.looksAt;exact List.mem_append_left _ (List.mem_filterMap.2 ⟨.tmp t',ht',rfl⟩)
       have h2:=hnf.1 t' h1;rw[hds]at h2;simp only[cE];rw[if_neg (by simpa using h2)]
      rw[<-ij hal]at hz;rw[hop]at hz hpv;obtain⟨us,u1,u2⟩:=hpv;simp only[oS]at hz;split at hz
      ·rename_i g1;split at hz
       ·rename_i zz g2;split at hz
        ·rename_i cs g3;injection hz with hz;subst hz;obtain⟨us',b1,b2⟩:=od (o:=o) g1 g2 g3 hr;rw[u2]at b1;injection b1 with b1;have b1:us=us':=by simpa using congrArg Array.toList b1
         subst b1;rw[u1];exact⟨us,rfl,b2⟩
        ·cases hz
       ·cases hz
      ·cases hz
     |move u=>
      rw[hop]at hz hpv hev;simp only[oS,hV]at hz;injection hz with hz;have hpv:a.tmps.getD d undef=a.eval u:=hpv;rw[hpv,<-hz]
      exact hev u (by simp[Op.operands])
     |assign u=>
      rw[hop]at hz hpv hev;simp only[oS,hV]at hz;injection hz with hz;have hpv:a.tmps.getD d undef=a.eval u:=hpv;rw[hpv,<-hz]
      exact hev u (by simp[Op.operands])
     |extract u ix=>
      rw[hop]at hz hpv hev;simp only[oS,hV]at hz;have e:=hev u (by simp[Op.operands]);obtain⟨vs,e1,e2⟩:=(show∃vs:List Value,a.eval u=.tuple vs.toArray/\vs[ix]? =some (a.tmps.getD d undef)from hpv);unfold JQ at hz;split at hz
      ·rename_i xs' hxs;split at hz
       ·rename_i b cs hb;injection hz with hz;subst hz;rw[hxs]at e;obtain⟨vs',f1,f2,f3⟩:=e;rw[e1]at f1;injection f1 with f1;have f1:vs=vs':=by simpa using congrArg Array.toList f1
        subst f1;exact f3 ix b cs _ hb e2
       ·cases hz
      ·cases hz
     |load t u=>
      have hal:dI q (cE q (d::dk l)) o.op.operands.toList:=by
       refine⟨rfl,rfl,λt' ht'=>?_⟩
       have h1:t'∈o.looksAt ops:=by
        unfold Oper.looksAt;exact List.mem_append_left _ (List.mem_filterMap.2 ⟨.tmp t',ht',rfl⟩)
       have h2:=hnf.1 t' h1;rw[hds]at h2;simp only[cE];rw[if_neg (by simpa using h2)]
      rw[<-ij hal]at hz;obtain⟨v,r1,r2⟩:=Fn hz _ _ _ _ _ hr;rw[hop]at hpv;have hpv:∀w',Below w.heap.size w w'->(Instr.loadAt t (a.eval u)).run P w'=.ok (a.tmps.getD d undef) w':=hpv;have r3:=hpv w (Below.refl _ _)
      have:v=a.tmps.getD d undef:=by
       simp only[execOp,hop]at r1;simp only[Sem.run_bind,r3]at r1
       first|(injection r1 with r1;injection r1 with r1;exact r1.symm)|(simp at r1;simpa using r1.symm)
      rw[<-this];exact r2
     |_=>rw[hop]at hpu;cases hpu.1
    refine fI hw hh hnd' hnf.2 hfa (oB hdl hr hsz) (by rw[AS.put_lv];exact hL) (by rw[AS.put_c];exact hc) hpr hfd'.2.1 (hfA.imp id λh b hb=>h b (List.mem_append_right _ hb)) (λb hb=>by rw[AS.put_n];exact hff b (List.mem_append_right _ hb))
   ·subst hres;exact caseC _ rfl (λhp=>by rw[hp0]at hp;cases hp) rfl e
   ·subst e;rw[hd]at hh;obtain⟨rfl,hpv⟩:=hfk;rw[ho]at hpv;obtain⟨X',Y',hXY,hva⟩:=hpv;have hXX:X'=X:=by injection hXY with hXY;injection hXY with h1 h2;exact h1.symm
    subst hXX
    have hsz:ba w Eq q.lv q.c (q.ev X') (a.tmps.getD d undef):=by
     have hal:dI q (cE q (d::dk l)) [X']:=by
      refine⟨rfl,rfl,λt' ht'=>?_⟩;have ht':Operand.tmp t'=X':=by simpa using ht'
      have h1:t'∈o.looksAt ops:=by
       unfold Oper.looksAt;exact List.mem_append_left _ (List.mem_filterMap.2 ⟨.tmp t',by rw[ho,ht'];simp[Op.operands,Call.operands],rfl⟩)
      have h2:=hnf.1 t' h1;rw[hds]at h2;simp only[cE];rw[if_neg (by simpa using h2)]
     have e:=aJ hr X';rw[hal.ev (List.mem_cons_self ..)]at e;rw[hva];exact e
    refine fI hw hh hnd' hnf.2 hfa (oB hdl hr hsz) (by rw[AS.put_lv];exact hL) (by rw[AS.put_c];exact hc) hpr hfd'.2.1 (hfA.imp id λh b hb=>h b (List.mem_append_right _ hb)) (λb hb=>by rw[AS.put_n];exact hff b (List.mem_append_right _ hb))
   ·exact caseV _ hsl e
  cases hgd:o.guard with
  |none=>rw[hgd]at hst;exact caseR hst
  |some gw=>
   rw[hgd]at hst;obtain⟨t,b,_,_,_,hb⟩:=hst;split at hb
   ·exact caseR hb
   ·obtain⟨_,hx,e⟩:=hb;exact caseV (.tup []) (by rw[<-hx];exact hsl) e
end
end Go.Proofs.Ytngaddcgmnonbaa
namespace Go.Proofs.Ytngaddcgmnonbaa
open Go.RowKit
section
variable {P:Program}{w0:Cx}{ws w w':World}{N m n:Nat}{s h H q q' qF:AS}{a:Act}{E:En}{o:Oper}{pr:Bool}{l:List Oper}{kds:List HK}{xs:List AV}{Q:Exit->AS->Prop}
def Hd(l:List Oper)(n:Nat)(listed:Array Bool):List Nat:=(List.range n).filterMap λj=>if listed.getD j false then(l[j]?).bind (·.dst)else none
theorem fg{listed:Array Bool}{t:Nat}:t∈Hd l n listed↔∃j o,j<n/\listed.getD j false=true/\l[j]? =some o/\o.dst=some t:=by
 unfold Hd;rw[List.mem_filterMap];constructor
 ·rintro⟨j,hj,h⟩;split at h
  ·rename_i hl
   cases ho:l[j]? with
   |none=>simp[ho]at h
   |some o=>simp[ho]at h;exact⟨j,o,List.mem_range.1 hj,hl,ho,h⟩
  ·cases h
 ·rintro⟨j,o,hj,hl,ho,hd⟩;exact⟨j,List.mem_range.2 hj,by rw[if_pos hl];simp[ho,hd]⟩
def ST:Op->Bool
 |.call ⟨.value _,_,_⟩=>false
 |.call ⟨.builtin .append,_,_⟩=>false
 |.alloc _=>false
 |.buildSlice _ _ _=>false
 |_=>true
def QM(l:List Oper)(n:Nat):Prop:=∀o∈l.take n,ST o.op=true
theorem wZ{pr:Bool}{h q q':AS}{kd:HK}{x:AV}(hr:sy P pr h q o kd x q')(hp:ST o.op=true):∃y,oS P h o.op=some y:=by
 have hb:∀y,oS P h o.op=some y->oS P h o.op=some y:=λ_ h=>h
 rcases hr with⟨y,h1,_⟩|⟨f,args,ts,ys,res,ho,_⟩|⟨t,len,parts,el,k,es,esq,ho,_⟩|⟨t,cs,ho,_⟩|⟨y,z,_,_,h1,_⟩|⟨_,_,_,_,_,_,_,_,_,_,_,ho,_⟩|⟨_,_,_,_,_,_,_,_,ho,_⟩|⟨_,_,_,_,_,ho,_⟩
 ·exact⟨y,hb y h1⟩
 ·rw[ho]at hp;cases hp
 ·rw[ho]at hp;cases hp
 ·rw[ho]at hp;cases hp
 ·exact⟨y,hb y h1⟩
 ·rw[ho]at hp;cases hp
 ·rw[ho]at hp;cases hp
 ·rw[ho]at hp;cases hp
structure zy(P:Program)(w0:Cx)(ws:World)(N m n:Nat)(s:AS)(E:En)(l:List Oper)(kds:List HK)(xs:List AV)(listed:Array Bool)(a:Act)(w:World)(fs:Nat->List Nat):Prop where
 rep:aD w0 N (cE s (Hd l n listed)) a w E
 le:m<=w.heap.size
 fact:∀j o d kd x,j<n->listed.getD j false=true->l[j]? =some o->o.dst=some d->kds[j]? =some kd->xs[j]? =some x->AN P m E s.lv s.c a w (a.tmps.getD d undef) (fs j) kd/\ba w (E.plus m w.heap.size) s.lv s.c x (a.tmps.getD d undef)
 blk:∀j,j<n->listed.getD j false=true->∀b∈fs j,m<=b/\b<w.heap.size
 dis:∀i j,i<n->j<n->listed.getD i false=true->listed.getD j false=true->i≠j->∀b∈fs i,b∉fs j
 bl:QM l n->w.heap=ws.heap
theorem ER(h:aD w0 N s a w E)(hw:w0.heap.size<=m)(hm:∀i,i<s.n->∀b∈E.m i,b<m):aD w0 N s a w (E.plus m w.heap.size):=by
 have hst:gZ w E s.lv s.c w (E.plus m w.heap.size) s.lv s.c:=⟨λb hb=>⟨.inl hb,rfl⟩,λi st _ h=>⟨h,rfl⟩,Nat.le_refl _⟩;refine⟨h.size,h.defers,h.bel,λi hi=>(h.obj i hi).stay hst rfl rfl rfl (λ_ _=>rfl) (λb hb=>h.A_o i hi b hb),λt=>(h.slot t).stay hst,λb hb=>?_,λb hb i hi hbm=>?_,λi hi b hb=>.inl (h.A_o i hi b hb),h.mm,h.oo,h.m_lt,λb hb=>?_,h.mF,h.oF⟩
 ·rcases hb with hb|hb
  ·exact h.A_lt b hb
  ·exact hb.2
 ·rcases hb with hb|hb
  ·exact h.A_m b hb i hi hbm
  ·have:=hm i hi b hbm;omega
 ·rcases hb with hb|hb
  ·exact h.anc b hb
  ·exact .inr (w0.hfr b (Nat.le_trans hw hb.1))
theorem v7:∀{ls:List (List Nat)},(∀f∈ls,f.Nodup)->ls.Pairwise (λx y=>∀b∈x,b∉y)->ls.flatten.Nodup
 |[],_,_=>by simp
 |f::ls,h1,h2=>by
  rw[List.flatten_cons];rw[List.pairwise_cons]at h2;refine List.nodup_append.2 ⟨h1 f (List.mem_cons_self ..),v7 (λg hg=>h1 g (List.mem_cons_of_mem _ hg)) h2.2,λx hx y hy e=>?_⟩;subst e;obtain⟨g,hg,hxg⟩:=List.mem_flatten.1 hy;exact h2.1 g hg x hx hxg
theorem C6{L:Nat->Option Nat}{c:Nat}{v:Value}{f:List Nat}{kd:HK}(h:AN P m E L c a w v f kd):f.Nodup:=by
 cases kd with
 |v x=>obtain rfl:f=[]:=h;exact List.nodup_nil
 |c res=>obtain⟨vs,fs,_,_,rfl,hn,_⟩:=h;exact hn
 |b el k parts=>obtain⟨g,_,rfl,_⟩:=h;simp
 |a t cs=>obtain⟨g,_,_,rfl,_⟩:=h;simp
 |p op=>obtain⟨rfl,_⟩:=h;exact List.nodup_nil
theorem m8{d t:Nat}{v:Value}(h:t≠d):(a.put (some d) v).tmps.getD t undef=a.tmps.getD t undef:=by
 simp[Act.put,Array.getElem?_setIfInBounds_ne (Ne.symm h)]
theorem Ju{d:Nat}{v:Value}(h:d<a.tmps.size):(a.put (some d) v).tmps.getD d undef=v:=by
 simp[Act.put,h]
theorem dR{d:Nat}{v:Value}{x:Operand}(h:x≠.tmp d):(a.put (some d) v).eval x=a.eval x:=by
 cases x with
 |tmp t=>exact m8 (λe=>h (by rw[e]))
 |_=>rfl
theorem In{d:Nat}{v:Value}{parts:List (Nat×Operand)}(h:∀x∈parts,x.2≠.tmp d):jm (a.put (some d) v) parts=jm a parts:=by
 unfold jm;rw[List.flatMap_def,List.flatMap_def];congr 1;exact List.map_congr_left λx hx=>by rw[dR (h x hx)]
def Jo:HK->List Operand
 |.b _ _ parts=>parts.map (·.2)
 |.p op=>op.operands.toList
 |_=>[]
theorem Bb{pr:Bool}{h q q':AS}{o:Oper}{kd:HK}{x:AV}(hr:sy P pr h q o kd x q'):∀y∈Jo kd,y∈o.op.operands.toList:=by
 intro y hy;rcases hr with⟨_,_,rfl,_⟩|⟨_,_,_,_,_,_,_,_,_,_,rfl,_⟩|⟨t,len,parts,el,k,es,esq,ho,_,_,_,_,_,_,_,_,rfl,_⟩|⟨_,_,_,_,_,rfl,_⟩|⟨_,_,_,_,_,_,rfl,_⟩|⟨_,_,_,_,_,_,_,_,_,_,_,_,_,_,_,_,_,_,_,_,_,_,_,_,_,_,rfl,_⟩|⟨_,_,_,_,_,_,_,_,_,_,_,_,_,_,rfl,_⟩|⟨_,_,_,_,_,_,_,_,_,_,rfl,_⟩
 ·cases hy
 ·cases hy
 ·rw[ho,<-As];exact hy
 ·cases hy
 ·exact hy
 ·cases hy
 ·exact hy
 ·cases hy
theorem BT{ops:Array Oper}(h:aD w0 N s a w E){g t:Nat}{b:Option Bool}(hg:iM ops g=some t)(hs:s.sl t=Ud b)(ht:t<N):yielded ops a.tmps g=b:=by
 cases b with
 |some b=>exact qp h hg hs ht
 |none=>
  have:=h.slot t;rw[hs]at this;obtain⟨vs,h1,h2,-⟩:=this;obtain rfl:vs=[]:=List.length_eq_zero_iff.1 h2.symm;unfold yielded;unfold iM at hg;rw[hg];have hz:t<a.tmps.size:=by rw[h.size];exact ht
  simp[hz]at h1;simp[hz,h1]
theorem A4{pr:Bool}{ops:Array Oper}{h q q':AS}{o:Oper}{kd:HK}{x:AV}(hst:IF P N pr ops h q o kd x q' o.guard):∀y∈Jo kd,y∈o.op.operands.toList:=by
 cases hgd:o.guard with
 |none=>rw[hgd]at hst;exact Bb hst
 |some gw=>
  rw[hgd]at hst;obtain⟨t,b,_,_,_,hbb⟩:=hst;split at hbb
  ·exact Bb hbb
  ·intro y hy;rw[hbb.1]at hy;cases hy
theorem Hl{w2:World}(h:Below w.heap.size w w')(k:Below w'.heap.size w' w2):Below w.heap.size w w2:=
 ⟨k.os.trans h.os,k.tape.trans h.tape,k.output.trans h.output,Nat.le_trans h.size k.size,λb hb=>(k.block b (Nat.lt_of_lt_of_le hb h.size)).trans (h.block b hb)⟩
theorem GB{d:Nat}{u v:Value}{op:Op}(h:Eh P w a v op)(hb:Below w.heap.size w w')(hp:∀x∈op.operands.toList,x≠.tmp d):Eh P w' (a.put (some d) u) v op:=by
 cases op with
 |load t x=>
  intro w2 h2;rw[dR (hp x (by simp[Op.operands]))]
  exact h w2 (Hl hb h2)
 |build t parts=>
  obtain⟨us,e1,e2⟩:=h;refine⟨us,e1,?_⟩;rw[<-e2];congr 2;refine Array.map_congr_left λx hx=>?_
  rw[dR (hp x.2 (by simp only[Op.operands,Array.toList_map,List.mem_map];exact⟨x,by simpa using hx,rfl⟩))]
 |move x=>show v=_;rw[dR (hp x (by simp[Op.operands]))];exact h
 |assign x=>show v=_;rw[dR (hp x (by simp[Op.operands]))];exact h
 |extract x ix=>obtain⟨vs,e1,e2⟩:=h;exact⟨vs,by rw[dR (hp x (by simp[Op.operands]))];exact e1,e2⟩
 |call c=>
  obtain⟨callee,args,ts⟩:=c;unfold Eh at h ⊢;split at h
  ·rename_i heq;cases heq
  ·rename_i heq;cases heq
  ·rename_i heq;cases heq
  ·rename_i heq;cases heq
  ·rename_i heq;cases heq
  ·rename_i heq;injection heq with heq;injection heq with e1 e2 e3;subst e1 e2 e3;obtain⟨X,Y,rfl,e⟩:=h;exact⟨X,Y,rfl,by rw[dR (hp X (by simp[Op.operands,Call.operands]))];exact e⟩
  ·exact h.elim
 |_=>cases h
theorem yu{L:Nat->Option Nat}{c:Nat}{v u:Value}{f:List Nat}{kd:HK}{d:Nat}(h:AN P m E L c a w v f kd)(hb:Below w.heap.size w w')(hp:∀x∈Jo kd,x≠.tmp d):AN P m E L c (a.put (some d) u) w' v f kd:=by
 cases kd with
 |v x=>exact h
 |c res=>obtain⟨vs,fs,h1,h2,h3,h4,h5⟩:=h;exact⟨vs,fs,h1,ca.keep (λb hbb=>hb.block b hbb) h5 h2,h3,h4,h5⟩
 |b el k parts=>obtain⟨g,h1,h2,h3,h4⟩:=h;exact⟨g,h1,h2,h3,by rw[In (λx hx=>hp x.2 (List.mem_map.2 ⟨x,hx,rfl⟩))];exact h4.keep hb⟩
 |a t cs=>obtain⟨g,vals,h1,h2,h3,h4,h5⟩:=h;exact⟨g,vals,h1,h2,h3,h4.keep hb,h5⟩
 |p op=>exact⟨h.1,GB h.2 hb hp⟩
def jY(l:List Oper)(n:Nat):Bool:=zG .any l n&&decide ((dk (l.take n)).Nodup)
theorem ji(hB:zG .any l n=true){i j:Nat}{oi oj:Oper}{t:Nat}(hi:i<n)(hoi:l[i]? =some oi)(hj:j<n)(hoj:l[j]? =some oj)(hd:oj.dst=some t)(ht:t∈oi.looksAt l.toArray):j<i/\Region.waitsFor .any l.toArray i j=true:=by
 obtain⟨_,_,_,_,h5⟩:=cq hB;obtain⟨h6,h7⟩:=h5 i oi hi hoi;have hw:=h7 j oj hj hoj t hd ht;obtain⟨oi',hoi',e,he,hb,hon⟩:=Region.waitsFor_spec hw;have:oi'=oi:=Option.some.inj (hoi'.symm.trans (by simpa using hoi));subst this;refine⟨?_,hw⟩;rw[<-hon];exact h6 e he hb
theorem AK:∀{l:List Oper} {ops:Array Oper},(∀(i j:Nat) oi oj t,l[i]? =some oi->l[j]? =some oj->oj.dst=some t->t∈oi.looksAt ops->j<i)->JT ops l
 |[],_,_=>trivial
 |o::l,ops,h=>by
  refine⟨λt ht hm=>?_,AK λi j oi oj t h1 h2 h3 h4=>?_⟩
  ·unfold dk at hm;obtain⟨oj,hoj,hd⟩:=List.mem_filterMap.1 hm;obtain⟨j,hj,rfl⟩:=List.mem_iff_getElem.1 hoj;have:=h 0 j o _ t rfl (List.getElem?_eq_getElem hj) hd ht;omega
  ·have:=h (i+1) (j+1) oi oj t (by simpa using h1) (by simpa using h2) h3 h4;omega
theorem y9{L:Nat->Option Nat}{c:Nat}:∀{l:List Oper} {kds:List HK} {xs:List AV} {fs:List (List Nat)},kds.length=l.length->xs.length=l.length->fs.length=l.length->
 (∀(j:Nat) o d kd x f,l[j]? =some o->o.dst=some d->kds[j]? =some kd->xs[j]? =some x->fs[j]? =some f->AN P m E L c a w (a.tmps.getD d undef) f kd/\ba w (E.plus m w.heap.size) L c x (a.tmps.getD d undef))->D8 P m E L c a w l kds xs fs
 |[],[],[],[],_,_,_,_=>trivial
 |o::l,kd::kds,x::xs,f::fs,h1,h2,h3,h=>by
  refine⟨λd hd=>h 0 o d kd x f rfl hd rfl rfl rfl,y9 (by simpa using h1) (by simpa using h2) (by simpa using h3) λj o d kd x f a1 a2 a3 a4 a5=>h (j+1) o d kd x f (by simpa using a1) a2 (by simpa using a3) (by simpa using a4) (by simpa using a5)⟩
 |[],_::_,_,_,h1,_,_,_=>by simp at h1
 |[],_,_::_,_,_,h2,_,_=>by simp at h2
 |[],_,_,_::_,_,_,h3,_=>by simp at h3
 |_::_,[],_,_,h1,_,_,_=>by simp at h1
 |_::_,_,[],_,_,h2,_,_=>by simp at h2
 |_::_,_,_,[],_,_,h3,_=>by simp at h3
theorem hZ:∀{l:List Oper} {ops:Array Oper} {h q q':AS} {kds:List HK} {xs:List AV},fw P N pr ops l h q kds xs q'->kds.length=l.length/\xs.length=l.length
 |[],_,_,_,_,[],[],_=>⟨rfl,rfl⟩
 |o::l,_,_,_,_,kd::kds,x::xs,h=>by obtain⟨_,q1,_,h⟩:=h;obtain⟨h1,h2⟩:=hZ h;exact⟨by simp[h1],by simp[h2]⟩
 |[],_,_,_,_,_::_,_,h=>h.elim
 |[],_,_,_,_,[],_::_,h=>h.elim
 |_::_,_,_,_,_,[],_,h=>h.elim
 |_::_,_,_,_,_,_::_,[],h=>h.elim
theorem Gg{d1:List Nat}(h:aD w0 N (cE s d1) a w E){d2:List Nat}(hs:∀t∈d1,t∈d2):aD w0 N (cE s d2) a w E:=by
 refine h.weaken (s':=cE s d2) (Nat.le_refl _) (Nat.le_refl _) (λ_ _=>.inl rfl) (λt=>?_);simp only[cE];by_cases h2:t∈d2
 ·right;rw[if_pos (by simpa using h2)]
 ·left;rw[if_neg (by simpa using h2),if_neg (by simpa using λh1=>h2 (hs t h1))]
def dH(P:Program)(md:Region.Mode)(ops:Array Oper)(Q:Exit->Act->World->Prop)(J:Array Bool->Act->World->Prop):Nat->Array Bool->Act->World->Prop
 |0,listed,a,w=>J listed a w/\Region.ready md ops listed=[]/\Q .normal a w
 |fuel+1,listed,a,w=>J listed a w/\(Region.ready md ops listed=[]->Q .normal a w)/\∀i∈Region.ready md ops listed,wpOp P ops Q i (λa' w'=>dH P md ops Q J fuel (listed.setIfInBounds i true) a' w') a w
theorem xg{md:Region.Mode}{ops:Array Oper}{Q:Exit->Act->World->Prop}{J:Array Bool->Act->World->Prop}:∀(fuel:Nat) (listed:Array Bool) (a:Act) (w:World),dH P md ops Q J fuel listed a w->wpAny P md ops Q fuel listed a w
 |0,_,_,_,h=>h.2
 |fuel+1,_,_,_,h=>⟨h.2.1,λi hi=>wpOp_mono (λa' w' h'=>xg fuel _ a' w' h') (h.2.2 i hi)⟩
theorem wQ{md:Region.Mode}{ops:Array Oper}{Q:Exit->Act->World->Prop}{J:Array Bool->Act->World->Prop}(hJt:∀(listed:Array Bool) a w,(∀j,j<n->listed.getD j false=true)->J listed a w):
 ∀(fuel:Nat) (listed:Array Bool) (a:Act) (w:World),(∀j,j<n->listed.getD j false=true)->wpAny P md ops Q fuel listed a w->dH P md ops Q J fuel listed a w
 |0,_,_,_,hl,h=>⟨hJt _ _ _ hl,h⟩
 |fuel+1,listed,_,_,hl,h=>⟨hJt _ _ _ hl,h.1,λi hi=>wpOp_mono (λa' w' h'=>wQ hJt fuel _ a' w' (λj hj=>by
  by_cases e:i=j
  ·subst e
   have hlt:i<listed.size:=by
    rcases Nat.lt_or_ge i listed.size with h|h
    ·exact h
    ·have:=hl i hj;simp[Array.getElem?_eq_none h]at this
   simp[hlt]
  ·rw[getD_set_ne false e];exact hl j hj) h') (h.2 i hi)⟩
theorem xK(hB:zG .any l n=true)(hnd:(dk (l.take n)).Nodup)(hh:fw P N pr l.toArray (l.take n) s s kds xs qF)(hw:w0.heap.size<=m)(hEm:∀i,i<s.n->∀b∈E.m i,b<m)(hEA:∀b,E.A b->b<m)
 (htail:jh P N l.toArray (l.drop n) Q qF) {J:Array Bool->Act->World->Prop} (hJt:∀(listed:Array Bool) a w,(∀j,j<n->listed.getD j false=true)->J listed a w)
 (a:Act) (w:World) (fs:Nat->List Nat) (hI:zy P w0 ws N m n s E l kds xs (cZ n (l.length-n)) a w fs):dH P .any l.toArray (AQ w0 N Q) J (l.length-n) (cZ n (l.length-n)) a w:=by
 obtain⟨hsel,hnl,hsink,hseq,hdep⟩:=cq hB;obtain⟨hkl,hxl⟩:=hZ hh;have htl:(l.take n).length=n:=by rw[List.length_take];omega
 rw[htl]at hkl hxl
 have hall:∀j,j<n->(cZ n (l.length-n)).getD j false=true:=by
  intro j hj;simp[cZ,Array.getElem?_append,hj]
 rw[show dH P .any l.toArray (AQ w0 N Q) J (l.length-n)=dH P .any l.toArray (AQ w0 N Q) J (l.drop n).length from by simp];refine wQ hJt _ _ _ _ (by simpa using hall) (wpAny_of_seq (l.drop n) n _ _ w (λj=>by simp[List.getElem?_drop]) (by simpa using hseq) ?_)
 have hrep:aD w0 N (cE s (dk (l.take n))) a w E:=by
  refine Gg hI.rep λt ht=>?_
  obtain⟨j,o,hj,_,ho,hd⟩:=fg.1 ht;exact List.mem_filterMap.2 ⟨o,List.mem_of_getElem? (i:=j) (by rw[List.getElem?_take,if_pos hj];exact ho),hd⟩
 have hfl:∀b,b∈((List.range n).map fs).flatten↔∃j,j<n/\b∈fs j:=by
  intro b;simp only[List.mem_flatten,List.mem_map,List.mem_range];exact⟨λ⟨_,⟨j,hj,e⟩,hb⟩=>⟨j,hj,by rw[e];exact hb⟩,λ⟨j,hj,hb⟩=>⟨_,⟨j,hj,rfl⟩,hb⟩⟩
 have hfin:=fI (E:=E) (a:=a) (w:=w) (s0:=s) (fs:=(List.range n).map fs) (Eq:=if pr then E.plus m w.heap.size else E) hw hh hnd ?_ ?_ ?_ ?_ (Nat.le_refl _) ?_ ?_ ?_ ?_
 ·obtain⟨E',hr'⟩:=hfin;exact htail w0 a w E' hr'
 ·refine AK λi j oi oj t h1 h2 h3 h4=>?_
  rw[List.getElem?_take]at h1 h2;split at h1
  ·rename_i hi;split at h2
   ·rename_i hj;exact(ji hB hi h1 hj h2 h3 h4).1
   ·cases h2
  ·cases h1
 ·refine y9 (by rw[hkl,htl]) (by rw[hxl,htl]) (by simp[htl]) λj o d kd x f h1 h2 h3 h4 h5=>?_
  rw[List.getElem?_take]at h1;split at h1
  ·rename_i hj;have:f=fs j:=by simp[hj]at h5;exact h5.symm
   subst this;exact hI.fact j o d kd x hj (hall j hj) h1 h2 h3 h4
  ·cases h1
 ·cases pr with
  |true=>exact ER hrep hw hEm
  |false=>exact hrep
 ·intro i st _ hl;refine⟨hl,?_⟩;cases pr<;>rfl
 ·intro hp b hb;subst hp;exact hb
 ·refine v7 (λf hf=>?_) ?_
  ·obtain⟨j,hj,rfl⟩:=List.mem_map.1 hf;have hj:=List.mem_range.1 hj;obtain⟨kd,x,_,_,h1,h2,⟨d,hd,_⟩,_⟩:=iy hh j l[j] (by rw[List.getElem?_take,if_pos hj];exact List.getElem?_eq_getElem (by omega));exact C6 (hI.fact j _ d kd x hj (hall j hj) (List.getElem?_eq_getElem (by omega)) hd h1 h2).1
  ·rw[List.pairwise_map]
   have hpw:(List.range n).Pairwise (· ≠ ·):=List.nodup_range
   refine List.Pairwise.imp_of_mem (fun{i j} hi hj hne=>?_) hpw;intro b hb1 hb2;exact hI.dis i j (List.mem_range.1 hi) (List.mem_range.1 hj) (hall i (List.mem_range.1 hi)) (hall j (List.mem_range.1 hj)) hne b hb1 hb2
 ·cases pr with
  |true=>exact .inl rfl
  |false=>
   right;intro b hb hbA;obtain⟨j,hj,hbj⟩:=(hfl b).1 hb;have h1:=hI.blk j hj (hall j hj) b hbj;have h2:=hEA b hbA;omega
 ·intro b hb;obtain⟨j,hj,hbj⟩:=(hfl b).1 hb;have h1:=hI.blk j hj (hall j hj) b hbj;refine⟨h1.2,λi hi=>⟨λhm=>?_,λhm=>?_⟩⟩
  ·have:b∈E.m i:=by cases pr<;>exact hm
   have:=hEm i hi b this;omega
  ·have:b∈E.o i:=by cases pr<;>exact hm
   have:=hEA b (hI.rep.A_o i hi b this);omega
theorem jz(hB:zG .any l n=true)(hnd:(dk (l.take n)).Nodup)(hh:fw P N pr l.toArray (l.take n) s s kds xs qF)(hw:w0.heap.size<=m)(hEm:∀i,i<s.n->∀b∈E.m i,b<m)(hEA:∀b,E.A b->b<m)
 {J:Array Bool->Act->World->Prop} (hJ:∀listed a w fs,HeadInv .any l.toArray n listed->zy P w0 ws N m n s E l kds xs listed a w fs->J listed a w)
 (htail:∀a w fs,zy P w0 ws N m n s E l kds xs (cZ n (l.length-n)) a w fs->dH P .any l.toArray (AQ w0 N Q) J (l.length-n) (cZ n (l.length-n)) a w):
 ∀(f:Nat) (listed:Array Bool) (a:Act) (w:World) (fs:Nat->List Nat),G9 n listed=f->HeadInv .any l.toArray n listed->zy P w0 ws N m n s E l kds xs listed a w fs->dH P .any l.toArray (AQ w0 N Q) J (f+(l.length-n)) listed a w:=by
 obtain⟨hsel,hnl,hsink,hseq,hdep⟩:=cq hB;obtain⟨hkl,hxl⟩:=hZ hh;have htl:(l.take n).length=n:=by rw[List.length_take];omega
 rw[htl]at hkl hxl;intro f
 induction f with
 |zero=>
  intro listed a w fs hu inv hI;obtain rfl:=CY inv hnl hu;rw[Nat.zero_add]
  exact htail a w fs hI
 |succ f ih=>
  intro listed a w fs hu inv hI
  have hex:∃i,i<n/\listed.getD i false=false:=by
   apply Classical.byContradiction;intro hn
   have:(List.range n).filter (λi=>!listed.getD i false)=[]:=by
    rw[List.filter_eq_nil_iff];intro i hi hh;exact hn ⟨i,List.mem_range.1 hi,by simpa using hh⟩
   unfold G9 at hu;rw[this]at hu;cases hu
  have hsz:listed.size=l.length:=by rw[inv.size];simp
  obtain⟨i0,hi0,hun0⟩:=hex
  have hready:Region.ready .any l.toArray listed≠[]:=by
   have:∀k i,i<=k->i<n->listed.getD i false=false->∃j,j∈Region.ready .any l.toArray listed:=by
    intro k
    induction k with
    |zero=>
     intro i hik hin hun;obtain rfl:i=0:=by omega
     have hlt:0<l.length:=by omega
     refine⟨0,mem_ready.2 ⟨getD_in (by omega) hun,l[0],by simp[hlt],λe he hb=>?_⟩⟩;have:=(hdep 0 l[0] hin (List.getElem?_eq_getElem hlt)).1 e he hb
     omega
    |succ k ihk=>
     intro i hik hin hun;have hlt:i<l.length:=by omega
     by_cases hall:∀j,j<i->listed.getD j false=true
     ·exact⟨i,mem_ready.2 ⟨getD_in (by omega) hun,l[i],by simp[hlt],λe he hb=>hall _ ((hdep i l[i] hin (List.getElem?_eq_getElem hlt)).1 e he hb)⟩⟩
     ·have:∃j,j<i/\listed.getD j false=false:=by
       apply Classical.byContradiction;intro hn
       exact hall λj hj=>by
        cases h:listed.getD j false with
        |true=>rfl
        |false=>exact absurd ⟨j,hj,h⟩ hn
      obtain⟨j,hj,hju⟩:=this;exact ihk j (by omega) (by omega) hju
   obtain⟨j,hj⟩:=this i0 i0 (Nat.le_refl _) hi0 hun0;intro e;rw[e]at hj;cases hj
  rw[show f+1+(l.length-n)=(f+(l.length-n))+1 from by omega];refine⟨hJ _ _ _ _ inv hI,λh=>absurd h hready,λi hi=>?_⟩
  have hin:i<n:=by
   obtain⟨_,oi,hoi,_⟩:=mem_ready.1 hi
   have hil:i<l.length:=by
    have:=(Array.getElem?_eq_some_iff.1 hoi).1;simpa using this
   rcases hsink with rfl|⟨hlt,hs,hc⟩
   ·exact hil
   ·rcases Nat.lt_or_ge i n with h|h
    ·exact h
    ·exact absurd hi (tail_waits hs hc (by simpa using hlt) inv _ i0 rfl hi0 (getD_in (by omega) hun0) i h)
  obtain⟨hun,oi,hoi,hall⟩:=mem_ready.1 hi;have hoil:l[i]? =some oi:=by simpa using hoi
  have hilt:i<l.length:=(List.getElem?_eq_some_iff.1 hoil).1;obtain⟨kd,x,qi,qi',hkd,hx,⟨d,hd,hdN⟩,hstp⟩:=iy hh i oi (by rw[List.getElem?_take,if_pos hin];exact hoil);have htt:(l.take n).take i=l.take i:=by rw[List.take_take,Nat.min_eq_left (by omega)]
  rw[htt]at hstp
  have hlook:∀t∈oi.looksAt l.toArray,ba w (E.plus m w.heap.size) s.lv s.c ((kT s (l.take i) xs).sl t) (a.tmps.getD t undef):=by
   intro t ht;by_cases hex:∃j oj,j<n/\l[j]? =some oj/\oj.dst=some t
   ·obtain⟨j,oj,hj,hoj,hdj⟩:=hex;obtain⟨hji,hwt⟩:=ji hB hin hoil hj hoj hdj ht
    have hlj:listed.getD j false=true:=by
     obtain⟨oi',hoi',e,he,hb,hon⟩:=Region.waitsFor_spec hwt;have:oi'=oi:=Option.some.inj (hoi'.symm.trans hoi);subst this;rw[<-hon];exact hall e he hb
    have hjx:j<xs.length:=by omega
    have hjk:j<kds.length:=by omega
    have hs:=(hI.fact j oj t _ _ hj hlj hoj hdj (List.getElem?_eq_getElem hjk) (List.getElem?_eq_getElem hjx)).2
    have hnd':(dk (l.take i)).Nodup:=by
     have:l.take n=l.take i++(l.take n).drop i:=by rw[<-htt,List.take_append_drop]
     rw[this]at hnd;unfold dk at hnd;rw[List.filterMap_append]at hnd;exact(List.nodup_append.1 hnd).1
    rw[sk hnd' (by rw[List.getElem?_take,if_pos hji];exact hoj) (List.getElem?_eq_getElem hjx) hdj];exact hs
   ·have hout:(kT s (l.take i) xs).sl t=s.sl t:=by
     refine og λo ho hdo=>?_
     obtain⟨j,hj,rfl⟩:=List.mem_iff_getElem.1 ho;have hji:j<i:=by simp at hj;omega
     exact hex ⟨j,_,by omega,by rw[List.getElem?_eq_getElem (by omega)],by rw[List.getElem_take]at hdo;exact hdo⟩
    rw[hout];have:=hI.rep.slot t;simp only[cE]at this
    rw[if_neg (by
     simp only[List.contains_iff_mem];intro hm;obtain⟨j,o,hj,_,ho,hdo⟩:=fg.1 hm
     exact hex ⟨j,o,hj,ho,hdo⟩)]at this
    exact this.stay ⟨λb hb=>⟨.inl hb,rfl⟩,λi st _ h=>⟨h,rfl⟩,Nat.le_refl _⟩
  obtain⟨ha1,ha2,ha3⟩:=kP (l:=l.take i) (xs:=xs) (s:=s)
  have hrepH:aD w0 N {s with sl:=λt=>if(oi.looksAt l.toArray).contains t then(kT s (l.take i) xs).sl t else .und} a w (E.plus m w.heap.size):=by
   have hg:=ER hI.rep hw hEm
   have:=zq hg (sl':=λt=>if(oi.looksAt l.toArray).contains t then(kT s (l.take i) xs).sl t else .und) (λt=>by
    split
    ·rename_i ht;exact hlook t (by simpa using ht)
    ·trivial)
   exact this
  have hal:dI (kT s (l.take i) xs) {s with sl:=λt=>if(oi.looksAt l.toArray).contains t then(kT s (l.take i) xs).sl t else .und} oi.op.operands.toList:=by
   refine⟨ha1.symm,ha2.symm,λt ht=>?_⟩;have:t∈oi.looksAt l.toArray:=List.mem_append_left _ (List.mem_filterMap.2 ⟨.tmp t,ht,rfl⟩);simp only;rw[if_pos (by simpa using this)]
  have hIA:∀b,E.A b->b<w.heap.size:=λb hb=>Nat.lt_of_lt_of_le (hEA b hb) hI.le
  have hnext:∀v w' f',Below w.heap.size w w'->(∀b∈f',w.heap.size<=b/\b<w'.heap.size)->AN P m E s.lv s.c a w' v f' kd->ba w' (E.plus m w'.heap.size) s.lv s.c x v->(QM l n->w'.heap=w.heap)->
   dH P .any l.toArray (AQ w0 N Q) J (f+(l.length-n)) (listed.setIfInBounds i true) (a.put oi.dst v) w':=by
   intro v w' f' hb hf' hfa hsl hpw;have hlt:i<listed.size:=by omega
   have hcount:=o5 (λk=>!listed.getD k false) (λk=>!(listed.setIfInBounds i true).getD k false)
    (λk hk=>by
     by_cases e:i=k
     ·subst e;simp[hlt]at hk
     ·rwa [getD_set_ne false e]at hk)
    (List.range n) i (List.mem_range.2 hin) (by simp[getD_both hun]) (by simp[hlt]) List.nodup_range
    (λk hk hne=>by rw[getD_set_ne false (Ne.symm hne)];exact hk)
   have hset:∀j,(listed.setIfInBounds i true).getD j false=true->j=i\/listed.getD j false=true:=by
    intro j hj;by_cases e:i=j
    ·exact .inl e.symm
    ·rw[getD_set_ne false e]at hj;exact .inr hj
   have hundne:∀j oj,j<n->listed.getD j false=true->l[j]? =some oj->oj.dst≠some d:=by
    intro j oj hj hlj hoj hdj;have hne:j≠i:=λe=>by subst e;rw[getD_both hun]at hlj;cases hlj
    have key:∀{l':List Oper} {p q:Nat} {op oq:Oper} {t:Nat},(dk l').Nodup->l'[p]? =some op->l'[q]? =some oq->op.dst=some t->oq.dst=some t->p=q:=by
     intro l'
     induction l' with
     |nil=>intro p q op oq t _ h1;simp at h1
     |cons z l' ih=>
      intro p q op oq t hn h1 h2 h3 h4
      have hn':(dk l').Nodup:=by
       unfold dk at hn ⊢;rw[List.filterMap_cons]at hn;split at hn
       ·exact hn
       ·exact(List.nodup_cons.1 hn).2
      have hz:∀(y:Oper),z.dst=some t->y∈l'->y.dst≠some t:=by
       intro y hzt hy hyt;unfold dk at hn;rw[List.filterMap_cons,hzt]at hn;exact(List.nodup_cons.1 hn).1 (List.mem_filterMap.2 ⟨y,hy,hyt⟩)
      cases p with
      |zero=>cases q with
       |zero=>rfl
       |succ q=>simp at h1 h2;subst h1;exact absurd h4 (hz oq h3 (List.mem_of_getElem? h2))
      |succ p=>cases q with
       |zero=>simp at h1 h2;subst h2;exact absurd h3 (hz op h4 (List.mem_of_getElem? h1))
       |succ q=>exact congrArg (· +1) (ih hn' (by simpa using h1) (by simpa using h2) h3 h4)
    exact hne (key hnd (by rw[List.getElem?_take,if_pos hj];exact hoj) (by rw[List.getElem?_take,if_pos hin];exact hoil) hdj hd)
   refine ih _ _ w' (λj=>if j=i then f' else fs j) ?_ (inv.set hi hin) ⟨?_,Nat.le_trans hI.le hb.size,?_,?_,?_,λhp=>(hpw hp).trans (hI.bl hp)⟩
   ·unfold G9 at hu ⊢;omega
   ·have h1:=(hI.rep.world' hb).put (d:=oi.dst) (x:=.und) (v:=v) trivial (λk hk=>by have e:=Option.some.inj (hd.symm.trans hk);rw[<-e];exact hdN);refine h1.weaken (s':=cE s (Hd l n (listed.setIfInBounds i true))) (by rw[AS.put_n];exact Nat.le_refl _) (by rw[AS.put_c];exact Nat.le_refl _) (λj _=>.inl (by rw[AS.put_ob];rfl)) (λt=>?_);simp only[cE];by_cases ht:t∈Hd l n (listed.setIfInBounds i true)
    ·right;rw[if_pos (by simpa using ht)]
    ·left;rw[if_neg (by simpa using ht)];have htd:oi.dst≠some t:=λe=>ht (fg.2 ⟨i,oi,hin,by simp[hlt],hoil,e⟩)
     rw[yo htd];simp only[cE]
     rw[if_neg (by
      simp only[List.contains_iff_mem];intro hm;obtain⟨j,oj,hj,hlj,hoj,hdj⟩:=fg.1 hm;refine ht (fg.2 ⟨j,oj,hj,?_,hoj,hdj⟩);by_cases e:i=j
      ·subst e;simp[hlt]
      ·rw[getD_set_ne false e];exact hlj)]
   ·intro j oj dj kdj xj hj hlj hoj hdj hkdj hxj;by_cases e:j=i
    ·subst e;have:oj=oi:=Option.some.inj (hoj.symm.trans hoil);subst this;rw[hd]at hdj;injection hdj with hdj;subst hdj;rw[hkd]at hkdj;injection hkdj with hkdj;subst hkdj;rw[hx]at hxj;injection hxj with hxj;subst hxj;rw[hd,Ju (by rw[hI.rep.size];exact hdN),if_pos rfl];refine⟨?_,hsl⟩;refine yu hfa (Below.refl _ _) ?_;intro y hy hyt;have hop:Operand.tmp d∈oj.op.operands.toList:=hyt▸A4 hstp y hy;have hlk:d∈oj.looksAt l.toArray:=List.mem_append_left _ (List.mem_filterMap.2 ⟨.tmp d,hop,rfl⟩);have:=(ji hB hin hoil hin hoil hd hlk).1;omega
    ·have hlj':listed.getD j false=true:=(hset j hlj).resolve_left e;obtain⟨g1,g2⟩:=hI.fact j oj dj kdj xj hj hlj' hoj hdj hkdj hxj;have hne:dj≠d:=λe'=>hundne j oj hj hlj' hoj (by rw[hdj,e'])
     rw[hd,m8 hne,if_neg e];refine⟨yu g1 hb ?_,g2.stay (yH hb hIA)⟩;intro y hy hyt
     have hop:Operand.tmp d∈oj.op.operands.toList:=by
      obtain⟨kd',x',qj,qj',h1,h2,_,hst⟩:=iy hh j oj (by rw[List.getElem?_take,if_pos hj];exact hoj);rw[hkdj]at h1;injection h1 with h1;subst h1;exact hyt▸A4 hst y hy
     have hlk:d∈oj.looksAt l.toArray:=List.mem_append_left _ (List.mem_filterMap.2 ⟨.tmp d,hop,rfl⟩);obtain⟨_,hwt⟩:=ji hB hj hoj hin hoil hd hlk;obtain⟨oj',hoj',ed,he,hbd,hon⟩:=Region.waitsFor_spec hwt;have:oj'=oj:=Option.some.inj (hoj'.symm.trans (by simpa using hoj));subst this;have:=inv.closed j oj' hoj' hlj' ed he hbd;rw[hon,getD_both hun]at this;cases this
   ·intro j hj hlj b hbj;by_cases e:j=i
    ·rw[if_pos e]at hbj;have:=hf' b hbj;have:=hI.le;omega
    ·rw[if_neg e]at hbj;have h1:=hI.blk j hj ((hset j hlj).resolve_left e) b hbj;have:=hb.size;omega
   ·intro p q' hp hq hlp hlq hne b hbp hbq;by_cases e1:p=i
    ·by_cases e2:q'=i
     ·omega
     ·rw[if_pos e1]at hbp;rw[if_neg e2]at hbq;have h1:=hf' b hbp;have h2:=hI.blk q' hq ((hset q' hlq).resolve_left e2) b hbq;omega
    ·by_cases e2:q'=i
     ·rw[if_neg e1]at hbp;rw[if_pos e2]at hbq;have h1:=hf' b hbq;have h2:=hI.blk p hp ((hset p hlp).resolve_left e1) b hbp;omega
     ·rw[if_neg e1]at hbp;rw[if_neg e2]at hbq;exact hI.dis p q' hp hq ((hset p hlp).resolve_left e1) ((hset q' hlq).resolve_left e2) hne b hbp hbq
  have bS:sy P pr (kT s (l.take i) xs) qi oi kd x qi'->oi.wp P a w (λa' w'=>dH P .any l.toArray (AQ w0 N Q) J (f+(l.length-n)) (listed.setIfInBounds i true) a' w') (AQ w0 N Q):=by
   intro hr;have hk:=L7 hr hal hrepH hIA hI.le
   have hk2:oi.wp P a w (λa' w'=>Q3 P m s.lv s.c oi a w E kd x a' w'/\(QM l n->w'.heap=w.heap)) (λ_ _ _=>False):=by
    by_cases hp:QM l n
    ·obtain⟨y,hy⟩:=wZ hr (hp oi (List.mem_of_getElem? (i:=i) (by rw[List.getElem?_take,if_pos hin];exact hoil)));obtain⟨v,hv,-⟩:=Fn (by rw[ij hal];exact hy) _ _ _ _ _ hrepH;unfold Oper.wp at hk ⊢;rw[hv,Oper.upon_value]at hk ⊢;exact⟨hk,λ_=>rfl⟩
    ·exact Oper.wp_mono (λa' w' h=>⟨h,λh'=>absurd h' hp⟩) hk
   refine Oper.wp_mono2 (λa' w' hp=>?_) hk2;obtain⟨⟨v,f',rfl,hb,hf',hfa,hsl⟩,hpw⟩:=hp;exact hnext v w' f' hb hf' hfa hsl hpw
  unfold wpOp;simp only[hoi]
  cases hgd:oi.guard with
  |none=>
   rw[hgd]at hstp;rw[if_pos (by simp[Region.wanted,hgd])]
   exact .inl (bS hstp)
  |some gw=>
   obtain⟨g,want⟩:=gw;rw[hgd]at hstp;obtain⟨t,b,hgs,htN,hsb,hbb⟩:=hstp
   have hlk:t∈oi.looksAt l.toArray:=by
    unfold Oper.looksAt;refine List.mem_append_right _ ?_;rw[hgd];unfold iM at hgs;simp only[hgs];simp
   have hy:yielded l.toArray a.tmps g=b:=BT (s:={s with sl:=λt=>if(oi.looksAt l.toArray).contains t then(kT s (l.take i) xs).sl t else .und}) hrepH hgs (by simp only;rw[if_pos (by simpa using hlk)];exact hsb) htN;split at hbb
   ·rename_i hw;subst hw;rw[if_pos (by simp[Region.wanted,hgd,hy])];exact .inl (bS hbb)
   ·rename_i hw;rw[if_neg (by simp[Region.wanted,hgd,hy,hw])];obtain⟨rfl,rfl,-⟩:=hbb;exact hnext undef w [] (Below.refl _ _) (by simp) rfl ⟨[],rfl,rfl,λj b cs u h _=>by simp at h⟩ (λ_=>rfl)
theorem BX(n:Nat)(pr:Bool)(hB:jY l n=true)(hh:fw P N pr l.toArray (l.take n) s s kds xs qF)(htail:jh P N l.toArray (l.drop n) Q qF){w0:Cx}{a:Act}{w:World}{E:En}(hr:aD w0 N s a w E):
 wpAny P .any l.toArray (AQ w0 N Q) l.toArray.size (Array.replicate l.toArray.size false) a w:=by
 unfold jY at hB;rw[Bool.and_eq_true,decide_eq_true_eq]at hB;obtain⟨hB,hnd⟩:=hB;have hnl:=(cq hB).2.1
 have hu:G9 n (Array.replicate l.toArray.size false)=n:=by
  unfold G9
  have:(List.range n).filter (λi=>!(Array.replicate l.toArray.size false).getD i false)=List.range n:=by
   rw[List.filter_eq_self];intro i _;rw[getD_replicate_false];rfl
  rw[this];simp
 have hr':aD w0 N s a w E:=hr
 have h:=xg _ _ _ _<|jz (J:=λ_ _ _=>True) (m:=w.heap.size) (E:=E) hB hnd hh hr'.bel.size (λi hi b hb=>hr'.m_lt i hi b hb) hr'.A_lt (λ_ _ _ _ _ _=>trivial) (xK hB hnd hh hr'.bel.size (λi hi b hb=>hr'.m_lt i hi b hb) hr'.A_lt htail (λ_ _ _ _=>trivial)) n (Array.replicate l.toArray.size false) a w (λ_=>[]) hu
  ⟨by simp,λj oj _ hl=>(by rw[getD_replicate_false]at hl;cases hl),λt _ ht=>getD_in (by simpa using ht) (getD_replicate_false _ _)⟩
  ⟨by
   have:Hd l n (Array.replicate l.toArray.size false)=[]:=by
    rw[List.eq_nil_iff_forall_not_mem];intro t ht;obtain⟨j,o,_,hl,_⟩:=fg.1 ht;rw[getD_replicate_false]at hl;cases hl
   rw[this];have e:cE s []=s:=by unfold cE;simp
   rw[e];exact hr',Nat.le_refl _,λj o d kd x _ hl=>(by rw[getD_replicate_false]at hl;cases hl),λj _ hl=>(by rw[getD_replicate_false]at hl;cases hl),λi j _ _ hl=>(by rw[getD_replicate_false]at hl;cases hl),λ_=>rfl⟩
 rw[show l.toArray.size=n+(l.length-n)from by simp;omega];rw[show(Array.replicate l.toArray.size false)=Array.replicate (n+(l.length-n)) false from by congr 1;simp;omega]at h;exact h
theorem Jx{id:Nat}(n:Nat)(pr:Bool)(hm:P.follows .mixedOrders=true)(hB:jY l n=true)(hh:fw P N pr l.toArray (l.take n) s s kds xs qF)(htail:jh P N l.toArray (l.drop n) Q qF):oP P N (.region id l.toArray true) Q s:=
 λw0 a w E hr=>wp_region_any hm (BX n pr hB hh htail (hr.world' (Below.refl _ _).drew))
end
end Go.Proofs.Ytngaddcgmnonbaa
namespace Go.Proofs.Ytngaddcgmnonbaa
open Go.RowKit
theorem NG(b:Bool)(cs:List AC):jo false (.p b cs)=if cs.all cU then .p b cs else .und:=rfl
theorem Pq(xs:List (Bool×List AC)):jo false (.tup xs)=.und:=rfl
theorem NW:jo false .und=.und:=rfl
theorem GT(x:AV):jo true x=x:=rfl
theorem Oh(c t k:Nat)(es:List (List DV)):xM false c t k es=.row c t k es true:=rfl
theorem Ns(c t k:Nat)(es:List (List DV)):xM true c t k es=.dx c (.sl t k es):=rfl
def dS(N:Nat):Option Nat->Bool
 |some d=>decide (d<N)
 |none=>false
def RI(K:AS->AS->Prop)(pr:Bool)(d:Option Nat)(h q:AS):Option AV->Prop
 |some y=>K (h.put d y) (q.put d (jo pr y))
 |none=>False
def HC(P:Program)(pr:Bool)(o:Oper)(K:AS->AS->Prop)(h q:AS):Prop:=∃kd x q',sy P pr h q o kd x q'/\K (h.put o.dst x) q'
def Jk(K:AS->AS->Prop)(d:Option Nat)(h q:AS)(el k:Nat):Option (List (List AC))->Option (List (List AC))->Prop
 |some es,some esq=>K (h.put d (rq el k es)) ((q.push (.arr q.c el k esq)).put d (.p false [.own q.n q.c]))
 |_,_=>False
def M9(P:Program)(K:AS->AS->Prop)(pr:Bool)(d:Option Nat)(h q:AS)(len:Nat)(parts:List (Nat×Operand)):Option (TypeId×Nat)->Prop
 |some (el,k)=>(pr=false/\(ci P el).isSome=true/\0<k/\parts.length=len/\len*k<=16777216)/\Jk K d h q el k (ut h k parts 0) (ut q k parts 0)
 |none=>False
def OE(P:Program)(pr:Bool)(o:Oper)(K:AS->AS->Prop)(h q:AS)(args:List Operand)(ts:List TypeId):Callee->Prop
 |.builtin .len=>RI K pr o.dst h q (sq P h (.builtin .len) args ts)
 |_=>HC P pr o K h q
def TF(K:AS->AS->Prop)(pr:Bool)(d:Option Nat)(h q:AS)(t:TypeId):Option (List AC)->Prop
 |some cs=>pr=false/\K (h.put d .und) ((q.push (.var q.c t cs)).put d (.p false [.ptr q.n q.c 0]))
 |none=>False
def Tp(K:AS->AS->Prop)(pr:Bool)(d:Option Nat)(h q:AS):Option AV->Option AV->Prop
 |some y,some z=>K (h.put d y) (q.put d (if pr then y else z))
 |_,_=>False
def Mc(P:Program)(pr:Bool)(o:Oper)(K:AS->AS->Prop)(h q:AS):Op->Prop
 |.call c=>OE P pr o K h q c.args.toList c.argTypes.toList c.callee
 |.buildSlice t len parts=>M9 P K pr o.dst h q len parts.toList (fh P t)
 |.build t parts=>RI K pr o.dst h q (oS P h (.build t parts))
 |.alloc t=>TF K pr o.dst h q t (et P t)
 |.move x=>Tp K pr o.dst h q (some (h.ev x)) (some (q.ev x))
 |.extract x ix=>Tp K pr o.dst h q (JQ ix (h.ev x)) (JQ ix (q.ev x))
 |op=>RI K pr o.dst h q (hV P h op)
def TG(P:Program)(pr:Bool)(o:Oper)(K:AS->AS->Prop)(h q:AS)(want:Bool):AV->Prop
 |.p false [.d (.sc (.bool b))]=>if b=want then Mc P pr o K h q o.op else K (h.put o.dst (.tup [])) (q.put o.dst (jo pr (.tup [])))
 |.tup []=>K (h.put o.dst (.tup [])) (q.put o.dst (jo pr (.tup [])))
 |_=>False
def Oc(P:Program)(N:Nat)(pr:Bool)(o:Oper)(K:AS->AS->Prop)(h q:AS)(want:Bool):Option Nat->Prop
 |some t=>t<N/\TG P pr o K h q want (h.sl t)
 |none=>False
def TH(P:Program)(N:Nat)(pr:Bool)(ops:Array Oper)(o:Oper)(K:AS->AS->Prop)(h q:AS):Option (Nat×Bool)->Prop
 |none=>Mc P pr o K h q o.op
 |some (g,want)=>Oc P N pr o K h q want (iM ops g)
def Tv(P:Program)(N:Nat)(pr:Bool)(ops:Array Oper):List Oper->(AS->Prop)->AS->AS->Prop
 |[],K,h,q=>K q
 |o::r,K,h,q=>dS N o.dst=true/\TH P N pr ops o (Tv P N pr ops r K) h q o.guard
section
variable {P:Program}{N:Nat}{pr:Bool}{s h q:AS}{o:Oper}{K:AS->AS->Prop}{ops:Array Oper}
end
attribute[go_sem] xW.eq_5 xW.eq_6 xd.eq_5 jr.eq_6 jr.eq_7 rH.eq_4 rH.eq_5 B7.eq_7 B7.eq_8 cU.eq_7 cU.eq_8 List.isEmpty_cons List.isEmpty_nil
attribute[go_sem] aw.eq_1 aw.eq_2 aw.eq_3 aw.eq_4 aw.eq_5 aw.eq_6 aw.eq_7 aw.eq_8 SN.eq_1 SN.eq_2 TK.eq_1 TK.eq_2
attribute[go_sem] Kf.eq_1 Kf.eq_2 Kf.eq_3 Kf.eq_4 Kf.eq_5 Kf.eq_6 Kf.eq_7 Kf.eq_8 kV.eq_1 kV.eq_2 K6.eq_1 K6.eq_2
attribute[go_sem] Po.eq_1 Po.eq_2 IM.eq_1 IM.eq_2 Nz.eq_1 Nz.eq_2 TO.eq_1 TO.eq_2 NM.eq_1 NM.eq_2 TU.eq_1 TU.eq_2
attribute[go_sem] Tj.eq_1 Tj.eq_2 kG.eq_1 kG.eq_2 TQ.eq_1 TQ.eq_2 kC.eq_1 kC.eq_2 ND.eq_1 ND.eq_2 GJ.eq_1 GJ.eq_2
attribute[go_sem] dB.eq_1 dB.eq_2 hV.eq_1 hV.eq_2 hV.eq_3 hV.eq_4 hV.eq_5 hV.eq_6 hV.eq_7 hV.eq_8 hV.eq_9 hV.eq_10
attribute[go_sem] hV.eq_11 hV.eq_12 hV.eq_13 hV.eq_14 hV.eq_15 Rc.eq_1 Rc.eq_2 xV.eq_1 xV.eq_2 xV.eq_3 xV.eq_4 AX.eq_1 AX.eq_2 KB.eq_1 Ma.eq_1
attribute[go_sem] Ma.eq_2 Ma.eq_3 Bs.eq_1 Bs.eq_2 D0 wy.eq_1 wy.eq_2 wy.eq_3 wy.eq_4 wy.eq_5 wy.eq_6 dA.eq_1 dA.eq_2
attribute[go_sem] dA.eq_3 dA.eq_4 dA.eq_5 dA.eq_6 dA.eq_7 dA.eq_8 dA.eq_9 dA.eq_10 dA.eq_11 dA.eq_12 dA.eq_13 dA.eq_14
attribute[go_sem] dA.eq_15 dA.eq_16 dA.eq_17 mM.eq_1 mM.eq_2 mM.eq_3 mM.eq_4 mM.eq_5 mM.eq_6 mM.eq_7 mM.eq_8 P9.eq_1
attribute[go_sem] P9.eq_2 Kj.eq_1 Kj.eq_2 Kj.eq_3 Kc.eq_1 Kc.eq_2 Ki MK.eq_1 MK.eq_2 MK.eq_3 P4.eq_1 P4.eq_2 JQ.eq_1
attribute[go_sem] JQ.eq_2 sq.eq_1 sq.eq_2 jr.eq_1 jr.eq_2 jr.eq_3 jr.eq_4 jr.eq_5 rH.eq_1 rH.eq_2 rH.eq_3 jq.eq_1
attribute[go_sem] AS.evI.eq_1 AS.evI.eq_2 AS.ev.eq_1 AS.ev.eq_2 AS.ev.eq_3 SL.eq_1 Hv.eq_1 Hv.eq_2 Hv.eq_3 Hv.eq_4 Hv.eq_5 AS.own?.eq_1
attribute[go_sem] AS.put.eq_1 AS.put.eq_2 AS.pushL.eq_1 AS.pushL.eq_2 cA.eq_1 cA.eq_2 cA.eq_3 B7.eq_1 B7.eq_2 B7.eq_3 B7.eq_4 B7.eq_5
attribute[go_sem] B7.eq_6 gt.eq_1 gt.eq_2 ut.eq_1 ut.eq_2 Ob.st.eq_1 Ob.st.eq_2 Ob.st.eq_3 Ob.st.eq_4 Ob.st.eq_5 Ob.st.eq_6 Cq.eq_1 Cq.eq_2
attribute[go_sem] ML.eq_1 ML.eq_2 en.eq_1 en.eq_2 en.eq_3 nF.eq_1 nF.eq_2 nF.eq_3 FW.eq_1 FW.eq_2 FW.eq_3 MJ.eq_1
attribute[go_sem] MJ.eq_2 iM nv AS.push Hh plug bM NG Pq NW GT cU.eq_1
attribute[go_sem] cU.eq_2 cU.eq_3 cU.eq_4 cU.eq_5 cU.eq_6 Tv.eq_1 Tv.eq_2 TH.eq_1 TH.eq_2 Oc.eq_1 Oc.eq_2 TG.eq_1
attribute[go_sem] TG.eq_2 Mc.eq_1 Mc.eq_2 Mc.eq_3 Mc.eq_4 Mc.eq_5 Mc.eq_6 Mc.eq_7 TF.eq_1 TF.eq_2 Tp.eq_1 OE.eq_1 OE.eq_2 M9.eq_1 M9.eq_2 Jk.eq_1 Jk.eq_2 RI.eq_1
attribute[go_sem] RI.eq_2 dS.eq_1 dS.eq_2 oS.eq_1 oS.eq_2 rq LJ.eq_1 LJ.eq_2 dL.eq_1 dL.eq_2 dL.eq_3 jO
attribute[go_sem] QW RU Qo.eq_1 Mw.eq_1 Mw.eq_2 Mw.eq_3 fF.eq_1 fF.eq_2 fF.eq_3 G3.eq_1 G3.eq_2 G3.eq_3 xW.eq_1 xW.eq_2
attribute[go_sem] xW.eq_3 xW.eq_4 rW.eq_1 rW.eq_2 rW.eq_3 wE.eq_1 wE.eq_2 wE.eq_3 xd.eq_1 xd.eq_2 xd.eq_3 xd.eq_4
attribute[go_sem] mX.eq_1 mX.eq_2 mX.eq_3 dy.eq_1 dy.eq_2 dy.eq_3 Lu.eq_1 Lu.eq_2 Lu.eq_3 jA.eq_1 jA.eq_2 jA.eq_3 Oh Ns
attribute[go_sem] nY AS.kill AS.frz
attribute[go_sem] decide_eq_true_eq List.getElem?_cons_zero List.getElem?_cons_succ List.getElem?_nil List.drop_succ_cons List.drop_zero List.take_succ_cons List.take_zero List.length_cons List.length_nil List.map_cons List.map_nil
attribute[go_sem] List.all_cons List.all_nil Bool.and_true Option.bind_some Option.isSome_some true_and and_true ne_eq List.nil_append List.cons_append List.append_nil Option.some.injEq
attribute[go_sem] List.getElem?_toArray Int.toNat_natCast Int.natCast_nonneg Nat.zero_add Bool.false_eq_true Bool.not_true Bool.not_false not_false_eq_true not_true_eq_false and_self List.drop_nil decide_true
attribute[go_sem] decide_false Bool.and_self Bool.true_and Nat.lt_add_one false_implies implies_true Nat.add_zero DV.sl.injEq exists_eq_left exists_eq_left' exists_eq Prod.mk.injEq
end Go.Proofs.Ytngaddcgmnonbaa
namespace Go.Proofs.Ytngaddcgmnonbaa
open Go.RowKit
def PE(w:World)(base:Nat):List Value->List DV->List (List Nat)->Prop
 |[],[],[]=>True
 |v::vs,d::ds,f::fs=>bi w base [v] [d] f/\PE w base vs ds fs
 |_,_,_=>False
structure BW(w w':World)(f:List Nat):Prop where
 os:w'.os=w.os
 tape:w'.tape=w.tape
 output:w'.output=w.output
 size:w.heap.size<=w'.heap.size
 block:∀b,b<w.heap.size->b∉f->w'.heap[b]? =w.heap[b]?
def Fg(P:Program)(f:FuncId)(b:Bool)(ds:List DV)(k:Int)(ds':List DV)(k':Int):Prop:=
 bf P f=true/\∀(w:World) (base:Nat) (v:Value) (vals:List Value) (fs:List (List Nat)),(if b then v=.agg vals.toArray else vals=[v])->PE w base vals ds fs->fs.flatten.Nodup->
  Calls P f #[v,.int .i64 k] w λe w'=>e=.returned (.int .i64 k')/\PE w' base vals ds' fs/\BW w w' fs.flatten
def II(s:AS):List (Nat×Nat×DV)->AS
 |[]=>s
 |p::L=>II {s with ob:=upd s.ob p.1 (.dx p.2.1 p.2.2)} L
section
variable {P:Program}{w0:Cx}{w w':World}{N:Nat}{s:AS}{a:Act}{E:En}{o:Oper}
end
attribute[go_sem] II.eq_1 II.eq_2
end Go.Proofs.Ytngaddcgmnonbaa
namespace Go.Proofs.Ytngaddcgmnonbaa
open Go.RowKit
def cX(Q:Exit->AS->Prop):Exit->AS->Prop
 |.normal,s=>Q .normal s
 |_,_=>False
def addEdge(l:List Oper)(j:Nat)(e:Edge):List Oper:=match l[j]? with|some o=>l.set j {o with after:=o.after.push e}|none=>l
def vJ(md:Region.Mode)(ops:Array Oper)(listed:Array Bool):Prop:=∀k ok,ops[k]? =some ok->listed.getD k false=true->∀e∈ok.after,Region.binds md e=true->listed.getD e.on false=true
section
variable {P:Program}{md:Region.Mode}{Q:Exit->Act->World->Prop}{l:List Oper}
end
end Go.Proofs.Ytngaddcgmnonbaa
namespace Go.Proofs.Ytngaddcgmnonbaa
open Go.RowKit
def Gw:Op->Bool
 |.move _|.extract _ _|.binOp _ _ _ _ _|.unOp _ _ _|.fieldAddr _ _ _|.indexAddr _ _ _=>true
 |.assign _|.slice _ _ _ _ none|.nilCheck _=>true
 |.call ⟨.builtin .max,_,_⟩|.call ⟨.builtin .min,_,_⟩|.call ⟨.builtin .len,_,_⟩=>true
 |_=>false
def Ir:Op->Bool
 |.load _ (.tmp _)=>true
 |_=>false
theorem KZ{P:Program}{w0:Cx}{w:World}{N:Nat}{s:AS}{a:Act}{E:En}(h:aD w0 N s a w E){t:TypeId}{f:Nat}{y x:AV}{v:Value}(hx:KB P s t f y=some x)(hy:ba w E s.lv s.c y v):∃u,∀w',(Instr.fieldAt t v f).run P w'=.ok u w':=by
 unfold KB at hx;split at hx
 ·rename_i fo k ag hf;split at hx
  ·rename_i hk;split at hx
   ·rename_i i st off;split at hx
    ·rename_i hs;obtain⟨ob,ho⟩:=Option.isSome_iff_exists.1 hs;obtain⟨hi,ho,hl⟩:=af ho;obtain⟨g,e1,rfl⟩:=(aA hy).2 hl;exact⟨_,λw'=>m6 P hf hk⟩
    ·cases hx
   ·rename_i i st k' j off;split at hx
    ·rename_i hs;obtain⟨ob,ho⟩:=Option.isSome_iff_exists.1 hs;obtain⟨hi,ho,hl⟩:=af ho;obtain⟨g,n,cp,e1,rfl⟩:=(aA hy).2 hl;exact⟨_,λw'=>m6 P hf hk⟩
    ·cases hx
   ·rename_i cs;obtain⟨b,off,vals,rfl,_⟩:=aA hy;exact⟨_,λw'=>m6 P hf hk⟩
   ·rename_i i st;split at hx
    ·rename_i ob id t' x' cs' ho;obtain⟨hi,ho,hl⟩:=af ho;have h1:=h.obj i hi;rw[ho]at h1;obtain⟨g,u',_,e2,_⟩:=h1;have e1:=(aA hy).2 hl;rw[e2]at e1;subst e1;exact⟨_,λw'=>m6 P hf hk⟩
    ·cases hx
   ·cases hx
  ·cases hx
 ·cases hx
theorem JZ{P:Program}{w0:Cx}{w:World}{N:Nat}{s:AS}{a:Act}{E:En}(h:aD w0 N s a w E){t:TypeId}{c:AC}{i:Int}{ki:IntKind}{x:AV}{v:Value}(hx:qG P s t c i=some x)(hy:dM w E s.lv s.c c v):
 ∃u,∀w',(Instr.indexAt t v (.int ki i)).run P w'=.ok u w':=by
 unfold qG at hx;split at hx
 ·rename_i hi0;obtain⟨j,rfl⟩:=Int.eq_ofNat_of_zero_le hi0;simp only[Int.toNat_natCast]at hx;split at hx
  ·rename_i el k' t' k es ht;split at hx
   ·rename_i hk;subst hk;split at hx
    ·rename_i e he;injection hx with hx;subst hx;obtain⟨b,off,cp,vals,rfl,hj,hA,h0,h1,hr,hat⟩:=aH.elem hy he;exact⟨_,λw'=>je P ht hj⟩
    ·cases hx
   ·cases hx
  ·rename_i el k' id st ht;split at hx
   ·rename_i st' t' k es dp ho;obtain⟨hi,ho,hl⟩:=af ho;split at hx
    ·rename_i hk;obtain⟨rfl,hj⟩:=hk;injection hx with hx;subst hx;obtain⟨g,n,cp,vals,e1,_,_,e2⟩:=lJ h hi ho (List.getElem?_eq_getElem hj);subst e2;have:=hy.2 hl;subst this;rw[e1];exact⟨_,λw'=>je P ht hj⟩
    ·cases hx
   ·rename_i st' t' k es ho;obtain⟨hi,ho,hl⟩:=af ho;split at hx
    ·rename_i hk;obtain⟨rfl,hj⟩:=hk;injection hx with hx;subst hx;obtain⟨g,n,cp,vals,e1,_,_,e2⟩:=wj h hi ho (List.getElem?_eq_getElem hj);subst e2;have:=hy.2 hl;subst this;rw[e1];exact⟨_,λw'=>je P ht hj⟩
    ·cases hx
   ·rename_i st' t' k es ho;obtain⟨hi,ho,hl⟩:=af ho;split at hx
    ·rename_i hk;subst hk;split at hx
     ·rename_i e he;injection hx with hx;subst hx;have:=hy.2 hl;subst this;obtain⟨b,off,cp,vals,e1,hj,hA,h0,h1,hr,hat⟩:=aH.elem (tp h hi ho) he;rw[e1];exact⟨_,λw'=>je P ht hj⟩
     ·cases hx
    ·cases hx
   ·cases hx
  ·rename_i el k' id st k lo n ht;split at hx
   ·rename_i st' t' k2 es dp ho;obtain⟨hi,ho,hl⟩:=af ho;split at hx
    ·rename_i hk;obtain⟨rfl,rfl,hj⟩:=hk;injection hx with hx;subst hx;obtain⟨A,M,cp,B,e1,e2,rfl,e4,e5⟩:=hy.2 hl;have h1:=h.obj id hi;rw[ho]at h1;obtain⟨cells,_,h2,h3,_⟩:=h1;obtain⟨A',c',e6,e7,e8⟩:=bu h2
     have hpos:0<es.length:=by
      rw[e1]at e6;injection e6 with _ g2 _;omega
     obtain⟨g,n',cp',vals,e9,_⟩:=lJ h hi ho (List.getElem?_eq_getElem hpos);rw[e1]at e9;injection e9 with g1 g2 g3;subst g1;have hn:0<n:=by omega
     rw[e5 hn,Option.map_some,li];exact⟨_,λw'=>je P ht hj⟩
    ·cases hx
   ·cases hx
  ·cases hx
 ·cases hx
theorem pU{P:Program}{w0:Cx}{w:World}{N:Nat}{s:AS}{a:Act}{E:En}{o:Oper}{x:AV}(hf:Gw o.op=true)(hx:hV P s o.op=some x)(h:aD w0 N s a w E):∃v,∀w',(execOp a.eval o).run P w'=.ok (.value v) w':=by
 cases ho:o.op with
 |move y=>exact⟨a.eval y,λw'=>by simp[execOp,ho]⟩
 |assign y=>exact⟨a.eval y,λw'=>by simp[execOp,ho]⟩
 |nilCheck y=>
  rw[ho]at hx;simp only[hV]at hx;have e:=aJ h y;unfold Pd at hx;split at hx
  ·rename_i i st hy;split at hx
   ·rename_i ob id t' x' cs' hob;obtain⟨hi,hob,hl⟩:=af hob;rw[hy]at e;have h1:=h.obj i hi;rw[hob]at h1;obtain⟨g,u',_,e2,_⟩:=h1;have e1:=(aA e).2 hl;rw[e2]at e1;exact⟨a.eval y,λw'=>by simp[execOp,ho,e1]⟩
   ·cases hx
  ·rename_i i st off hy;split at hx
   ·rename_i hs;obtain⟨ob,hob⟩:=Option.isSome_iff_exists.1 hs;rw[hy]at e;obtain⟨g,_,e1⟩:=(aA e).2 (af hob).2.2;exact⟨a.eval y,λw'=>by simp[execOp,ho,e1]⟩
   ·cases hx
  ·rename_i i st k j off hy;split at hx
   ·rename_i hs;obtain⟨ob,hob⟩:=Option.isSome_iff_exists.1 hs;rw[hy]at e;obtain⟨g,n,cp,_,e1⟩:=(aA e).2 (af hob).2.2;exact⟨a.eval y,λw'=>by simp[execOp,ho,e1]⟩
   ·cases hx
  ·cases hx
 |extract y ix=>
  rw[ho]at hx;simp only[hV]at hx;have e:=aJ h y;unfold JQ at hx;split at hx
  ·rename_i xs hxs;split at hx
   ·rename_i b cs hb;rw[hxs]at e;obtain⟨vs,e1,hl,hr⟩:=e;have hlt:ix<vs.length:=by rw[<-hl];exact(List.getElem?_eq_some_iff.1 hb).1
    exact⟨vs[ix],λw'=>by simp[execOp,ho,e1,Instr.extract,hlt]⟩
   ·cases hx
  ·cases hx
 |binOp op t y z ty=>
  rw[ho]at hx;simp only[hV]at hx;unfold D0 at hx;split at hx
  ·rename_i v0 hx0;unfold Bs at hx0;split at hx0
   ·rename_i p q h3 h4;split at hx0
    ·rename_i v hb;have e1:=aJ h y;have e2:=aJ h z;rw[h3]at e1;rw[h4]at e2;have e1:=bH e1;have e2:=bH e2;refine⟨v,λw'=>?_⟩;obtain⟨h5,h6⟩:=Ev hb y z w';simp only[execOp,ho,e1,e2];rw[Sem.run_bind,h5];rfl
    ·cases hx0
   ·cases hx0
  ·obtain⟨r,r1,rfl,r3⟩:=Hm hx (aJ h y) (aJ h z) y z;refine⟨r,λw'=>?_⟩;simp only[execOp,ho]
   rw[Sem.run_bind,r3 w'];rfl
 |unOp op t y=>
  rw[ho]at hx;simp only[hV]at hx;unfold P9 at hx;split at hx
  ·rename_i p h3;split at hx
   ·rename_i v hb;have e1:=aJ h y;rw[h3]at e1;have e1:=bH e1;refine⟨v,λw'=>?_⟩;obtain⟨h5,h6⟩:=IN (P:=P) hb w';simp[execOp,ho,e1,h5]
   ·cases hx
  ·cases hx
 |slice t y lo hi m=>
  rw[ho]at hf hx
  cases m with
  |some=>cases hf
  |none=>
   simp only[hV]at hx;split at hx
   ·rename_i l r h3 h4;obtain⟨u,h1,-⟩:=Ex h h3 h4 hx (aJ h y);exact⟨u,λw'=>by simp[execOp,ho,h1]⟩
   ·cases hx
 |fieldAddr t y f=>
  rw[ho]at hx;simp only[hV]at hx;obtain⟨u,hu⟩:=KZ h hx (aJ h y)
  exact⟨u,λw'=>by simp[execOp,ho,hu w']⟩
 |indexAddr t y ix=>
  rw[ho]at hx;simp only[hV]at hx;split at hx
  ·rename_i c ki i h1 h2;have e1:=aJ h y;have e2:=aJ h ix;rw[h1]at e1;rw[h2]at e2;have e2:=bH e2;obtain⟨u,hu⟩:=JZ (ki:=ki) h hx (aA e1);exact⟨u,λw'=>by simp[execOp,ho,e2,hu w']⟩
  ·cases hx
 |call c=>
  obtain⟨ce,args,ts⟩:=c;rw[ho]at hf hx
  have key:∀(mx:Bool) (y z:Operand),MV mx (s.ev y) (s.ev z)=some x->∃(k:IntKind) (b c:Int),a.eval y=.int k b/\a.eval z=.int k c:=by
   intro mx y z hx;unfold MV at hx;split at hx
   ·rename_i k b k' c g1 g2;split at hx
    ·rename_i e;subst e;have e1:=aJ h y;have e2:=aJ h z;rw[g1]at e1;rw[g2]at e2;exact⟨k,b,c,bH e1,bH e2⟩
    ·cases hx
   ·cases hx
  cases ce with
  |builtin bt=>
   cases bt
   case len=>
    simp only[hV]at hx;unfold sq at hx;split at hx
    ·rename_i y t h1 h2 h3;obtain rfl:args=#[y]:=by cases args;simp_all
     obtain rfl:ts=#[t]:=by cases ts;simp_all
     split at hx
     ·rename_i c h4;split at hx
      ·rename_i n h5;have e1:=aJ h y;rw[h4]at e1;exact⟨.int .i64 (n:Int),λw'=>by simp[execOp,ho,resolve,invoke,builtin,Bn (ty:=o.type) h h5 (aA e1) w']⟩
      ·cases hx
     ·cases hx
    ·rename_i h1 _;cases h1
    ·rename_i h1 _;cases h1
    ·cases hx
   case max=>
    simp only[hV]at hx;unfold sq at hx;split at hx
    ·rename_i h1 _ _;cases h1
    ·rename_i y z _ h2;obtain rfl:args=#[y,z]:=by cases args;simp_all
     obtain⟨k,b,c,e1,e2⟩:=key _ _ _ hx;exact⟨_,λw'=>by simp[execOp,ho,resolve,invoke,builtin,e1,e2,run_max_int2];rfl⟩
    ·rename_i h1 _;cases h1
    ·cases hx
   case min=>
    simp only[hV]at hx;unfold sq at hx;split at hx
    ·rename_i h1 _ _;cases h1
    ·rename_i h1 _;cases h1
    ·rename_i y z _ h2;obtain rfl:args=#[y,z]:=by cases args;simp_all
     obtain⟨k,b,c,e1,e2⟩:=key _ _ _ hx;exact⟨_,λw'=>by simp[execOp,ho,resolve,invoke,builtin,e1,e2,run_min_int2];rfl⟩
    ·cases hx
   all_goals cases hf
  |value _=>cases hf
  |invoke _ _=>cases hf
 |_=>rw[ho]at hf;cases hf
def LL(i:Nat):Edge:=⟨i,.data⟩
def aV(l:List Oper)(n:Nat)(F:List Nat):List Oper:=match l[n]? with|some o=>l.set n {o with after:=o.after++(F.map LL).toArray}|none=>l
section
variable {P:Program}{md:Region.Mode}{Q:Exit->Act->World->Prop}{l:List Oper}{n:Nat}{F:List Nat}
theorem iw{k:Nat}(h:k≠n):(aV l n F)[k]? =l[k]?:=by
 unfold aV;split
 ·rw[List.getElem?_set_ne (Ne.symm h)]
 ·rfl
theorem rJ{o:Oper}(h:l[n]? =some o):(aV l n F)[n]? =some {o with after:=o.after++(F.map LL).toArray}:=by
 unfold aV;rw[h];simp only;rw[List.getElem?_set_self (List.getElem?_eq_some_iff.1 h).1]
theorem tT:(aV l n F).length=l.length:=by
 unfold aV;split
 ·simp
 ·rfl
theorem Em{k:Nat}{K:Act->World->Prop}{a:Act}{w:World}:wpOp P (aV l n F).toArray Q k K a w=wpOp P l.toArray Q k K a w:=by
 have hy:∀t,yielded (aV l n F).toArray t=yielded l.toArray t:=by
  intro t;funext g;unfold yielded;by_cases h:g=n
  ·subst h
   cases ho:l[g]? with
   |none=>
    have:aV l g F=l:=by unfold aV;rw[ho]
    rw[this]
   |some o=>simp[rJ ho,ho]
  ·simp[iw h]
 unfold wpOp;by_cases h:k=n
 ·subst h
  cases ho:l[k]? with
  |none=>
   have:aV l k F=l:=by unfold aV;rw[ho]
   rw[this]
  |some o=>
   have h1:(aV l k F).toArray[k]? =some {o with after:=o.after++(F.map LL).toArray}:=by simpa using rJ (F:=F) ho
   have h2:l.toArray[k]? =some o:=by simpa using ho
   rw[h1,h2];simp only[hy];rfl
 ·have h1:(aV l n F).toArray[k]? =l.toArray[k]?:=by simpa using iw (F:=F) h
  rw[h1];simp only[hy]
theorem fW{k:Nat}{listed:Array Bool}(hk:k∈Region.ready md l.toArray listed)(hF:k=n->∀i∈F,listed.getD i false=true):k∈Region.ready md (aV l n F).toArray listed:=by
 rw[mem_ready]at hk ⊢;obtain⟨h0,o,ho,hall⟩:=hk;refine⟨h0,?_⟩;by_cases h:k=n
 ·subst h;have ho':l[k]? =some o:=by simpa using ho
  refine⟨_,by simpa using rJ (F:=F) ho',λe1 he1 hb=>?_⟩;simp only[Array.mem_append,List.mem_toArray,List.mem_map]at he1;rcases he1 with he1|⟨i,hi,rfl⟩
  ·exact hall e1 he1 hb
  ·exact hF rfl i hi
 ·exact⟨o,by simpa[iw h]using ho,hall⟩
theorem xR{k:Nat}{listed:Array Bool}(hk:k∈Region.ready md (aV l n F).toArray listed):k∈Region.ready md l.toArray listed:=by
 rw[mem_ready]at hk ⊢;obtain⟨h0,o,ho,hall⟩:=hk;refine⟨h0,?_⟩;by_cases h:k=n
 ·subst h
  cases hl:l[k]? with
  |none=>
   have:aV l k F=l:=by unfold aV;rw[hl]
   rw[this]at ho
   exact⟨o,ho,hall⟩
  |some o'=>
   have h1:(aV l k F).toArray[k]? =some {o' with after:=o'.after++(F.map LL).toArray}:=by simpa using rJ (F:=F) hl
   rw[h1]at ho;injection ho with ho;subst ho;exact⟨o',by simpa using hl,λe1 he1 hb=>hall e1 (by simp only[Array.mem_append];exact .inl he1) hb⟩
 ·exact⟨o,by simpa[iw h]using ho,hall⟩
def KG(md:Region.Mode)(l:List Oper)(n:Nat)(F:List Nat)(i:Nat)(e1:Edge):Bool:=
 (F.contains e1.on&&decide (e1.on<i))||(match l[n]? with
  |some o=>o.after.toList.any λe2=>Region.binds md e2&&(decide (e2.on=e1.on)||(match l[e2.on]? with|some o2=>o2.after.toList.any λe3=>Region.binds md e3&&decide (e3.on=e1.on)|none=>false))
  |none=>false)
def uG(l:List Oper)(n:Nat)(F:List Nat):Bool:=
 Region.noSelect l.toArray&&(decide (n<l.length)&&F.all λi=>decide (i<n)&&(match l[i]? with
  |some oi=>oi.guard.isNone&&((Gw oi.op||Ir oi.op)&&((oi.after.toList.all λe1=>!Region.binds .any e1||KG .any l n F i e1)&&
   ((List.range l.length).all λk=>decide (k=i)||(match l[k]? with|some ok=>(ok.after.toList.any λe=>Region.binds .any e&&decide (e.on=i))||((oi.after.toList.any λe=>Region.binds .any e&&decide (e.on=k))||oi.apart l.toArray ok)|none=>true))))
  |none=>false))
def JF(P:Program)(l:List Oper)(F:List Nat)(S:World->Prop)(listed:Array Bool)(a:Act)(w:World):Prop:=S w/\∀i oi,i∈F->l[i]? =some oi->i∈Region.ready .any l.toArray listed->∃v,∀w,S w->(execOp a.eval oi).run P w=.ok (.value v) w
theorem J9{ops:Array Oper}{J:Array Bool->Act->World->Prop}{listed:Array Bool}{a:Act}{w:World}:∀{fuel:Nat},dH P md ops Q J fuel listed a w->J listed a w
 |0,h=>h.1
 |_+1,h=>h.1
theorem qb{S:World->Prop}(hE:uG l n F=true)(hQ:∀e a w,e≠.normal->¬Q e a w):
 ∀(fuel:Nat) (listed:Array Bool) (a:Act) (w:World),vJ .any l.toArray listed->listed.size=l.length->dH P .any (aV l n F).toArray Q (JF P l F S) fuel listed a w->wpAnyH P .any l.toArray Q S fuel listed a w:=by
 unfold uG at hE;simp only[Bool.and_eq_true,decide_eq_true_eq,List.all_eq_true]at hE;obtain⟨hsel,hn,hF⟩:=hE
 have hFi:∀i∈F,∃oi,l[i]? =some oi/\i<n/\oi.guard=none/\(∀e1∈oi.after,Region.binds .any e1=true->KG .any l n F i e1=true)/\
  ∀k ok,l[k]? =some ok->k≠i->(∀e∈ok.after,Region.binds .any e=true->e.on≠i)->(∃e∈oi.after,Region.binds .any e=true/\e.on=k)\/oi.apart l.toArray ok=true:=by
  intro i hi;obtain⟨h1,h2⟩:=hF i hi;split at h2
  ·rename_i oi hoi;simp only[Bool.and_eq_true,List.all_eq_true]at h2;obtain⟨g1,g2,g3,g4⟩:=h2;refine⟨oi,hoi,h1,by simpa using g1,λe1 he hb=>?_,λk ok hk hne hno=>?_⟩
   ·have:=g3 e1 (by simpa using he);simpa[hb]using this
   ·have:=g4 k (List.mem_range.2 (List.getElem?_eq_some_iff.1 hk).1);simp only[hk,Bool.or_eq_true,decide_eq_true_eq]at this;rcases this with this|this|this|this
    ·exact absurd this hne
    ·obtain⟨e,he,hb⟩:=List.any_eq_true.1 this;simp only[Bool.and_eq_true,decide_eq_true_eq]at hb;exact absurd hb.2 (hno e (by simpa using he) hb.1)
    ·obtain⟨e,he,hb⟩:=List.any_eq_true.1 this;simp only[Bool.and_eq_true,decide_eq_true_eq]at hb;exact .inl ⟨e,by simpa using he,hb.1,hb.2⟩
    ·exact .inr this
  ·cases h2
 have key:∀listed,vJ .any l.toArray listed->listed.size=l.length->n∈Region.ready .any l.toArray listed->∀(m i:Nat),i<=m->i∈F->listed.getD i false=false->∃i0∈F,i0∈Region.ready .any l.toArray listed:=by
  intro listed hc hs hr m;rw[mem_ready]at hr;obtain⟨h0,on,hon,hall⟩:=hr;have hon':l[n]? =some on:=by simpa using hon
  have dep:∀i oi e1,l[i]? =some oi->KG .any l n F i e1=true->listed.getD e1.on false=true\/(e1.on∈F/\e1.on<i):=by
   intro i oi e1 hoi hd;unfold KG at hd;simp only[Bool.or_eq_true,Bool.and_eq_true,decide_eq_true_eq,hon']at hd;rcases hd with⟨hd1,hd2⟩|hd
   ·exact .inr ⟨by simpa using hd1,hd2⟩
   ·left;obtain⟨e2,he2,hb⟩:=List.any_eq_true.1 hd;simp only[Bool.and_eq_true,Bool.or_eq_true,decide_eq_true_eq]at hb;have hl2:=hall e2 (by simpa using he2) hb.1;rcases hb.2 with h|h
    ·rw[<-h];exact hl2
    ·split at h
     ·rename_i o2 ho2;obtain⟨e3,he3,hb3⟩:=List.any_eq_true.1 h;simp only[Bool.and_eq_true,decide_eq_true_eq]at hb3;rw[<-hb3.2];exact hc e2.on o2 (by simpa using ho2) hl2 e3 (by simpa using he3) hb3.1
     ·cases h
  induction m with
  |zero=>
   intro i him hi hun;obtain⟨oi,hoi,hin,hg,hdep,-⟩:=hFi i hi;refine⟨i,hi,mem_ready.2 ⟨getD_in (by rw[hs];exact(List.getElem?_eq_some_iff.1 hoi).1) hun,oi,by simpa using hoi,λe1 he1 hb=>?_⟩⟩;rcases dep i oi e1 hoi (hdep e1 he1 hb)with h|h
   ·exact h
   ·omega
  |succ m ih=>
   intro i him hi hun;obtain⟨oi,hoi,hin,hg,hdep,-⟩:=hFi i hi;by_cases hall':∀e1∈oi.after,Region.binds .any e1=true->listed.getD e1.on false=true
   ·exact⟨i,hi,mem_ready.2 ⟨getD_in (by rw[hs];exact(List.getElem?_eq_some_iff.1 hoi).1) hun,oi,by simpa using hoi,hall'⟩⟩
   ·simp only[Classical.not_forall]at hall';obtain⟨e1,he1,hb,hne⟩:=hall';rcases dep i oi e1 hoi (hdep e1 he1 hb)with h|h
    ·exact absurd h hne
    ·exact ih e1.on (by omega) h.1 (by simpa using hne)
 have hcl:∀listed k,vJ .any l.toArray listed->k∈Region.ready .any l.toArray listed->vJ .any l.toArray (listed.setIfInBounds k true):=by
  intro listed k hc hk k' ok' hok' hl e1 he1 hb;by_cases h:k'=k
  ·subst h;rw[mem_ready]at hk;obtain⟨_,o,ho,hall⟩:=hk;have:o=ok':=Option.some.inj (ho.symm.trans hok');subst this;exact getD_set_true (hall e1 he1 hb)
  ·rw[getD_set_ne false (Ne.symm h)]at hl;exact getD_set_true (hc k' ok' hok' hl e1 he1 hb)
 have hnF:∀i∈F,i≠n:=λi hi e=>by obtain⟨_,_,h,_⟩:=hFi i hi;omega
 intro fuel
 induction fuel with
 |zero=>
  rintro listed a w hc hs ⟨-,h1,h2⟩;refine⟨?_,h2⟩;rw[List.eq_nil_iff_forall_not_mem]at h1 ⊢;intro k hk;by_cases h:k=n
  ·subst h;by_cases hall:∀i∈F,listed.getD i false=true
   ·exact h1 k (fW hk λ_=>hall)
   ·simp only[Classical.not_forall]at hall;obtain⟨i,hi,hun⟩:=hall;obtain⟨i0,hi0,hr0⟩:=key listed hc hs hk i i (Nat.le_refl _) hi (by simpa using hun);exact h1 i0 (fW hr0 λe=>absurd e (hnF i0 hi0))
  ·exact h1 k (fW hk λe=>absurd e h)
 |succ fuel ih=>
  rintro listed a w hc hs ⟨⟨hS,hJ⟩,h1,h2⟩;by_cases hex:∃i,i∈F/\i∈Region.ready .any l.toArray listed
  ·obtain⟨i,hi,hr⟩:=hex;obtain⟨oi,hoi,hin,hg,-,hap⟩:=hFi i hi;have h3:=h2 i (fW hr λe=>absurd e (hnF i hi));rw[Em]at h3;obtain⟨v,hv⟩:=hJ i oi hi hoi hr;have hwt:Region.wanted oi (yielded l.toArray a.tmps)=true:=by simp[Region.wanted,hg]
   have hk:dH P .any (aV l n F).toArray Q (JF P l F S) fuel (listed.setIfInBounds i true) (a.put oi.dst v) w:=by
    unfold wpOp at h3;rw[show l.toArray[i]? =some oi from by simpa using hoi]at h3;simp only at h3;rw[if_pos hwt]at h3;rcases h3 with h3|⟨_,a',w',hq⟩
    ·unfold Oper.wp at h3;rw[hv w hS,Oper.upon_value]at h3;exact h3
    ·exact absurd hq (hQ _ _ _ (by simp))
   refine wpAnyH_first (by simpa using hoi) (Region.noSelect_spec hsel) (λc a w hq=>absurd hq (hQ _ _ _ (by simp))) fuel listed a w (λk ok hok hne hunk hw=>by
    rcases hap k ok (by simpa using hok) hne hw with⟨e,he,hb,hk2⟩|h
    ·obtain⟨_,oi2,hoi2,hall2⟩:=mem_ready.1 hr;obtain rfl:oi2=oi:=Option.some.inj ((by simpa using hoi2:l[i]? =some oi2).symm.trans hoi);have h4:=hall2 e he hb;rw[hk2,getD_both hunk]at h4;cases h4
    ·exact h) hr (.inl ⟨hwt,hv⟩) hS ?_
   exact ih _ _ _ (hcl _ _ hc hr) (by simpa using hs) hk
  ·have hre:∀k,k∈Region.ready .any l.toArray listed->k∈Region.ready .any (aV l n F).toArray listed:=λk hk=>fW hk λh=>by
    subst h;intro i hi
    cases hli:listed.getD i false with
    |true=>rfl
    |false=>obtain⟨i0,h3,h4⟩:=key listed hc hs hk i i (Nat.le_refl _) hi hli;exact absurd ⟨i0,h3,h4⟩ hex
   refine⟨λh0=>h1 ?_,λk hk=>?_⟩
   ·rw[List.eq_nil_iff_forall_not_mem]at h0 ⊢;exact λk hk=>h0 k (xR hk)
   ·have h3:=h2 k (hre k hk);rw[Em]at h3;exact wpOp_mono (λa' w' h=>⟨(J9 h).1,ih _ _ _ (hcl _ _ hc hk) (by simpa using hs) h⟩) h3
end
end Go.Proofs.Ytngaddcgmnonbaa
namespace Go.Proofs.Ytngaddcgmnonbaa
open Go.RowKit
section
variable {P:Program}{w0:Cx}{ws w w':World}{N m n:Nat}{s h H q q' qF:AS}{a:Act}{E:En}{o:Oper}{pr:Bool}{l:List Oper}{kds:List HK}{xs:List AV}{Q:Exit->AS->Prop}{F:List Nat}
theorem wk(hB:zG .any l n=true)(hnd:(dk (l.take n)).Nodup)(hh:fw P N pr l.toArray (l.take n) s s kds xs qF)(hw:w0.heap.size<=m)(hEm:∀i,i<s.n->∀b∈E.m i,b<m)
 {listed:Array Bool} {fs:Nat->List Nat} (inv:HeadInv .any l.toArray n listed) (hI:zy P w0 ws N m n s E l kds xs listed a w fs) {i:Nat} {oi:Oper} (hin:i<n) (hi:i∈Region.ready .any l.toArray listed) (hoil:l[i]? =some oi):
 aD w0 N {s with sl:=λt=>if(oi.looksAt l.toArray).contains t then(kT s (l.take i) xs).sl t else .und} a w (E.plus m w.heap.size)/\
 dI (kT s (l.take i) xs) {s with sl:=λt=>if(oi.looksAt l.toArray).contains t then(kT s (l.take i) xs).sl t else .und} oi.op.operands.toList:=by
 obtain⟨hsel,hnl,hsink,hseq,hdep⟩:=cq hB;obtain⟨hkl,hxl⟩:=hZ hh;have htl:(l.take n).length=n:=by rw[List.length_take];omega
 rw[htl]at hkl hxl;obtain⟨hun,oi',hoi,hall⟩:=mem_ready.1 hi;obtain rfl:oi'=oi:=Option.some.inj ((by simpa using hoi:l[i]? =some oi').symm.trans hoil);have htt:(l.take n).take i=l.take i:=by rw[List.take_take,Nat.min_eq_left (by omega)]
 have hlook:∀t∈oi'.looksAt l.toArray,ba w (E.plus m w.heap.size) s.lv s.c ((kT s (l.take i) xs).sl t) (a.tmps.getD t undef):=by
  intro t ht;by_cases hex:∃j oj,j<n/\l[j]? =some oj/\oj.dst=some t
  ·obtain⟨j,oj,hj,hoj,hdj⟩:=hex;obtain⟨hji,hwt⟩:=ji hB hin hoil hj hoj hdj ht
   have hlj:listed.getD j false=true:=by
    obtain⟨oi2,hoi2,e,he,hb,hon⟩:=Region.waitsFor_spec hwt;have:oi2=oi':=Option.some.inj (hoi2.symm.trans hoi);subst this;rw[<-hon];exact hall e he hb
   have hjx:j<xs.length:=by omega
   have hjk:j<kds.length:=by omega
   have hs:=(hI.fact j oj t _ _ hj hlj hoj hdj (List.getElem?_eq_getElem hjk) (List.getElem?_eq_getElem hjx)).2
   have hnd':(dk (l.take i)).Nodup:=by
    have:l.take n=l.take i++(l.take n).drop i:=by rw[<-htt,List.take_append_drop]
    rw[this]at hnd;unfold dk at hnd;rw[List.filterMap_append]at hnd;exact(List.nodup_append.1 hnd).1
   rw[sk hnd' (by rw[List.getElem?_take,if_pos hji];exact hoj) (List.getElem?_eq_getElem hjx) hdj];exact hs
  ·have hout:(kT s (l.take i) xs).sl t=s.sl t:=by
    refine og λo ho hdo=>?_
    obtain⟨j,hj,rfl⟩:=List.mem_iff_getElem.1 ho;have hji:j<i:=by simp at hj;omega
    exact hex ⟨j,_,by omega,by rw[List.getElem?_eq_getElem (by have:=(List.getElem?_eq_some_iff.1 hoil).1;omega)],by rw[List.getElem_take]at hdo;exact hdo⟩
   rw[hout];have:=hI.rep.slot t;simp only[cE]at this
   rw[if_neg (by
    simp only[List.contains_iff_mem];intro hm;obtain⟨j,o,hj,_,ho,hdo⟩:=fg.1 hm
    exact hex ⟨j,o,hj,ho,hdo⟩)]at this
   exact this.stay ⟨λb hb=>⟨.inl hb,rfl⟩,λi st _ h=>⟨h,rfl⟩,Nat.le_refl _⟩
 obtain⟨ha1,ha2,ha3⟩:=kP (l:=l.take i) (xs:=xs) (s:=s);refine⟨?_,ha1.symm,ha2.symm,λt ht=>?_⟩
 ·have hg:=ER hI.rep hw hEm
  have:=zq hg (sl':=λt=>if(oi'.looksAt l.toArray).contains t then(kT s (l.take i) xs).sl t else .und) (λt=>by
   split
   ·rename_i ht;exact hlook t (by simpa using ht)
   ·trivial)
  exact this
 ·have:t∈oi'.looksAt l.toArray:=List.mem_append_left _ (List.mem_filterMap.2 ⟨.tmp t,ht,rfl⟩);simp only;rw[if_pos (by simpa using this)]
def KT(l:List Oper)(F:List Nat):Bool:=F.all λi=>match l[i]? with|some o=>Gw o.op|none=>true
theorem wT(n:Nat)(pr:Bool)(F:List Nat)(hE:uG l n F=true)(hNL:KT l F=true)(hB:jY (aV l n F) n=true)(hh:fw P N pr (aV l n F).toArray ((aV l n F).take n) s s kds xs qF)
 (htail:jh P N (aV l n F).toArray ((aV l n F).drop n) (cX Q) qF) {w0:Cx} {a:Act} {w:World} {E:En} (hr:aD w0 N s a w E):
 wpAny P .any l.toArray (AQ w0 N (cX Q)) l.toArray.size (Array.replicate l.toArray.size false) a w:=by
 have hsz:l.toArray.size=(aV l n F).length:=by simp[tT]
 have hF:∀i∈F,∃oi,l[i]? =some oi/\i<n/\oi.guard=none/\Gw oi.op=true:=by
  unfold uG at hE;simp only[Bool.and_eq_true,decide_eq_true_eq,List.all_eq_true]at hE;intro i hi;obtain⟨h1,h2⟩:=hE.2.2 i hi;split at h2
  ·rename_i oi hoi;simp only[Bool.and_eq_true]at h2;unfold KT at hNL;have h3:=List.all_eq_true.1 hNL i hi;rw[hoi]at h3;exact⟨oi,hoi,h1,by simpa using h2.1,h3⟩
  ·cases h2
 refine wpAny_of_held _ _ _ _ (qb (S:=λ_=>True) hE (λe a w he hq=>?_) _ _ _ _ (λj oj _ hl=>(by rw[getD_replicate_false]at hl;cases hl)) (by simp) ?_)
 ·obtain⟨s',E',h1,_⟩:=hq;cases e<;>first|exact he rfl|exact h1
 unfold jY at hB;rw[Bool.and_eq_true,decide_eq_true_eq]at hB;obtain⟨hB,hnd⟩:=hB;have hnl:=(cq hB).2.1;generalize hl':aV l n F=l' at*
 have hu:G9 n (Array.replicate l.toArray.size false)=n:=by
  unfold G9
  have:(List.range n).filter (λi=>!(Array.replicate l.toArray.size false).getD i false)=List.range n:=by
   rw[List.filter_eq_self];intro i _;rw[getD_replicate_false];rfl
  rw[this];simp
 have hr':aD w0 N s a w E:=hr;have hEm:∀i,i<s.n->∀b∈E.m i,b<w.heap.size:=λi hi b hb=>hr'.m_lt i hi b hb
 have h:=jz (J:=JF P l F (λ_=>True)) (m:=w.heap.size) (E:=E) hB hnd hh hr'.bel.size hEm hr'.A_lt ?_ (xK hB hnd hh hr'.bel.size hEm hr'.A_lt htail ?_) n (Array.replicate l.toArray.size false) a w (λ_=>[]) hu
  ⟨by simp[hsz],λj oj _ hl=>(by rw[getD_replicate_false]at hl;cases hl),λt _ ht=>getD_in (by rw[Array.size_replicate,hsz];simpa using ht) (getD_replicate_false _ _)⟩
  ⟨by
   have:Hd l' n (Array.replicate l.toArray.size false)=[]:=by
    rw[List.eq_nil_iff_forall_not_mem];intro t ht;obtain⟨j,o,_,hl,_⟩:=fg.1 ht;rw[getD_replicate_false]at hl;cases hl
   rw[this];have e:cE s []=s:=by unfold cE;simp
   rw[e];exact hr',Nat.le_refl _,λj o d kd x _ hl=>(by rw[getD_replicate_false]at hl;cases hl),λj _ hl=>(by rw[getD_replicate_false]at hl;cases hl),λi j _ _ hl=>(by rw[getD_replicate_false]at hl;cases hl),λ_=>rfl⟩
 ·rw[show l.toArray.size=n+(l'.length-n)from by rw[hsz];omega];rw[show(Array.replicate l.toArray.size false)=Array.replicate (n+(l'.length-n)) false from by congr 1;rw[hsz];omega]at h;exact h
 ·intro listed a w fs inv hI;refine⟨trivial,λi oi hi hoi hrd=>?_⟩;obtain⟨oi',hoi',hin,hg,hfl⟩:=hF i hi;obtain rfl:oi'=oi:=Option.some.inj (hoi'.symm.trans hoi);have hne:i≠n:=by omega
  have hrd':i∈Region.ready .any l'.toArray listed:=by rw[<-hl'];exact fW hrd λe=>absurd e hne
  have hoil:l'[i]? =some oi':=by rw[<-hl',iw hne];exact hoi
  obtain⟨g1,g2⟩:=wk hB hnd hh hr'.bel.size hEm inv hI hin hrd' hoil;obtain⟨kd,x,qi,qi',hkd,hx,⟨d,hd,hdN⟩,hstp⟩:=iy hh i oi' (by rw[List.getElem?_take,if_pos hin];exact hoil);have htt:(l'.take n).take i=l'.take i:=by rw[List.take_take,Nat.min_eq_left (by omega)]
  rw[htt,hg]at hstp
  have hv:∃y,hV P (kT s (l'.take i) xs) oi'.op=some y:=by
   rcases hstp with⟨y,h1,_⟩|⟨f,args,ts,ys,res,ho,_⟩|⟨t,len,parts,el,k,es,esq,ho,_⟩|⟨t,cs,ho,_⟩|⟨y,z,_,_,h1,_⟩|⟨_,_,_,_,_,_,_,_,_,_,_,ho,_⟩|⟨_,_,_,_,_,_,_,_,ho,_⟩|⟨_,_,_,_,_,ho,_⟩
   ·refine⟨y,?_⟩;unfold oS at h1;split at h1
    ·rename_i ho;rw[ho]at hfl;cases hfl
    ·exact h1
   ·rw[ho]at hfl;cases hfl
   ·rw[ho]at hfl;cases hfl
   ·rw[ho]at hfl;cases hfl
   ·refine⟨y,?_⟩;unfold oS at h1;split at h1
    ·rename_i ho;rw[ho]at hfl;cases hfl
    ·exact h1
   ·rw[ho]at hfl;cases hfl
   ·rw[ho]at hfl;cases hfl
   ·rw[ho]at hfl;cases hfl
  obtain⟨y,hy⟩:=hv;rw[<-rt g2]at hy;obtain⟨v,hv⟩:=pU hfl hy g1;exact⟨v,λw _=>hv w⟩
 ·intro listed a w hall;refine⟨trivial,λi oi hi hoi hrd=>?_⟩;obtain⟨_,_,hin,_⟩:=hF i hi;have h0:=(mem_ready.1 hrd).1;have:=hall i hin;rw[getD_both h0]at this;cases this
theorem CQ{id:Nat}(n:Nat)(pr:Bool)(F:List Nat)(hm:P.follows .mixedOrders=true)(hE:uG l n F=true)(hNL:KT l F=true)(hB:jY (aV l n F) n=true)(hh:fw P N pr (aV l n F).toArray ((aV l n F).take n) s s kds xs qF)
 (htail:jh P N (aV l n F).toArray ((aV l n F).drop n) (cX Q) qF):oP P N (.region id l.toArray true) Q s:=λw0 a w E hr=>by
 refine Code.wp_mono (λe a w he=>?_) (wp_region_any hm (wT n pr F hE hNL hB hh htail (hr.world' (Below.refl _ _).drew)));obtain⟨s',E',h1,h2⟩:=he
 cases e with
 |normal=>exact⟨s',E',h1,h2⟩
 |_=>exact h1.elim
end
end Go.Proofs.Ytngaddcgmnonbaa
namespace Go.Proofs.Ytngaddcgmnonbaa
open Go.RowKit
def qQ(l:List Oper)(F:List Nat):List (TypeId×Nat×Nat):=F.filterMap λi=>match l[i]? with
 |some o=>(match o.op,o.dst with|.load t (.tmp p),some d=>some (t,p,d)|_,_=>none)
 |none=>none
def Tc(L:Nat->Option Nat)(x:AC):Prop:=(∃v,x=.d (.sc v))\/x=.nil\/(∃j st,x=.own j st/\L j=some st)\/∃i st off,x=.ptr i st off/\L i=some st
def S0(L:Nat->Option Nat)(b:Bool)(xs:List AC):Prop:=(b=false->xs.length=1)/\∀x∈xs,Tc L x
def CF(P:Program)(FL:List (TypeId×Nat×Nat))(s:AS):Prop:=∀x∈FL,∃i st off ty cs b xs,s.sl x.2.1=.p false [.ptr i st off]/\s.own? i st=some (.var st ty cs)/\AX P x.1 (cs.drop off)=some (.p b xs)/\s.sl x.2.2=.p b xs/\S0 s.lv b xs
def SF(P:Program)(FL:List (TypeId×Nat×Nat))(pv:Nat->Value)(w:World):Prop:=∀x∈FL,(Instr.loadAt x.1 (pv x.2.1)).run P w=.ok (pv x.2.2) w
def GC(E:En):AC->Value
 |.d (.sc v)=>v
 |.nil=>.slice none 0 0
 |.own j _=>E.v j
 |.ptr i _ off=>(match E.v i with|.pointer (some g)=>.pointer (some ⟨g.block,off,none⟩)|_=>undef)
 |_=>undef
def nD(E:En):AV->Value
 |.p false [x]=>GC E x
 |.p true xs=>.agg (xs.map (GC E)).toArray
 |_=>undef
theorem EF{w:World}{E E':En}{L:Nat->Option Nat}{c:Nat}{x:AC}{u:Value}(hE:∀i st,L i=some st->E'.v i=E.v i)(h:dM w E' L c x u)(hx:Tc L x):u=GC E x:=by
 rcases hx with⟨v,rfl⟩|rfl|⟨j,st,rfl,hl⟩|⟨i,st,off,rfl,hl⟩
 ·exact(aH.scOf h).1
 ·exact h
 ·rw[h.2 hl];exact hE _ _ hl
 ·obtain⟨g,e1,rfl⟩:=h.2 hl;rw[hE _ _ hl]at e1;simp only[GC,e1]
theorem vN{w:World}{E E':En}{L:Nat->Option Nat}{c:Nat}{b:Bool}{xs:List AC}{v:Value}(hE:∀i st,L i=some st->E'.v i=E.v i)(hv:ba w E' L c (.p b xs) v)(hx:S0 L b xs):v=nD E (.p b xs):=by
 cases b with
 |false=>
  match xs,hx.1 rfl with
  |[x],_=>exact EF hE (aA hv) (hx.2 x (List.mem_singleton.2 rfl))
 |true=>
  obtain⟨vals,rfl,h1,h2⟩:=kY hv;simp only[nD];congr 1
  have:vals=xs.map (GC E):=by
   apply List.ext_getElem
   ·rw[List.length_map];exact h1.symm
   ·intro k hk hk2;rw[List.getElem_map];exact EF hE (h2 k _ _ (List.getElem?_eq_getElem (by omega)) (List.getElem?_eq_getElem hk)) (hx.2 _ (List.getElem_mem _))
  rw[this]
def jN(P:Program)(Q:Exit->Act->World->Prop)(I:Act->World->Prop):List Oper->Act->World->Prop
 |[],a,w=>Q .normal a w
 |o::r,a,w=>o.guard=none/\o.wp P a w (λa' w'=>I a' w'/\jN P Q I r a' w') (λ_ _ _=>False)
def wO(P:Program)(N:Nat)(l:List Oper)(Q:Exit->AS->Prop)(C:AS->Prop)(s:AS):Prop:=∀w0 a w E,aD w0 N s a w E->jN P (AQ w0 N Q) (λa' w'=>∃s' E',C s'/\aD w0 N s' a' w' E') l a w
def pS:Op->Bool
 |.call ⟨.value _,_,_⟩=>false
 |_=>true
section
variable {P:Program}{w0:Cx}{ws w w':World}{N m n:Nat}{s h H q q' qF:AS}{a:Act}{E:En}{o:Oper}{l:List Oper}{kds:List HK}{xs:List AV}{Q:Exit->AS->Prop}{F:List Nat}{FL:List (TypeId×Nat×Nat)}{pv:Nat->Value}
theorem Li{K:Act->World->Prop}(h:o.wp P a w K (λ_ _ _=>False)):o.wp P a w (λa' w'=>K a' w'/\∀t,o.dst≠some t->a'.tmps.getD t undef=a.tmps.getD t undef) (λ_ _ _=>False):=by
 have kp:∀(a:Act) (v:Value) t,o.dst≠some t->(a.put o.dst v).tmps.getD t undef=a.tmps.getD t undef:=by
  intro a v t ht
  cases hd:o.dst with
  |none=>rfl
  |some d=>exact m8 (λe=>ht (by rw[hd,e]))
 unfold Oper.wp at *;generalize (execOp a.eval o).run P w=r at*
 cases r with
 |ok x w'=>
  cases x with
  |value v=>exact⟨h,kp a v⟩
  |skip=>exact⟨h,kp a undef⟩
  |defer d=>exact⟨h,kp _ undef⟩
  |enter f args=>
   refine Calls.mono h λe w'' he=>?_
   cases e with
   |returned v=>exact⟨he,kp a v⟩
   |panicked c=>exact he
   |outgrown=>exact he
  |row r args=>exact Rows.mono h λv w'' he=>⟨he,kp a v⟩
  |_=>exact h
 |halt x w'=>cases x<;>exact h
theorem Qv(hr:aD w0 N s a w E)(hC:CF P FL s)(hI:∀x∈FL,a.tmps.getD x.2.1 undef=pv x.2.1/\a.tmps.getD x.2.2 undef=pv x.2.2):SF P FL pv w:=by
 intro x hx;obtain⟨i,st,off,ty,cs,b,xs,h1,h2,h3,h4,h5⟩:=hC x hx;obtain⟨e1,e2⟩:=hI x hx;have hp:=hr.slot x.2.1;rw[h1]at hp;have hd:=hr.slot x.2.2;rw[h4]at hd;obtain⟨u,hu,hsl⟩:=zH (P:=P) hr (t:=x.1) (y:=.p false [.ptr i st off]) (x:=.p b xs) (by simp only[xV,h2];exact h3) hp;have g1:=vN (E:=E) (λ_ _ _=>rfl) hsl h5;have g2:=vN (E:=E) (λ_ _ _=>rfl) hd h5;rw[<-e1,hu,<-e2,g1,g2]
theorem nN{ops:Array Oper}{Q:Exit->Act->World->Prop}{I:Act->World->Prop}{J:Array Bool->Act->World->Prop}(hJ:∀listed a w,(∀j,j<n->listed.getD j false=true)->I a w->J listed a w)
 :
 ∀(r:List Oper) (k:Nat) (listed:Array Bool) (a:Act) (w:World),(∀j,r[j]? =ops[k+j]?)->Region.seqB .any ops r.length k listed=true->(∀j,j<n->listed.getD j false=true)->I a w->
 jN P Q I r a w->dH P .any ops Q J r.length listed a w
 |[],_,listed,a,w,_,hB,hl,hI,h=>⟨hJ _ _ _ hl hI,by simpa[Region.seqB]using hB,h⟩
 |o::r,k,listed,a,w,hops,hB,hl,hI,h=>by
  have h0:ops[k]? =some o:=by simpa using(hops 0).symm
  simp only[List.length_cons,Region.seqB,Bool.and_eq_true,decide_eq_true_eq]at hB;refine⟨hJ _ _ _ hl hI,λh1=>(by rw[hB.1]at h1;cases h1),λi hi=>?_⟩;rw[hB.1]at hi;have hik:i=k:=by simpa using hi
  subst hik;obtain⟨hg,h⟩:=h;unfold wpOp;simp only[h0];rw[if_pos (by simp[Region.wanted,hg])];refine .inl (Oper.wp_mono2 (λa' w' hh=>?_) h);refine nN hJ r (i+1) _ a' w' (λj=>by have:=hops (j+1);simpa[Nat.add_assoc,Nat.add_comm 1 j]using this) hB.2 (λj hj=>?_) hh.1 hh.2;by_cases e:i=j
  ·subst e
   have hlt:i<listed.size:=by
    rcases Nat.lt_or_ge i listed.size with h|h
    ·exact h
    ·have:=hl i hj;simp[Array.getElem?_eq_none h]at this
   simp[hlt]
  ·rw[getD_set_ne false e];exact hl j hj
theorem xu{Q:Exit->Act->World->Prop}(hC:∀w0 s a w E,aD w0 N s a w E->CF P FL s->(∀x∈FL,a.tmps.getD x.2.1 undef=pv x.2.1/\a.tmps.getD x.2.2 undef=pv x.2.2)->SF P FL pv w):
 ∀{r:List Oper} {a:Act} {w:World},(∀o∈r,∀x∈FL,o.dst≠some x.2.1/\o.dst≠some x.2.2)->(∀x∈FL,a.tmps.getD x.2.1 undef=pv x.2.1/\a.tmps.getD x.2.2 undef=pv x.2.2)->
 jN P Q (λa' w'=>∃s' E',CF P FL s'/\aD w0 N s' a' w' E') r a w->jN P Q (λ_ w'=>SF P FL pv w') r a w
 |[],_,_,_,_,h=>h
 |o::r,a,w,hd,hI,h=>by
  obtain⟨hg,h⟩:=h;refine⟨hg,Oper.wp_mono (λa' w' hh=>?_) (Li h)⟩;obtain⟨⟨⟨s',E',h1,h2⟩,h3⟩,h4⟩:=hh
  have hI':∀x∈FL,a'.tmps.getD x.2.1 undef=pv x.2.1/\a'.tmps.getD x.2.2 undef=pv x.2.2:=by
   intro x hx;obtain⟨d1,d2⟩:=hd o (List.mem_cons_self ..) x hx;rw[h4 _ d1,h4 _ d2];exact hI x hx
  exact⟨hC _ _ _ _ _ h2 h1 hI',xu hC (λo ho=>hd o (List.mem_cons_of_mem _ ho)) hI' h3⟩
theorem m9{ops:Array Oper}:∀{l:List Oper} {h q:AS} {kds:List HK} {xs:List AV},(∀o∈l,pS o.op=true)->fw P N true ops l h h kds xs q->q=kT h l xs
 |[],h,q,kds,xs,_,hh=>by
  cases kds with
  |cons=>exact hh.elim
  |nil=>cases xs with
   |cons=>exact hh.elim
   |nil=>exact hh
 |o::l,h,q,[],xs,_,hh=>hh.elim
 |o::l,h,q,kd::kds,[],_,hh=>hh.elim
 |o::l,h,q,kd::kds,x::xs,hp,hh=>by
  obtain⟨_,q1,hst,hh⟩:=hh
  have key:sy P true h h o kd x q1->q1=h.put o.dst x:=by
   rintro(⟨y,_,rfl,rfl,e⟩|⟨fn,args,ts,ys,res,ho,_⟩|⟨_,_,_,_,_,_,_,_,hp0,_⟩|⟨_,_,_,hp0,_⟩|⟨_,_,_,hp0,_⟩|⟨_,_,_,_,_,_,_,_,_,_,_,_,hp0,_⟩|⟨_,_,_,_,_,_,_,_,_,hp0,_⟩|⟨_,_,_,_,_,_,hp0,_⟩)
   ·exact e
   ·have:=hp o (List.mem_cons_self ..);rw[ho]at this;cases this
   ·cases hp0
   ·cases hp0
   ·cases hp0
   ·cases hp0
   ·cases hp0
   ·cases hp0
  have hq1:q1=h.put o.dst x:=by
   cases hgd:o.guard with
   |none=>rw[hgd]at hst;exact key hst
   |some gw=>
    rw[hgd]at hst;obtain⟨t,b,_,_,_,hb⟩:=hst;split at hb
    ·exact key hb
    ·obtain⟨_,rfl,e⟩:=hb;exact e
  subst hq1;rw[kT];exact m9 (λo ho=>hp o (List.mem_cons_of_mem _ ho)) hh
theorem yp(hB:zG .any l n=true)(hnd:(dk (l.take n)).Nodup){listed:Array Bool}{fs:Nat->List Nat}{i:Nat}{t:Nat}(hxl:xs.length=n)(hin:i<=n)(hlt:∀j oj,j<n->l[j]? =some oj->oj.dst=some t->j<i):(kT s (l.take i) xs).sl t=(kT s (l.take n) xs).sl t:=by
 have hnl:=(cq hB).2.1;by_cases hex:∃j oj,j<n/\l[j]? =some oj/\oj.dst=some t
 ·obtain⟨j,oj,hj,hoj,hdj⟩:=hex;have hji:=hlt j oj hj hoj hdj
  have hnd':(dk (l.take i)).Nodup:=by
   have htt:(l.take n).take i=l.take i:=by rw[List.take_take,Nat.min_eq_left hin]
   have:l.take n=l.take i++(l.take n).drop i:=by rw[<-htt,List.take_append_drop]
   rw[this]at hnd;unfold dk at hnd;rw[List.filterMap_append]at hnd;exact(List.nodup_append.1 hnd).1
  have hx:=List.getElem?_eq_getElem (show j<xs.length by omega);rw[sk hnd' (by rw[List.getElem?_take,if_pos hji];exact hoj) hx hdj,sk hnd (by rw[List.getElem?_take,if_pos hj];exact hoj) hx hdj]
 ·have hout:∀k,k<=n->(kT s (l.take k) xs).sl t=s.sl t:=by
   intro k hk;refine og λo ho hdo=>?_
   obtain⟨j,hj,rfl⟩:=List.mem_iff_getElem.1 ho;simp at hj;exact hex ⟨j,_,by omega,by rw[List.getElem?_eq_getElem (by omega)],by rw[List.getElem_take]at hdo;exact hdo⟩
  rw[hout i hin,hout n (Nat.le_refl _)]
theorem A9(hB:zG .any l n=true)(hnd:(dk (l.take n)).Nodup)(hxl:xs.length=n)(hkl:kds.length=n)(hw:w0.heap.size<=m)(hEm:∀i,i<s.n->∀b∈E.m i,b<m){listed:Array Bool}{fs:Nat->List Nat}(hall:∀j,j<n->listed.getD j false=true)
 (hI:zy P w0 ws N m n s E l kds xs listed a w fs):aD w0 N (kT s (l.take n) xs) a w (E.plus m w.heap.size):=by
 have hnl:=(cq hB).2.1;have hg:=ER hI.rep hw hEm;obtain⟨ha1,ha2,ha3⟩:=kP (l:=l.take n) (xs:=xs) (s:=s)
 have:=zq hg (sl':=(kT s (l.take n) xs).sl) (λt=>by
  by_cases hex:∃j oj,j<n/\l[j]? =some oj/\oj.dst=some t
  ·obtain⟨j,oj,hj,hoj,hdj⟩:=hex;have hx:=List.getElem?_eq_getElem (show j<xs.length by omega);rw[sk hnd (by rw[List.getElem?_take,if_pos hj];exact hoj) hx hdj];exact(hI.fact j oj t _ _ hj (hall j hj) hoj hdj (List.getElem?_eq_getElem (by omega)) hx).2
  ·rw[og (λo ho hdo=>by
    obtain⟨j,hj,rfl⟩:=List.mem_iff_getElem.1 ho;simp at hj
    exact hex ⟨j,_,by omega,by rw[List.getElem?_eq_getElem (by omega)],by rw[List.getElem_take]at hdo;exact hdo⟩)]
   have:=hg.slot t;simp only[cE]at this
   rw[if_neg (by
    simp only[List.contains_iff_mem];intro hm;obtain⟨j,o,hj,_,ho,hdo⟩:=fg.1 hm
    exact hex ⟨j,o,hj,ho,hdo⟩)]at this
   exact this)
 have e:kT s (l.take n) xs={cE s (Hd l n listed)with sl:=(kT s (l.take n) xs).sl}:=by
  generalize kT s (l.take n) xs=r at *;obtain⟨r1,r2,r3,r4⟩:=r;simp only at ha1 ha2 ha3;subst ha1 ha2 ha3;rfl
 rw[e];exact this
theorem Ec{M:Nat}{c:Nat}{L:Nat->Option Nat}{b:Bool}{xs:List AC}{v:Value}(hv:ba w (E.plus m M) L c (.p b xs) v)(hx:S0 L b xs):v=nD E (.p b xs):=vN (E:=E) (E':=E.plus m M) (λ_ _ _=>rfl) hv hx
theorem Ei{L:Nat->Option Nat}{i st off:Nat}(h:L i=some st):S0 L false [.ptr i st off]:=⟨λ_=>rfl,λx hx=>by rw[List.mem_singleton]at hx;exact hx▸.inr (.inr (.inr ⟨i,st,off,rfl,h⟩))⟩
theorem xe(n:Nat)(F:List Nat)(hE:uG l n F=true)(hB:jY (aV l n F) n=true)(hpl:∀o∈(aV l n F).take n,pS o.op=true)(hh:fw P N true (aV l n F).toArray ((aV l n F).take n) s s kds xs qF)
 (hC:CF P (qQ l F) qF) (hdt:∀o∈(aV l n F).drop n,∀x∈qQ l F,o.dst≠some x.2.1/\o.dst≠some x.2.2)
 (htail:wO P N ((aV l n F).drop n) (cX Q) (CF P (qQ l F)) qF) {w0:Cx} {a:Act} {w:World} {E:En} (hr:aD w0 N s a w E):
 wpAny P .any l.toArray (AQ w0 N (cX Q)) l.toArray.size (Array.replicate l.toArray.size false) a w:=by
 have hsz:l.toArray.size=(aV l n F).length:=by simp[tT]
 have hF:∀i∈F,∃oi,l[i]? =some oi/\i<n/\oi.guard=none/\(Gw oi.op=true\/Ir oi.op=true):=by
  have hE':=hE;unfold uG at hE';simp only[Bool.and_eq_true,decide_eq_true_eq,List.all_eq_true]at hE';intro i hi;obtain⟨h1,h2⟩:=hE'.2.2 i hi;split at h2
  ·rename_i oi hoi;simp only[Bool.and_eq_true,Bool.or_eq_true]at h2;exact⟨oi,hoi,h1,by simpa using h2.1,h2.2.1⟩
  ·cases h2
 have hqF:=m9 hpl hh;generalize hFL:qQ l F=FL at *;refine wpAny_of_held _ _ _ _ (qb (S:=SF P FL (λt=>nD E (qF.sl t))) hE (λe a w he hq=>?_) _ _ _ _ (λj oj _ hl=>(by rw[getD_replicate_false]at hl;cases hl)) (by simp) ?_)
 ·obtain⟨s',E',h1,_⟩:=hq;cases e<;>first|exact he rfl|exact h1
 unfold jY at hB;rw[Bool.and_eq_true,decide_eq_true_eq]at hB;obtain⟨hB,hnd⟩:=hB;have hnl:=(cq hB).2.1;generalize hl':aV l n F=l' at*
 have hu:G9 n (Array.replicate l.toArray.size false)=n:=by
  unfold G9
  have:(List.range n).filter (λi=>!(Array.replicate l.toArray.size false).getD i false)=List.range n:=by
   rw[List.filter_eq_self];intro i _;rw[getD_replicate_false];rfl
  rw[this];simp
 have hr':aD w0 N s a w E:=hr;have hEm:∀i,i<s.n->∀b∈E.m i,b<w.heap.size:=λi hi b hb=>hr'.m_lt i hi b hb
 obtain⟨hkl,hxl⟩:=hZ hh;have htl:(l'.take n).length=n:=by rw[List.length_take];omega
 rw[htl]at hkl hxl;obtain⟨ha1,ha2,ha3⟩:=kP (l:=l'.take n) (xs:=xs) (s:=s);have hlvq:qF.lv=s.lv:=by rw[hqF];funext i;unfold AS.lv;rw[ha1,ha2]
 have hownq:qF.own? =s.own?:=by rw[hqF];funext i st;unfold AS.own?;rw[ha1,ha2]
 have hSat:∀listed a w fs,zy P w0 w N w.heap.size n s E l' kds xs listed a w fs->True:=λ_ _ _ _ _=>trivial
 have hS:∀(M:Nat) listed a w1 fs,zy P w0 w N M n s E l' kds xs listed a w1 fs->SF P FL (λt=>nD E (qF.sl t)) w1:=by
  intro M listed a w1 fs hI x hx;obtain⟨i,st,off,ty,cs,b,zs,h1,h2,h3,h4,h5⟩:=hC x hx;rw[hownq]at h2;rw[hlvq]at h5;obtain⟨hin,hob,hl⟩:=af h2;have hO:=hI.rep.obj i hin;have hob':(cE s (Hd l' n listed)).ob i=.var st ty cs:=hob;rw[hob']at hO;obtain⟨g,vals,q0,q1,_⟩:=hO;have hsl:ba w1 E s.lv s.c (.p false [.ptr i st off]) (.pointer (some ⟨g,off,none⟩)):=aI ⟨q0,λ_=>⟨g,q1,rfl⟩⟩;obtain⟨u,hu,hus⟩:=zH (P:=P) hI.rep (t:=x.1) (y:=.p false [.ptr i st off]) (x:=.p b zs) (by simp only[xV];rw[show(cE s (Hd l' n listed)).own? =s.own? from rfl,h2];exact h3) hsl;have g1:=vN (E:=E) (λ_ _ _=>rfl) hus h5;show(Instr.loadAt x.1 (nD E (qF.sl x.2.1))).run P w1=.ok (nD E (qF.sl x.2.2)) w1;rw[h1,h4];simp only[nD,GC,q1]at g1 ⊢;rw[hu,g1]
 have h:=jz (J:=JF P l F (SF P FL (λt=>nD E (qF.sl t)))) (Q:=cX Q) (m:=w.heap.size) (E:=E) hB hnd hh hr'.bel.size hEm hr'.A_lt ?_ ?_ n (Array.replicate l.toArray.size false) a w (λ_=>[]) hu
  ⟨by simp[hsz],λj oj _ hl=>(by rw[getD_replicate_false]at hl;cases hl),λt _ ht=>getD_in (by rw[Array.size_replicate,hsz];simpa using ht) (getD_replicate_false _ _)⟩
  ⟨by
   have:Hd l' n (Array.replicate l.toArray.size false)=[]:=by
    rw[List.eq_nil_iff_forall_not_mem];intro t ht;obtain⟨j,o,_,hl,_⟩:=fg.1 ht;rw[getD_replicate_false]at hl;cases hl
   rw[this];have e:cE s []=s:=by unfold cE;simp
   rw[e];exact hr',Nat.le_refl _,λj o d kd x _ hl=>(by rw[getD_replicate_false]at hl;cases hl),λj _ hl=>(by rw[getD_replicate_false]at hl;cases hl),λi j _ _ hl=>(by rw[getD_replicate_false]at hl;cases hl),λ_=>rfl⟩
 ·rw[show l.toArray.size=n+(l'.length-n)from by rw[hsz];omega];rw[show(Array.replicate l.toArray.size false)=Array.replicate (n+(l'.length-n)) false from by congr 1;rw[hsz];omega]at h;exact h
 ·intro listed a w1 fs inv hI;refine⟨hS _ _ _ _ _ hI,λi oi hi hoi hrd=>?_⟩;obtain⟨oi',hoi',hin,hg,hfl⟩:=hF i hi;obtain rfl:oi'=oi:=Option.some.inj (hoi'.symm.trans hoi);have hne:i≠n:=by omega
  have hrd':i∈Region.ready .any l'.toArray listed:=by rw[<-hl'];exact fW hrd λe=>absurd e hne
  have hoil:l'[i]? =some oi':=by rw[<-hl',iw hne];exact hoi
  obtain⟨g1,g2⟩:=wk hB hnd hh hr'.bel.size hEm inv hI hin hrd' hoil;obtain⟨kd,x,qi,qi',hkd,hx,⟨d,hd,hdN⟩,hstp⟩:=iy hh i oi' (by rw[List.getElem?_take,if_pos hin];exact hoil);have htt:(l'.take n).take i=l'.take i:=by rw[List.take_take,Nat.min_eq_left (by omega)]
  rw[htt,hg]at hstp;rcases hfl with hfl|hfl
  ·have hv:∃y,hV P (kT s (l'.take i) xs) oi'.op=some y:=by
    have hb:∀y,oS P (kT s (l'.take i) xs) oi'.op=some y->hV P (kT s (l'.take i) xs) oi'.op=some y:=by
     intro y h1;unfold oS at h1;split at h1
     ·rename_i ho;rw[ho]at hfl;cases hfl
     ·exact h1
    rcases hstp with⟨y,h1,_⟩|⟨f,args,ts,ys,res,ho,_⟩|⟨t,len,parts,el,k,es,esq,ho,_⟩|⟨t,cs,ho,_⟩|⟨y,z,_,_,h1,_⟩|⟨_,_,_,_,_,_,_,_,_,_,_,ho,_⟩|⟨_,_,_,_,_,_,_,_,ho,_⟩|⟨_,_,_,_,_,ho,_⟩
    ·exact⟨y,hb y h1⟩
    ·rw[ho]at hfl;cases hfl
    ·rw[ho]at hfl;cases hfl
    ·rw[ho]at hfl;cases hfl
    ·exact⟨y,hb y h1⟩
    ·rw[ho]at hfl;cases hfl
    ·rw[ho]at hfl;cases hfl
    ·rw[ho]at hfl;cases hfl
   obtain⟨y,hy⟩:=hv;rw[<-rt g2]at hy;obtain⟨v,hv⟩:=pU hfl hy g1;exact⟨v,λw _=>hv w⟩
  ·unfold Ir at hfl;split at hfl
   ·rename_i t p hop
    have hmem:(t,p,d)∈FL:=by
     rw[<-hFL];exact List.mem_filterMap.2 ⟨i,hi,by rw[hoi];simp only[hop,hd]⟩
    have hlk:p∈oi'.looksAt l'.toArray:=List.mem_append_left _ (List.mem_filterMap.2 ⟨.tmp p,by rw[hop];simp[Op.operands],rfl⟩);obtain⟨i0,st,off,ty,cs,b,zs,h1,h2,h3,h4,h5⟩:=hC _ hmem;have hp:=g1.slot p;simp only at hp;rw[if_pos (by simpa using hlk)]at hp;rw[yp (listed:=listed) (fs:=fs) hB hnd hxl (Nat.le_of_lt hin) (λj oj hj hoj hdj=>(ji hB hin hoil hj hoj hdj hlk).1),<-hqF]at hp;have hl5:s.lv i0=some st:=by rw[hownq]at h2;exact(af h2).2.2
    have hpe:a.tmps.getD p undef=nD E (qF.sl p):=by rw[h1]at hp ⊢;exact Ec (c:=s.c) (L:=s.lv) hp (Ei hl5)
    refine⟨nD E (qF.sl d),λw' hSw=>?_⟩;have:=hSw _ hmem;simp only at this;simp only[execOp,hop,Act.eval,hpe];rw[Sem.run_bind,this];rfl
   ·cases hfl
 ·intro a w1 fs hI
  have hall:∀j,j<n->(cZ n (l'.length-n)).getD j false=true:=by
   intro j hj;simp[cZ,Array.getElem?_append,hj]
  have hrep:=A9 hB hnd hxl hkl hr'.bel.size hEm hall hI;rw[<-hqF]at hrep
  have hsl:∀x∈FL,a.tmps.getD x.2.1 undef=nD E (qF.sl x.2.1)/\a.tmps.getD x.2.2 undef=nD E (qF.sl x.2.2):=by
   intro x hx;obtain⟨i0,st,off,ty,cs,b,zs,h1,h2,h3,h4,h5⟩:=hC x hx;have q1:=hrep.slot x.2.1;have q2:=hrep.slot x.2.2;rw[h1]at q1;rw[h4]at q2;rw[h1,h4];exact⟨Ec q1 (Ei (af h2).2.2),Ec q2 h5⟩
  have hseq:=(cq hB).2.2.2.1;rw[show dH P .any l'.toArray (AQ w0 N (cX Q)) (JF P l F (SF P FL (λt=>nD E (qF.sl t)))) (l'.length-n)=dH P .any l'.toArray (AQ w0 N (cX Q)) (JF P l F (SF P FL (λt=>nD E (qF.sl t)))) (l'.drop n).length from by simp];refine nN (n:=n) (I:=λ_ w'=>SF P FL (λt=>nD E (qF.sl t)) w') (λlisted a w hl hSw=>⟨hSw,λi oi hi hoi hrd=>?_⟩) (l'.drop n) n _ a w1 (λj=>by simp[List.getElem?_drop]) (by simpa using hseq) (by simpa using hall) (hS _ _ _ _ _ hI) (xu (w0:=w0) (pv:=λt=>nD E (qF.sl t)) (λw0 s a w E h1 h2 h3=>Qv h1 h2 h3) hdt hsl (htail w0 a w1 _ hrep));obtain⟨_,_,hin,_⟩:=hF i hi;have h0:=(mem_ready.1 hrd).1;have:=hl i hin;rw[getD_both h0]at this;cases this
theorem DW{id:Nat}(n:Nat)(F:List Nat)(hm:P.follows .mixedOrders=true)(hE:uG l n F=true)(hB:jY (aV l n F) n=true)(hpl:∀o∈(aV l n F).take n,pS o.op=true)(hh:fw P N true (aV l n F).toArray ((aV l n F).take n) s s kds xs qF)
 (hC:CF P (qQ l F) qF) (hdt:∀o∈(aV l n F).drop n,∀x∈qQ l F,o.dst≠some x.2.1/\o.dst≠some x.2.2)
 (htail:wO P N ((aV l n F).drop n) (cX Q) (CF P (qQ l F)) qF):oP P N (.region id l.toArray true) Q s:=λw0 a w E hr=>by
 refine Code.wp_mono (λe a w he=>?_) (wp_region_any hm (xe n F hE hB hpl hh hC hdt htail (hr.world' (Below.refl _ _).drew)));obtain⟨s',E',h1,h2⟩:=he
 cases e with
 |normal=>exact⟨s',E',h1,h2⟩
 |_=>exact h1.elim
end
end Go.Proofs.Ytngaddcgmnonbaa
namespace Go.Proofs.Ytngaddcgmnonbaa
open Go.RowKit
def TY(w:World)(g:List Nat)(res:List Rs)(e:Ending)(w':World):Prop:=
 ∃v,e=.returned v/\BW w w' g/\∃(us:List Value) (fs:List (List Nat)),(if res.length=1 then us=[v]else v=.tuple us.toArray)/\ca w' 0 (λ_=>False) us res fs/\fs.flatten.Nodup/\∀b∈fs.flatten,b∈g\/w.heap.size<=b
def Hn(P:Program)(f:FuncId)(args:List (Bool×List DV))(res:List Rs):Prop:=
 bf P f=true/\(∀r∈res,r.2.2=true)/\∃t k es rest,args=(false,[.sl t k es])::rest/\jl es.flatten/\
  ∀(w:World) (B:Nat->Prop) (v:Value) (vs:List Value) (g:List Nat),(∀b,B b->b<w.heap.size/\b∉g)->bi w 0 [v] [.sl t k es] g->cL w B vs rest->Calls P f (v::vs).toArray w (TY w g res)
section
variable {P:Program}{w0:Cx}{w w':World}{N:Nat}{s:AS}{a:Act}{E:En}{o:Oper}
end
end Go.Proofs.Ytngaddcgmnonbaa
namespace Go.Proofs.Ytngaddcgmnonbaa
open Go.RowKit
def Rl(vals:List Value):List Nat:=vals.flatMap λu=>u.ownBlock.toList
def QP(b:Bool)(v:Value):List Value:=if b then(match v with|.agg a=>a.toList|_=>[])else[v]
def yF:List Rs->List Value->List Nat
 |(b,_,true)::rs,v::vs=>Rl (QP b v)++yF rs vs
 |(_,_,false)::rs,_::vs=>yF rs vs
 |_,_=>[]
def Tw(w:World)(g f:List Nat)(res:List Rs)(e:Ending)(w':World):Prop:=
 ∃v,e=.returned v/\BW w w' g/\∃(us:List Value) (fs:List (List Nat)),(if res.length=1 then us=[v]else v=.tuple us.toArray)/\ca w' 0 (λ_=>False) us res fs/\fs.flatten.Nodup/\(∀b∈fs.flatten,b∈f\/w.heap.size<=b)/\∀b∈yF res us,b∈g\/w.heap.size<=b
def NF(P:Program)(f:FuncId)(args:List Rs)(res:List Rs):Prop:=
 bf P f=true/\(∀r∈res,r.2.2=true)/\
  ∀(w:World) (B:Nat->Prop) (vs:List Value) (fs:List (List Nat)),(∀b,B b->b<w.heap.size/\b∉yF args vs)->ca w 0 B vs args fs->fs.flatten.Nodup->(∀b∈fs.flatten,b∈yF args vs\/B b)->
   Calls P f vs.toArray w (Tw w (yF args vs) fs.flatten res)
section
variable {P:Program}{w0:Cx}{w w':World}{N:Nat}{s:AS}{a:Act}{E:En}{o:Oper}
theorem D3{F:Nat->Prop}{E1 E2:En}{cs:List AC}{vals:List Value}{l:List Ob}{s1:AS}(h:ay w E1 s1.lv s1.c cs vals)(m1:aD w0 N (s1.pushL l) a w E2)(hst:fP l s1.c)(m3:oT s1.n (s1.pushL l).n F E1 E2):ay w E2 (s1.pushL l).lv (s1.pushL l).c cs vals:=by
 obtain⟨q1,q2,q3,q4⟩:=eP l s1;refine h.stay ⟨λb hb=>⟨m3.A b hb,rfl⟩,λi st hst' hl=>?_,by omega⟩
 have hin:i<s1.n:=by
  unfold AS.lv at hl;split at hl
  ·rename_i hi;apply Classical.byContradiction;intro hge;obtain⟨st',h1,h2⟩:=tn l s1 i (by omega) hi hst;rw[hl]at h1;injection h1 with h1;omega
  ·cases hl
 refine⟨?_,(m3.same i hin).1⟩;unfold AS.lv at hl ⊢;rw[if_pos (by omega),q4 i hin]at hl;rw[if_pos hin];exact hl
def Ip(w:World)(E:En)(L:Nat->Option Nat)(c:Nat):List Rs->List (Bool×List AC)->List Value->Prop
 |(_,_,true)::rs,x::xs,v::vs=>cW w E L c x.1 x.2 v/\Ip w E L c rs xs vs
 |(_,_,false)::rs,_::xs,_::vs=>Ip w E L c rs xs vs
 |[],[],[]=>True
 |_,_,_=>False
theorem JB{vs:List Value}{B A:Nat->Prop}{fr:Nat->Prop}{hfr:∀b,w.heap.size<=b->fr b}{cu:Option (Nat×Value)}{ow:Nat->Prop}{how:∀b,fr b->ow b}(hA:∀b,A b->B b)(hB:∀b,B b->b<w.heap.size)(hN:vs.length<=N):
 aD ⟨w,B,fr,hfr,cu,ow,how⟩ N (bM []) {tmps:=vs.toArray++Array.replicate (N-vs.toArray.size) undef,defers:=[]} w ⟨λ_=>undef,λ_=>[],λ_=>[],A⟩:=
 ⟨by simp;omega,rfl,⟨rfl,rfl,rfl,Nat.le_refl _,λ_ _=>rfl⟩,λi hi=>by simp[bM]at hi,λt=>by simp only[bM,List.getElem?_nil];trivial,λb hb=>hB b (hA b hb),λb hb i hi=>by simp[bM]at hi,λi hi=>by simp[bM]at hi,λi j hi=>by simp[bM]at hi,
  λi j hi=>by simp[bM]at hi,λi hi=>by simp[bM]at hi,λb hb=>.inl (hA b hb),λi hi=>by simp[bM]at hi,λi hi=>by simp[bM]at hi⟩
end
end Go.Proofs.Ytngaddcgmnonbaa
namespace Go.Proofs.Ytngaddcgmnonbaa
open Go.RowKit
section
variable {P:Program}{w0:Cx}{w w':World}{N:Nat}{s:AS}{a:Act}{E:En}{o:Oper}
def RR:List Bool->List (Bool×List DV)->List Rs
 |g::gs,(b,ds)::ys=>(b,ds,g)::RR gs ys
 |_,_=>[]
def bN:Nat->Nat->List Bool
 |0,_=>[]
 |n+1,b=>(b % 2==1)::bN n (b / 2)
end
end Go.Proofs.Ytngaddcgmnonbaa
namespace Go.Proofs.Ytngaddcgmnonbaa
open Go.RowKit
abbrev VC:=Bool×DV
def QC(w:World)(A:Nat->Prop)(v:Value)(d:DV):Prop:=∃t k es cells,d=.sl t k es/\w.ownsRow 0 t k v es.length cells/\0<k/\(∀e∈es,e.length=k)/\aH w A cells es.flatten
def fe(w:World)(A:Nat->Prop):List VC->List Value->List Nat->Prop
 |(false,d)::cs,v::vs,f=>aH w A [v] [d]/\fe w A cs vs f
 |(true,d)::cs,v::vs,f=>∃f',f=v.ownBlock.toList++f'/\QC w A v d/\fe w A cs vs f'
 |[],[],f=>f=[]
 |_,_,_=>False
def RZ(w w':World)(B:Nat->Prop)(g:Nat)(f f':List Nat)(b:Nat):Prop:=B b\/((b∈f\/w.heap.size<=b)/\b<w'.heap.size/\b≠g/\b∉f')
def MX(w:World)(B:Nat->Prop)(g:Nat)(f:List Nat)(T:TypeId)(cs':List VC)(res:List (Bool×List DV))(e:Ending)(w':World):Prop:=
 ∃v,e=.returned v/\BW w w' (g::f)/\∃(vals':List Value) (f':List Nat) (us:List Value),lK w' g T vals'.toArray/\f'.Nodup/\g∉f'/\(∀b∈f',b∈f\/w.heap.size<=b)/\fe w' (RZ w w' B g f f') cs' vals' f'/\
  (if res.length=1 then us=[v]else v=.tuple us.toArray)/\cL w' (RZ w w' B g f f') us res
def zL(P:Program)(fn:FuncId)(T:TypeId)(cs:List VC)(args:List (Bool×List DV))(cs':List VC)(res:List (Bool×List DV)):Prop:=
 bf P fn=true/\∀(w:World) (B:Nat->Prop) (g:Nat) (vals:List Value) (f:List Nat) (vs:List Value),(∀b,B b->b<w.heap.size/\b≠g/\b∉f)->g∉f->f.Nodup->lK w g T vals.toArray->fe w B cs vals f->cL w B vs args->
  Calls P fn (.pointer (some ⟨g,0,none⟩)::vs).toArray w (MX w B g f T cs' res)
def oY:List VC->Nat->List Ob
 |(true,.sl t k es)::cs,c=>.row c t k es false::oY cs (c+1)
 |_::cs,c=>oY cs c
 |[],_=>[]
def Cr:List VC->Nat->Nat->List AC
 |(true,.sl _ _ _)::cs,n,c=>.own n c::Cr cs (n+1) (c+1)
 |(_,d)::cs,n,c=>.d d::Cr cs n c
 |[],_,_=>[]
theorem v9:∀(cs:List VC) (c:Nat),fP (oY cs c) c
 |[],_=>trivial
 |(true,.sl _ _ _)::cs,c=>⟨rfl,v9 cs (c+1)⟩
 |(true,.sc _)::cs,c=>v9 cs c
 |(false,.sl _ _ _)::cs,c=>v9 cs c
 |(false,.sc _)::cs,c=>v9 cs c
section
variable {P:Program}{w0:Cx}{w w':World}{N:Nat}{s:AS}{a:Act}{E:En}{o:Oper}
theorem wb{A:Nat->Prop}:∀{cs:List VC} {vs:List Value} {f:List Nat},fe w A cs vs f->∀b∈f,b<w.heap.size
 |(false,d)::cs,v::vs,f,h=>wb h.2
 |(true,d)::cs,v::vs,f,h=>by
  obtain⟨f',rfl,⟨t,k,es,cells,_,h1,_⟩,h2⟩:=h;intro b hb;rcases List.mem_append.1 hb with hb|hb
  ·exact(me h1 (Option.mem_toList.1 hb)).2
  ·exact wb h2 b hb
 |[],[],f,h=>by obtain rfl:f=[]:=h;simp
 |[],_::_,_,h=>h.elim
 |(_,_)::_,[],_,h=>by rename_i x _ _ _;cases x<;>exact h.elim
theorem Aa{A0:Nat->Prop}:∀{cs:List VC} {vs:List Value} {f:List Nat} {s:AS} {E:En},aD w0 N s a w E->fe w A0 cs vs f->(∀b,A0 b->E.A b)->f.Nodup->(∀b∈f,w0.fr b/\¬E.A b/\∀j,j<s.n->b∉E.m j)->
 ∃E',aD w0 N (s.pushL (oY cs s.c)) a w E'/\ay w E' (s.pushL (oY cs s.c)).lv (s.pushL (oY cs s.c)).c (Cr cs s.n s.c) vs/\oT s.n (s.pushL (oY cs s.c)).n (· ∈f) E E'/\∀b,E'.A b->E.A b
 |[],[],f,s,E,h,_,_,_,_=>⟨E,h,ay.nil,oT.refl,λ_ h=>h⟩
 |[],_::_,_,_,_,_,h,_,_,_=>h.elim
 |(x,_)::_,[],_,_,_,_,h,_,_,_=>by cases x<;>exact h.elim
 |(false,d)::cs,v::vs,f,s,E,h,hc,hA,hnd,hf=>by
  obtain⟨h1,h2⟩:=hc;obtain⟨E',k1,k2,k3,k4⟩:=Aa h h2 hA hnd hf;have e1:oY ((false,d)::cs) s.c=oY cs s.c:=by cases d<;>rfl
  have e2:Cr ((false,d)::cs) s.n s.c=.d d::Cr cs s.n s.c:=by cases d<;>rfl
  rw[e1,e2]
  exact⟨E',k1,ay.cons (aH.mono h1 λb hb=>k3.A b (hA b hb)) k2,k3,k4⟩
 |(true,d)::cs,v::vs,f,s,E,h,hc,hA,hnd,hf=>by
  obtain⟨f',rfl,⟨t,k,es,cells,rfl,g1,g2,g3,g4⟩,h2⟩:=hc;have hn:=List.nodup_append.1 hnd
  have hs1:=h.pushOb (X:=.row s.c t k es false) (v':=v) (m':=v.ownBlock.toList) (o':=[]) (w':=w) rfl (Below.refl _ _)
   (λb hb=>⟨(me g1 (Option.mem_toList.1 hb)).2,(hf b (List.mem_append_left _ hb)).2.1,(hf b (List.mem_append_left _ hb)).2.2⟩) (by simp) (by simp) (by
    rintro E' rfl hstay;refine⟨cells,by omega,by simp only[ab];exact g1,g2,g3,by simp only[ab],?_⟩;simp only[Bool.false_eq_true,if_false,ab]
    exact⟨trivial,g4.mono λb hb=>.inl (hA b hb)⟩) (λb hb=>(hf b (List.mem_append_left _ hb)).1) (by simp)
  have hx:=sg (s:=s) (E:=E) (X:=.row s.c t k es false) (v':=v) (m':=v.ownBlock.toList) (o':=[]) (F:=(· ∈v.ownBlock.toList++f')) (λb hb=>List.mem_append_left _ hb) (by simp)
  obtain⟨E',k1,k2,k3,k4⟩:=Aa hs1 h2 (λb hb=>.inl (hA b hb)) hn.2.1 (λb hb=>by
   obtain⟨q1,q2,q3⟩:=hf b (List.mem_append_right _ hb);refine⟨q1,λhx=>hx.elim q2 (by simp),λj hj=>?_⟩;by_cases e:j=s.n
   ·subst e;simp only[ab];exact λhm=>hn.2.2 b hm b hb rfl
   ·simp only[az _ _ e]
    exact q3 j (by simp only[AS.push]at hj;omega))
  refine⟨E',k1,?_,?_,λb hb=>(k4 b hb).elim id (by simp)⟩
  ·have hc1:ay w ⟨upd E.v s.n v,upd E.m s.n v.ownBlock.toList,upd E.o s.n [],λb=>E.A b\/b∈([]:List Nat)⟩ (s.push (.row s.c t k es false)).lv (s.push (.row s.c t k es false)).c [.own s.n s.c] [v]:=
    ay.cons ⟨by simp[AS.push],λ_=>by simp only[ab]⟩ ay.nil
   have:=D3 hc1 k1 (v9 cs _) k3;exact ay.cons (this.2 0 _ _ rfl rfl) k2
  ·exact hx.trans k3 (by omega) (λ_ hb=>hb) (λb hb=>List.mem_append_right _ hb)
def yd(T:TypeId)(cs:List VC)(args:List (Bool×List DV)):AS:=
 let s1:=(bM []).pushL (oY cs 0)
 {s1.push (.pvr s1.c T (Cr cs 0 0))with sl:=λt=>match t with|0=>.p false [.ptr s1.n s1.c 0]|t+1=>(match args[t]? with|some (b,ds)=>.p b (ds.map .d)|none=>.und)}
def TL(s:AS):AC->VC->Prop
 |c,(false,d)=>Ke s c d
 |.own i st,(true,d)=>∃t k es,d=.sl t k es/\s.own? i st=some (.row st t k es false)
 |_,_=>False
def Bh(s:AS):List AC->List VC->Prop
 |[],[]=>True
 |c::cs,x::xs=>TL s c x/\Bh s cs xs
 |_,_=>False
def aM:List AC->List VC->List Nat
 |.own i _::cs,(true,_)::xs=>i::aM cs xs
 |_::cs,_::xs=>aM cs xs
 |_,_=>[]
def Ie(P:Program)(s:AS):List ResultVar->List (Bool×List DV)->Prop
 |[],[]=>True
 |rv::rvs,(b,ds)::rs=>ML (λcs=>z6 s cs ds) b (Cq P s rv)/\Ie P s rvs rs
 |_,_=>False
def B2(P:Program)(T:TypeId)(cs':List VC)(rvs:List ResultVar)(res:List (Bool×List DV))(s:AS):Prop:=
 (∃iv st acs,s.own? iv st=some (.pvr st T acs)/\Bh s acs cs'/\(aM acs cs').Nodup)/\Ie P s rvs res
def Mx(P:Program)(T:TypeId)(cs':List VC)(rvs:List ResultVar)(res:List (Bool×List DV)):Exit->AS->Prop
 |.normal,s=>B2 P T cs' rvs res s
 |.ret,s=>B2 P T cs' rvs res s
 |_,_=>False
theorem wV(h:aD w0 N s a w E):∀{acs:List AC} {cs:List VC} {vals:List Value},ay w E s.lv s.c acs vals->Bh s acs cs->(aM acs cs).Nodup->∃f,fe w E.A cs vals f/\f.Nodup/\(∀b∈f,∃i∈aM acs cs,i<s.n/\b∈E.m i)
 |[],[],vals,hc,_,_=>by rw[hc.nil'];exact⟨[],rfl,by simp,by simp⟩
 |[],_::_,_,_,h2,_=>h2.elim
 |_::_,[],_,_,h2,_=>h2.elim
 |c::acs,(false,d)::cs,vals,hc,h2,hnd=>by
  obtain⟨u,us,rfl,c1,c2⟩:=hc.cons';have e:aM (c::acs) ((false,d)::cs)=aM acs cs:=by cases c<;>rfl
  rw[e]at hnd;obtain⟨f,k1,k2,k3⟩:=wV h c2 h2.2 hnd;have h1:Ke s c d:=by have:=h2.1;cases c<;>exact this
  exact⟨f,⟨Ea h c1 h1,k1⟩,k2,by rw[e];exact k3⟩
 |c::acs,(true,d)::cs,vals,hc,h2,hnd=>by
  obtain⟨u,us,rfl,c1,c2⟩:=hc.cons';obtain⟨h1,h2⟩:=h2
  cases c with
  |own i st=>
   obtain⟨t,k,es,rfl,ho⟩:=h1;have hnd':i∉aM acs cs/\(aM acs cs).Nodup:=List.nodup_cons.1 hnd;obtain⟨f,k1,k2,k3⟩:=wV h c2 h2 hnd'.2;obtain⟨hin,hob,hlv⟩:=af ho;obtain rfl:u=E.v i:=c1.2 hlv;have hO:=h.obj i hin;rw[hob]at hO;obtain⟨cells,g0,g1,g2,g3,g4,g5⟩:=hO;simp only[Bool.false_eq_true,if_false]at g5;refine⟨(E.v i).ownBlock.toList++f,⟨f,rfl,⟨t,k,es,cells,rfl,g1,g2,g3,g5.2⟩,k1⟩,?_,?_⟩
   ·refine List.nodup_append.2 ⟨by cases (E.v i).ownBlock<;>simp,k2,λb hb c hc e=>?_⟩;subst e;obtain⟨j,hj,hjn,hm⟩:=k3 b hc;exact h.mm i j hin hjn (λe=>by subst e;exact hnd'.1 hj) b (by rw[g4];exact hb) hm
   ·intro b hb;rcases List.mem_append.1 hb with hb|hb
    ·exact⟨i,List.mem_cons_self ..,hin,by rw[g4];exact hb⟩
    ·obtain⟨j,hj,r⟩:=k3 b hb
     exact⟨j,List.mem_cons_of_mem _ hj,r⟩
  |_=>exact h1.elim
theorem lS:∀{acs:List AC} {cs:List VC},Bh s acs cs->∀i∈aM acs cs,∃st t k es,s.own? i st=some (.row st t k es false)
 |[],[],_,i,hi=>by simp[aM]at hi
 |[],_::_,h,_,_=>h.elim
 |_::_,[],h,_,_=>h.elim
 |c::acs,(false,d)::cs,h,i,hi=>by
  have e:aM (c::acs) ((false,d)::cs)=aM acs cs:=by cases c<;>rfl
  rw[e]at hi;exact lS h.2 i hi
 |c::acs,(true,d)::cs,h,i,hi=>by
  cases c with
  |own j st=>
   rcases List.mem_cons.1 hi with rfl|hi
   ·obtain⟨t,k,es,_,ho⟩:=h.1;exact⟨st,t,k,es,ho⟩
   ·exact lS h.2 i hi
  |_=>exact h.1.elim
theorem ED(h:aD w0 N s a w E):∀{rvs:List ResultVar} {rs:List (Bool×List DV)},Ie P s rvs rs->∃vs,lP P w a.tmps rvs vs/\cL w E.A vs rs
 |[],[],_=>⟨[],trivial,cL.nil⟩
 |rv::rvs,(b,ds)::rs,hd=>by
  obtain⟨hd,hrest⟩:=hd;obtain⟨cs,hcs,hrd⟩:=wr hd;obtain⟨v,hv1,hv2⟩:=Cj h hcs;obtain⟨vals,hp,hcell⟩:=iA (show cW w E s.lv s.c b cs v from hv2);obtain⟨vs,r1,r2⟩:=ED h hrest
  exact⟨v::vs,⟨hv1,r1⟩,cL.cons (AB hp (zF h hcell hrd)) r2⟩
 |[],_::_,hd=>hd.elim
 |_::_,[],hd=>hd.elim
theorem fe.mono{A A':Nat->Prop}(hA:∀b,A b->A' b):∀{cs:List VC} {vs:List Value} {f:List Nat},fe w A cs vs f->fe w A' cs vs f
 |(false,d)::cs,v::vs,f,h=>⟨h.1.mono hA,fe.mono hA h.2⟩
 |(true,d)::cs,v::vs,f,h=>by
  obtain⟨f',e,⟨t,k,es,cells,e1,h1,h2,h3,h4⟩,h5⟩:=h
  exact⟨f',e,⟨t,k,es,cells,e1,h1,h2,h3,h4.mono hA⟩,fe.mono hA h5⟩
 |[],[],f,h=>h
 |[],_::_,_,h=>h.elim
 |(x,_)::_,[],_,h=>by cases x<;>exact h.elim
theorem cL.mono{A A':Nat->Prop}(hA:∀b,A b->A' b){vs:List Value}{xs:List (Bool×List DV)}(h:cL w A vs xs):cL w A' vs xs:=by
 refine⟨h.1,λj v x h1 h2=>?_⟩;have:=h.2 j v x h1 h2;unfold xO at this ⊢;split
 ·rename_i hx;rw[if_pos hx]at this;obtain⟨vals,e,r⟩:=this;exact⟨vals,e,r.mono hA⟩
 ·rename_i hx;rw[if_neg hx]at this;exact this.mono hA
theorem DJ{f:FuncId}{fn:Func}{c:Code}{T:TypeId}{cs cs':List VC}{args res:List (Bool×List DV)}(hf:P.funcs[f]? =some fn)(hb:fn.body=some c)(hc:bf P f=true)(hN:args.length+1<=fn.ntmps)
 (h:oP P fn.ntmps c (Mx P T cs' fn.results.toList res) (yd T cs args)):zL P f T cs args cs' res:=by
 refine⟨hc,λw B g vals fl vs hB hgf hnd hBlk hcv hargs=>?_⟩;refine calls_of_wp hf hb ?_
 have hgl:g<w.heap.size:=by
  apply Classical.byContradiction;intro hge;have:w.heap[g]? =none:=Array.getElem?_eq_none (by omega);rw[hBlk]at this;cases this
 have h0:=JB (w:=w) (vs:=.pointer (some ⟨g,0,none⟩)::vs) (N:=fn.ntmps) (B:=B) (A:=B) (fr:=λb=>b∈g::fl\/w.heap.size<=b) (hfr:=λ_ h=>.inr h) (cu:=some (g,.bool false)) (ow:=λb=>b∈g::fl\/w.heap.size<=b) (how:=λb h=>h)
  (λb hb=>hb) (λb hb=>(hB b hb).1) (by simp;have:=hargs.1;omega)
 obtain⟨E1,k1,k2,k3,k4⟩:=Aa h0 hcv (λb hb=>hb) hnd (λb hb=>⟨.inl (List.mem_cons_of_mem _ hb),λhA=>(hB b hA).2.2 hb,λj hj=>by simp[bM]at hj⟩);obtain⟨q1,q2,q3,q4⟩:=eP (oY cs (bM []).c) (bM []);have hgm:∀j,j<((bM []).pushL (oY cs (bM []).c)).n->g∉E1.m j:=λj hj hm=>hgf (k3.new j (by simp[bM]) hj g (.inl hm))
 have k5:=k1.pushOb (X:=.pvr ((bM []).pushL (oY cs (bM []).c)).c T (Cr cs 0 0)) (v':=.pointer (some ⟨g,0,none⟩)) (m':=[g]) (o':=[]) (w':=w) rfl (Below.refl _ _)
  (λb hb=>by simp at hb;subst hb;exact⟨hgl,λhA=>(hB _ (k4 _ hA)).2.1 rfl,hgm⟩) (by simp) (by simp) (by
   rintro E' rfl hstay
   exact⟨g,vals,by omega,by simp only[ab],by simp only[ab],by simp only[ab],hBlk,k2.stay hstay,_,rfl⟩) (λb hb=>by simp at hb;subst hb;exact .inl (List.mem_cons_self ..)) (by simp)
 have h1:∃E',aD ⟨w,B,λb=>b∈g::fl\/w.heap.size<=b,λ_ h=>.inr h,some (g,.bool false),λb=>b∈g::fl\/w.heap.size<=b,λb h=>h⟩ fn.ntmps (yd T cs args) {tmps:=(Value.pointer (some ⟨g,0,none⟩)::vs).toArray++Array.replicate (fn.ntmps-(Value.pointer (some ⟨g,0,none⟩)::vs).toArray.size) undef,defers:=[]} w E':=by
  refine⟨_,k5.size,k5.defers,k5.bel,k5.obj,λt=>?_,k5.A_lt,k5.A_m,k5.A_o,k5.mm,k5.oo,k5.m_lt,k5.anc,k5.mF,k5.oF⟩
  cases t with
  |zero=>
   refine aI ⟨by simp[AS.push,yd],λ_=>⟨g,by exact ab _ _ _,?_⟩⟩
   simp[Array.getElem?_append]
  |succ t=>
   show ba _ _ _ _ (match args[t]? with|some (b,ds)=>.p b (ds.map .d)|none=>.und) _;split
   ·rename_i b ds hx;have hlt:t<vs.length:=by rw[hargs.1];exact(List.getElem?_eq_some_iff.1 hx).1
    have hv:((Value.pointer (some ⟨g,0,none⟩)::vs).toArray++Array.replicate (fn.ntmps-(Value.pointer (some ⟨g,0,none⟩)::vs).toArray.size) undef).getD (t+1) undef=vs[t]:=by
     simp[Array.getElem?_append,hlt]
    rw[hv];have:=hargs.2 t _ _ (List.getElem?_eq_getElem hlt) hx;unfold xO at this;show cW _ _ _ _ b _ _;unfold cW
    cases b with
    |true=>obtain⟨us,h1,h2⟩:=this;exact⟨us,h1,ay.ofRep (aH.mono h2 λb hb=>.inl (k3.A b hb))⟩
    |false=>exact ay.ofRep (aH.mono this λb hb=>.inl (k3.A b hb))
   ·trivial
 obtain⟨E',h1⟩:=h1;refine Code.wp_mono (λe a' w' he=>?_) (h _ _ w _ h1);obtain⟨s,E,hq',hr⟩:=he
 have key:B2 P T cs' fn.results.toList res s->a'.defers=[]/\∃v,(results fn a'.tmps).run P w'=.ok v w'/\MX w B g fl T cs' res (.returned v) w':=by
  rintro⟨⟨iv,st,acs,ho,he,hnd2⟩,hrf⟩;obtain⟨us,r1,r2⟩:=ED hr hrf;obtain⟨v,p1,p2⟩:=fU r1;obtain⟨hin,hob,hlv⟩:=af ho;have hO:=hr.obj iv hin;rw[hob]at hO;obtain⟨g',vals',hst,e1,e2,e3,hBlk',hcr,u,hcu⟩:=hO;injection hcu with hcu;injection hcu with hcu;subst hcu;obtain⟨f',c1,c2,c3⟩:=wV hr hcr he hnd2
  have hf':∀b∈f',(b∈fl\/w.heap.size<=b)/\b≠g/\¬E.A b:=by
   intro b hb;obtain⟨i,hi,hin2,hm⟩:=c3 b hb
   have hne:b≠g:=λe=>by
    subst e
    have hii:i≠iv:=λe=>by
     subst e;obtain⟨st2,t2,k2,es2,ho2⟩:=lS he i hi;obtain⟨_,hob2,_⟩:=af ho2;rw[hob]at hob2;cases hob2
    exact hr.mm i iv hin2 hin hii b hm (by rw[e2];simp)
   refine⟨?_,hne,λhA=>hr.A_m b hA i hin2 hm⟩;rcases hr.mF i hin2 b hm with h6|h6
   ·rcases List.mem_cons.1 h6 with h7|h7
    ·exact absurd h7 hne
    ·exact .inl h7
   ·exact .inr h6
  have hA:∀b,E.A b->RZ w w' B g fl f' b:=by
   intro b hb;have hbg:b≠g:=λe=>hr.A_m b hb iv hin (by rw[e2,e];simp)
   rcases hr.anc b hb with h6|h6
   ·exact .inl h6
   ·refine .inr ⟨?_,hr.A_lt b hb,hbg,λhbf=>(hf' b hbf).2.2 hb⟩;rcases h6 with h6|h6
    ·rcases List.mem_cons.1 h6 with h7|h7
     ·exact absurd h7 hbg
     ·exact .inl h7
    ·exact .inr h6
  refine⟨hr.defers,v,p1,v,rfl,⟨hr.bel.os,hr.bel.tape,hr.bel.output,hr.bel.size,λb hb hn=>hr.bel.block b (λhf=>hf.elim hn (λhf=>by have:w.heap.size<=b:=hf;omega))⟩,vals',f',us,hBlk',c2,λhg=>(hf' g hg).2.1 rfl,λb hb=>(hf' b hb).1,c1.mono hA,?_,r2.mono hA⟩;rw[r2.1]at p2;exact p2
 cases e with
 |normal=>exact key hq'
 |ret=>exact key hq'
 |_=>exact hq'.elim
def kz(pv:Bool)(st:Nat)(T:TypeId)(cs:List AC):Ob:=if pv then .pvr st T cs else .var st T cs
theorem fO{pv:Bool}{st:Nat}{T:TypeId}{cs:List AC}:(kz pv st T cs).st=some st:=by cases pv<;>rfl
theorem rV{cu:Option (Nat×Value)}{L:Nat->Option Nat}{c i st:Nat}{pv:Bool}{T:TypeId}{cs:List AC}(h:Di cu w 0 E L c i (kz pv st T cs)):
 ∃g vals,st<c/\E.v i=.pointer (some ⟨g,0,none⟩)/\E.m i=[g]/\E.o i=[]/\lK w g T (vals:List Value).toArray/\ay w E L c cs vals/\(pv=true->∃u,cu=some (g,u)):=by
 cases pv with
 |true=>obtain⟨g,vals,h1,h2,h3,h4,h5,h6,h7⟩:=h;exact⟨g,vals,h1,h2,h3,h4,h5,h6,λ_=>h7⟩
 |false=>obtain⟨g,vals,h1,h2,h3,h4,_,h5,h6⟩:=h;exact⟨g,vals,h1,h2,h3,h4,h5,h6,nofun⟩
theorem w6{cu:Option (Nat×Value)}{L:Nat->Option Nat}{c i st g:Nat}{pv:Bool}{T:TypeId}{cs:List AC}{vals:List Value}(h1:st<c)(h2:E.v i=.pointer (some ⟨g,0,none⟩))(h3:E.m i=[g])(h4:E.o i=[])(h5:lK w g T vals.toArray)(h6:ay w E L c cs vals)
 (h7:pv=true->∃u,cu=some (g,u)):Di cu w 0 E L c i (kz pv st T cs):=by
 cases pv with
 |true=>exact⟨g,vals,h1,h2,h3,h4,h5,h6,h7 rfl⟩
 |false=>exact⟨g,vals,h1,h2,h3,h4,Nat.zero_le _,h5,h6⟩
def Pw(s:AS):AC->VC->Prop
 |c,(false,d)=>Ke s c d
 |.own i st,(true,d)=>∃t k es dp,d=.sl t k es/\s.own? i st=some (.row st t k es dp)
 |_,_=>False
def ol(s:AS):List AC->List VC->Prop
 |[],[]=>True
 |c::cs,x::xs=>Pw s c x/\ol s cs xs
 |_,_=>False
theorem pQ(h:aD w0 N s a w E):∀{acs:List AC} {cs:List VC} {vals:List Value},ay w E s.lv s.c acs vals->ol s acs cs->(aM acs cs).Nodup->∃f,fe w E.A cs vals f/\f.Nodup/\(∀b∈f,∃i∈aM acs cs,i<s.n/\b∈E.m i)
 |[],[],vals,hc,_,_=>by rw[hc.nil'];exact⟨[],rfl,by simp,by simp⟩
 |[],_::_,_,_,h2,_=>h2.elim
 |_::_,[],_,_,h2,_=>h2.elim
 |c::acs,(false,d)::cs,vals,hc,h2,hnd=>by
  obtain⟨u,us,rfl,c1,c2⟩:=hc.cons';have e:aM (c::acs) ((false,d)::cs)=aM acs cs:=by cases c<;>rfl
  rw[e]at hnd;obtain⟨f,k1,k2,k3⟩:=pQ h c2 h2.2 hnd;have h1:Ke s c d:=by have:=h2.1;cases c<;>exact this
  exact⟨f,⟨Ea h c1 h1,k1⟩,k2,by rw[e];exact k3⟩
 |c::acs,(true,d)::cs,vals,hc,h2,hnd=>by
  obtain⟨u,us,rfl,c1,c2⟩:=hc.cons';obtain⟨h1,h2⟩:=h2
  cases c with
  |own i st=>
   obtain⟨t,k,es,dp,rfl,ho⟩:=h1;have hnd':i∉aM acs cs/\(aM acs cs).Nodup:=List.nodup_cons.1 hnd;obtain⟨f,k1,k2,k3⟩:=pQ h c2 h2 hnd'.2;obtain⟨hin,hob,hlv⟩:=af ho;obtain rfl:u=E.v i:=c1.2 hlv;have hO:=h.obj i hin;rw[hob]at hO;obtain⟨cells,g0,g1,g2,g3,g4,g5⟩:=hO
   have g6:aH w E.A cells es.flatten:=by
    cases dp with
    |true=>simp only[if_pos]at g5;exact g5.rep.mono (h.A_o i hin)
    |false=>simp only[Bool.false_eq_true,if_false]at g5;exact g5.2
   refine⟨(E.v i).ownBlock.toList++f,⟨f,rfl,⟨t,k,es,cells,rfl,g1,g2,g3,g6⟩,k1⟩,?_,?_⟩
   ·refine List.nodup_append.2 ⟨by cases (E.v i).ownBlock<;>simp,k2,λb hb c hc e=>?_⟩;subst e;obtain⟨j,hj,hjn,hm⟩:=k3 b hc;exact h.mm i j hin hjn (λe=>by subst e;exact hnd'.1 hj) b (by rw[g4];exact hb) hm
   ·intro b hb;rcases List.mem_append.1 hb with hb|hb
    ·exact⟨i,List.mem_cons_self ..,hin,by rw[g4];exact hb⟩
    ·obtain⟨j,hj,r⟩:=k3 b hb
     exact⟨j,List.mem_cons_of_mem _ hj,r⟩
  |_=>exact h1.elim
theorem tG:∀{acs:List AC} {cs:List VC},ol s acs cs->∀i∈aM acs cs,∃st t k es dp,s.own? i st=some (.row st t k es dp)
 |[],[],_,i,hi=>by simp[aM]at hi
 |[],_::_,h,_,_=>h.elim
 |_::_,[],h,_,_=>h.elim
 |c::acs,(false,d)::cs,h,i,hi=>by
  have e:aM (c::acs) ((false,d)::cs)=aM acs cs:=by cases c<;>rfl
  rw[e]at hi;exact tG h.2 i hi
 |c::acs,(true,d)::cs,h,i,hi=>by
  cases c with
  |own j st=>
   rcases List.mem_cons.1 hi with rfl|hi
   ·obtain⟨t,k,es,dp,_,ho⟩:=h.1;exact⟨st,t,k,es,dp,ho⟩
   ·exact tG h.2 i hi
  |_=>exact h.1.elim
def AS.killL(s:AS):List Nat->AS
 |[]=>s
 |i::r=>(s.kill i).killL r
theorem BY:∀{R:List Nat} {s:AS} {E:En},aD w0 N s a w E->(∀i∈R,i<s.n)->∃E1,aD w0 N (s.killL R) a w E1/\E1.v=E.v/\E1.A=E.A/\(∀j,∀b∈E1.m j,b∈E.m j)/\(∀j∈R,E1.m j=[])/\(∀j,E.m j=[]->E1.m j=[])
 |[],s,E,h,_=>⟨E,h,rfl,rfl,λ_ _ h=>h,by simp,λ_ h=>h⟩
 |i::R,s,E,h,hR=>by
  have k1:=zR h (hR i (List.mem_cons_self ..));obtain⟨E1,q1,q2,q3,q4,q5,q6⟩:=BY (R:=R) k1 (λj hj=>hR j (List.mem_cons_of_mem _ hj))
  have ev:upd E.v i (E.v i)=E.v:=by
   funext j;by_cases e:j=i
   ·subst e;simp only[ab]
   ·simp only[az _ _ e]
  have hz:∀j,upd E.m i [] j=[]\/(j≠i/\upd E.m i [] j=E.m j):=λj=>by
   by_cases e:j=i
   ·subst e;simp only[ab];exact .inl trivial
   ·exact .inr ⟨e,az _ _ e⟩
  refine⟨E1,q1,q2.trans ev,q3,λj b hb=>?_,λj hj=>?_,λj hj=>q6 j ((hz j).elim id λh=>h.2.trans hj)⟩
  ·have:=q4 j b hb;rcases hz j with h|h
   ·simp only at this;rw[h]at this;cases this
   ·simp only at this;rw[h.2]at this;exact this
  ·rcases List.mem_cons.1 hj with rfl|hj
   ·exact q6 j (by simp only[ab])
   ·exact q5 j hj
theorem pn:∀{R:List Nat} {s:AS},(s.killL R).n=s.n/\(s.killL R).c=s.c/\(s.killL R).sl=s.sl/\(∀j,j∉R->(s.killL R).ob j=s.ob j)/\∀j∈R,(s.killL R).ob j=.dead
 |[],s=>⟨rfl,rfl,rfl,λ_ _=>rfl,by simp⟩
 |i::R,s=>by
  obtain⟨h1,h2,h3,h4,h5⟩:=pn (R:=R) (s:=s.kill i);refine⟨h1,h2,h3,λj hj=>?_,λj hj=>?_⟩
  ·show((s.kill i).killL R).ob j=_;rw[h4 j (λh=>hj (List.mem_cons_of_mem _ h))];exact az _ _ (λe=>hj (e▸List.mem_cons_self ..))
  ·by_cases hjR:j∈R
   ·exact h5 j hjR
   ·rcases List.mem_cons.1 hj with rfl|hj
    ·show((s.kill j).killL R).ob j=_;rw[h4 j hjR];exact ab _ _ _
    ·exact absurd hj hjR
def nJ:List AC->List VC->List AC
 |c::cs,(false,d)::xs=>.d d::nJ cs xs
 |c::cs,(true,d)::xs=>c::nJ cs xs
 |_,_=>[]
theorem zP{L:Nat->Option Nat}{c:Nat}{A:Nat->Prop}(hA:∀b,A b->E.A b):∀{acs:List AC} {cs cs':List VC} {vs:List Value} {f:List Nat},ol s acs cs->cs'.map (·.1)=cs.map (·.1)->fe w A cs' vs f->(∀i∈aM acs cs,L i=none)->(∀c0∈acs,∀i st,c0=.own i st->st<c)->ay w E L c (nJ acs cs') vs
 |[],[],cs',vs,f,_,hm,hv,_,_=>by
  have:cs'=[]:=by cases cs' with
   |nil=>rfl
   |cons=>simp at hm
  subst this
  cases vs with
  |nil=>exact ay.nil
  |cons=>exact hv.elim
 |[],_::_,_,_,_,h,_,_,_,_=>h.elim
 |_::_,[],_,_,_,h,_,_,_,_=>h.elim
 |c0::acs,(x,d)::cs,[],vs,f,h,hm,_,_,_=>by simp at hm
 |c0::acs,(x,d)::cs,(x',d')::cs',[],f,h,hm,hv,_,_=>by cases x'<;>exact hv.elim
 |c0::acs,(x,d)::cs,(x',d')::cs',v::vs,f,h,hm,hv,hL,hst=>by
  simp only[List.map_cons,List.cons.injEq]at hm;obtain⟨rfl,hm⟩:=hm;have hst':∀c1∈acs,∀i st,c1=.own i st->st<c:=λc1 h1=>hst c1 (List.mem_cons_of_mem _ h1)
  cases x' with
  |false=>
   have e:aM (c0::acs) ((false,d)::cs)=aM acs cs:=by cases c0<;>rfl
   rw[e]at hL
   exact ay.cons (aH.mono hv.1 hA) (zP hA h.2 hm hv.2 hL hst')
  |true=>
   obtain⟨f',_,_,hv⟩:=hv;obtain⟨h1,h2⟩:=h
   cases c0 with
   |own i st=>
    have hLi:=hL i (List.mem_cons_self ..);refine ay.cons ⟨hst _ (List.mem_cons_self ..) i st rfl,λhl=>?_⟩ (zP hA h2 hm hv (λj hj=>hL j (List.mem_cons_of_mem _ hj)) hst')
    rw[hLi]at hl;cases hl
   |_=>exact h1.elim
def wm(res:List (Bool×List DV)):AV:=match res with|[(b,ds)]=>.p b (ds.map .d)|l=>.tup (l.map λr=>(r.1,r.2.map .d))
theorem BR{L:Nat->Option Nat}{c:Nat}{A:Nat->Prop}(hA:∀b,A b->E.A b){res:List (Bool×List DV)}{us:List Value}{v:Value}(h:cL w A us res)(hv:if res.length=1 then us=[v]else v=.tuple us.toArray):ba w E L c (wm res) v:=by
 have hp:∀(j:Nat) b ds u,res[j]? =some (b,ds)->us[j]? =some u->cW w E L c b (ds.map .d) u:=by
  intro j b ds u h1 h2;have:=h.2 j u (b,ds) h2 h1;unfold xO at this;unfold cW
  cases b with
  |true=>obtain⟨vals,e,r⟩:=this;exact⟨vals,e,ay.ofRep (r.mono hA)⟩
  |false=>exact ay.ofRep (aH.mono this hA)
 unfold wm;split
 ·rename_i b ds;simp only[List.length_singleton,if_true]at hv;subst hv;exact hp 0 b ds v rfl rfl
 ·rename_i hne
  have hl:¬res.length=1:=λe=>by
   obtain⟨⟨b,ds⟩,rfl⟩:=List.length_eq_one_iff.1 e;exact hne b ds rfl
  rw[if_neg hl]at hv;refine⟨us,hv,by rw[List.length_map];exact h.1.symm,λj b cs u h1 h2=>?_⟩;rw[List.getElem?_map]at h1
  cases hr:res[j]? with
  |none=>simp[hr]at h1
  |some r=>
   simp[hr]at h1;obtain⟨rfl,rfl⟩:=h1;exact hp j r.1 r.2 u hr h2
def AS.aftV(s:AS)(i st:Nat)(pv:Bool)(T:TypeId)(R:List Nat)(cs':List VC):AS:=
 { (s.killL R).pushL (oY cs' s.c)with ob:=upd ((s.killL R).pushL (oY cs' s.c)).ob i (kz pv st T (Cr cs' s.n s.c))}
theorem JW{f:FuncId}{x:Operand}{xs:List Operand}{ts:Array TypeId}{args:Array Operand}{i st:Nat}{pv:Bool}{T:TypeId}{acs:List AC}{cs cs':List VC}{ys res:List (Bool×List DV)}(ho:o.op=.call ⟨.value (.func f),args,ts⟩)(hargs:args.toList=x::xs)(hd:dB N o.dst=true)
 (hm:zL P f T cs ys cs' res) (hx:s.ev x=.p false [.ptr i st 0]) (hi:s.own? i st=some (kz pv st T acs)) (hs:ol s acs cs) (hnd:(aM acs cs).Nodup) (hfl:cs'.map (·.1)=cs.map (·.1)) (hys:fb s xs ys):
 dd P N o s ((s.aftV i st pv T (aM acs cs) cs').put o.dst (wm res)):=by
 intro w0 a w E h;obtain⟨hc,hm⟩:=hm;obtain⟨hin,hob,hlv⟩:=af hi;have hO:=h.obj i hin;rw[hob]at hO;obtain⟨g,vals,hst,e1,e2,e3,hB,hcr,hcu⟩:=rV hO;obtain⟨fl,c1,c2,c3⟩:=pQ h hcr hs hnd;have hgl:g<w.heap.size:=h.m_lt i hin g (by rw[e2];simp)
 have hR:∀j∈aM acs cs,j<s.n/\j≠i:=λj hj=>by
  obtain⟨st2,t2,k2,es2,dp2,ho2⟩:=tG hs j hj;obtain⟨p1,p2,_⟩:=af ho2;exact⟨p1,λe=>by subst e;rw[hob]at p2;cases pv<;>cases p2⟩
 have hgf:g∉fl:=λhg=>by
  obtain⟨j,hj,hjn,hm⟩:=c3 g hg;exact h.mm j i hjn hin (hR j hj).2 g hm (by rw[e2];simp)
 have hAg:∀b,E.A b->b≠g/\b∉fl:=λb hb=>⟨λe=>h.A_m b hb i hin (by rw[e2,e];simp),λhbf=>by obtain⟨j,hj,hjn,hm⟩:=c3 b hbf;exact h.A_m b hb j hjn hm⟩
 have hev:=aJ h x;rw[hx]at hev;obtain⟨g2,p1,p2⟩:=(aA hev).2 hlv;rw[e1]at p1;injection p1 with p1;injection p1 with p1;injection p1 with p1;subst p1;unfold Oper.wp;rw[lj ho hc,Oper.upon_enter,hargs,List.map_cons,p2];refine(hm w E.A g vals fl _ (λb hb=>⟨h.A_lt b hb,hAg b hb⟩) hgf c2 hB c1 (iG h hys)).mono ?_;rintro e w' ⟨v,rfl,hw,vals',f',us,hB',hnd',hgf',hff,hcv',hv,har⟩;simp only;have hfr:∀b∈fl,w0.fr b:=λb hb=>by obtain⟨j,hj,hjn,hm⟩:=c3 b hb;exact h.mF j hjn b hm
 have hgfr:w0.fr g:=h.mF i hin g (by rw[e2];simp);obtain⟨E1,k1,k2,k3,k4,k5,k6⟩:=BY (R:=aM acs cs) h (λj hj=>(hR j hj).1);obtain⟨n1,n2,n3,n4,n5⟩:=pn (R:=aM acs cs) (s:=s);have hii:i∉aM acs cs:=λhx=>(hR i hx).2 rfl
 have hfm:∀b∈fl,∀j,j<s.n->b∉E1.m j:=λb hb j hj hm=>by
  obtain⟨j2,hj2,hjn2,hm2⟩:=c3 b hb;by_cases e:j=j2
  ·subst e;rw[k5 j hj2]at hm;cases hm
  ·exact h.mm j j2 hj hjn2 e b (k4 j b hm) hm2
 have hsz:=hw.size
 have hbel:C9 w0 w':=⟨hw.os.trans h.bel.os,hw.tape.trans h.bel.tape,hw.output.trans h.bel.output,Nat.le_trans h.bel.size hsz,λb hb=>(hw.block b (Nat.lt_of_lt_of_le (Cx.lt hb) h.bel.size) (λhbm=>hb (by
  rcases List.mem_cons.1 hbm with e|hbm
  ·rw[e];exact hgfr
  ·exact hfr b hbm))).trans (h.bel.block b hb)⟩
 have hg':g<w'.heap.size:=Nat.lt_of_lt_of_le hgl hsz
 have hlv1:∀j∈aM acs cs,(s.killL (aM acs cs)).lv j=none:=λj hj=>by
  unfold AS.lv;rw[n5 j hj];split<;>rfl
 have hAm:∀b,RZ w w' E.A g fl f' b->b<w'.heap.size/\b≠g/\∀j,j<s.n->j≠i->b∉E1.m j:=by
  rintro b (hb|⟨hb,hb2,hb3,hb4⟩)
  ·exact⟨Nat.lt_of_lt_of_le (h.A_lt b hb) hsz,(hAg b hb).1,λj hj _ hm=>h.A_m b hb j hj (k4 j b hm)⟩
  ·refine⟨hb2,hb3,λj hj _ hm=>?_⟩;rcases hb with hb|hb
   ·exact hfm b hb j hj hm
   ·have:=h.m_lt j hj b (k4 j b hm);omega
 have hob1:(s.killL (aM acs cs)).ob i=kz pv st T acs:=(n4 i hii).trans hob
 have s2:=k1.changeG (i:=i) (n':=s.n) (X:=kz pv st T (nJ acs cs')) (v':=E1.v i) (m':=[g]) (o':=[]) (A':=RZ w w' E.A g fl f') (c':=s.c) (w':=w') (by rw[n1];exact Nat.le_refl _) (λj hj _=>by rw[n1];exact hj) hin
  hbel hsz (λk hk=>by
   have hk':k≠g/\k∉fl/\k<w.heap.size:=by
    rcases hk with hk|⟨j,hj,hne,hk⟩
    ·rw[k3]at hk;exact⟨(hAg k hk).1,(hAg k hk).2,h.A_lt k hk⟩
    ·rw[n1]at hj;exact⟨λe=>h.mm j i hj hin hne k (k4 j k hk) (by rw[e2,e];simp),λhkf=>hfm k hkf j hj hk,h.m_lt j hj k (k4 j k hk)⟩
   exact hw.block k hk'.2.2 (λhm=>by
    rcases List.mem_cons.1 hm with e|hm
    ·exact hk'.1 e
    ·exact hk'.2.1 hm)) (by rw[n2];exact Nat.le_refl _) (.inl ⟨by rw[n1];exact hin,by rw[fO,hob1,fO],rfl⟩) (λb hb=>by rw[k3]at hb;exact .inl hb) (λb hb=>by
   rcases hb with hb|⟨hb,_⟩
   ·exact .inl (by rw[k3];exact hb)
   ·exact .inr (.inr (hb.elim (hfr b) λhb=>w0.hfr b (Nat.le_trans h.bel.size hb))))
  (λb hb=>⟨(hAm b hb).1,by simp;exact(hAm b hb).2.1,λj hj hne=>(hAm b hb).2.2 j (by rw[n1]at hj;exact hj) hne⟩)
  (λb hb=>by
   simp at hb;subst hb;exact⟨hg',λj hj hne hm=>h.mm j i (by rw[n1]at hj;exact hj) hin hne _ (k4 j _ hm) (by rw[e2];simp)⟩) (by simp) (by
   rintro s' rfl E' rfl hstay;refine w6 (vals:=vals') hst (by simp only[ab];rw[k2];exact e1) (by simp only[ab]) (by simp only[ab]) hB' ?_ hcu;refine zP (s:=s) (λb hb=>hb) hs hfl hcv' (λj hj=>?_) (λc0 hc0 j stj e=>?_)
   ·unfold AS.lv;simp only[az _ _ (hR j hj).2,n5 j hj];split<;>rfl
   ·obtain⟨p,hp,rfl⟩:=List.mem_iff_getElem.1 hc0;have:=hcr.2 p _ _ (List.getElem?_eq_getElem hp) (List.getElem?_eq_getElem (by rw[<-hcr.1];exact hp));rw[e]at this
    exact this.1) (λb hb=>by simp at hb;subst hb;exact hgfr) (by simp)
 have s3:=Aa s2 hcv' (λb hb=>hb) hnd' (λb hb=>by
  refine⟨(hff b hb).elim (hfr b) λhb=>w0.hfr b (Nat.le_trans h.bel.size hb),λhA=>?_,λj hj hm=>?_⟩
  ·rcases hA with hA|⟨_,_,_,hA⟩
   ·rcases hff b hb with h6|h6
    ·exact(hAg b hA).2 h6
    ·have:=h.A_lt b hA;omega
   ·exact hA hb
  ·by_cases e:j=i
   ·subst e;simp only[ab,List.mem_singleton]at hm;exact hgf' (hm▸hb)
   ·simp only[az _ _ e]at hm;rcases hff b hb with h6|h6
    ·exact hfm b h6 j hj hm
    ·have:=h.m_lt j hj b (k4 j b hm);omega)
 obtain⟨E3,q1,q2,q3,q4⟩:=s3;obtain⟨r1,r2,r3,r4⟩:=eP (oY cs' s.c) {s.killL (aM acs cs)with ob:=upd (s.killL (aM acs cs)).ob i (kz pv st T (nJ acs cs')),n:=s.n,c:=s.c};obtain⟨v1,v2,v3⟩:=q3.same i hin;simp only[ab]at v1 v2 v3;have hin3:i<(AS.pushL {s.killL (aM acs cs)with ob:=upd (s.killL (aM acs cs)).ob i (kz pv st T (nJ acs cs')),n:=s.n,c:=s.c} (oY cs' s.c)).n:=by rw[r1];simp only;omega
 have hobi:(AS.pushL {s.killL (aM acs cs)with ob:=upd (s.killL (aM acs cs)).ob i (kz pv st T (nJ acs cs')),n:=s.n,c:=s.c} (oY cs' s.c)).ob i=kz pv st T (nJ acs cs'):=by rw[r4 i hin];simp only[ab]
 have hown3:(AS.pushL {s.killL (aM acs cs)with ob:=upd (s.killL (aM acs cs)).ob i (kz pv st T (nJ acs cs')),n:=s.n,c:=s.c} (oY cs' s.c)).own? i st=some (kz pv st T (nJ acs cs')):=by
  unfold AS.own?;rw[if_pos hin3,hobi,fO];simp
 have hst3:st<(AS.pushL {s.killL (aM acs cs)with ob:=upd (s.killL (aM acs cs)).ob i (kz pv st T (nJ acs cs')),n:=s.n,c:=s.c} (oY cs' s.c)).c:=by rw[r2];simp only;omega
 have s4:=q1.change (i:=i) (n':=(AS.pushL {s.killL (aM acs cs)with ob:=upd (s.killL (aM acs cs)).ob i (kz pv st T (nJ acs cs')),n:=s.n,c:=s.c} (oY cs' s.c)).n) (X:=kz pv st T (Cr cs' s.n s.c)) (v':=E3.v i) (m':=E3.m i) (o':=[]) (A':=E3.A)
  (c':=(AS.pushL {s.killL (aM acs cs)with ob:=upd (s.killL (aM acs cs)).ob i (kz pv st T (nJ acs cs')),n:=s.n,c:=s.c} (oY cs' s.c)).c) (w':=w') (Nat.le_refl _) (λj hj _=>hj) hin3
  q1.bel (Nat.le_refl _) (λ_ _ _=>rfl) (Nat.le_refl _) (.inl ⟨hin3,by rw[fO,hobi,fO],rfl⟩) (λ_ hb=>hb) (λ_ hb=>.inl hb)
  (λb hb=>⟨q1.A_lt b hb,q1.A_m b hb i hin3,λj hj _=>q1.A_m b hb j hj⟩) (λb hb=>⟨q1.m_lt i hin3 b hb,λj hj hne=>q1.mm i j hin3 hj (Ne.symm hne) b hb⟩) (by simp) (by
   rintro s' rfl E' rfl hstay
   exact w6 (vals:=vals') hst3 (by simp only[ab];rw[v1,k2];exact e1) (by simp only[ab];exact v2) (by simp only[ab]) hB' (q2.stay hstay) hcu) (q1.mF i hin3) (by simp)
 have hE:(s.aftV i st pv T (aM acs cs) cs')={AS.pushL {s.killL (aM acs cs)with ob:=upd (s.killL (aM acs cs)).ob i (kz pv st T (nJ acs cs')),n:=s.n,c:=s.c} (oY cs' s.c)with ob:=upd (AS.pushL {s.killL (aM acs cs)with ob:=upd (s.killL (aM acs cs)).ob i (kz pv st T (nJ acs cs')),n:=s.n,c:=s.c} (oY cs' s.c)).ob i (kz pv st T (Cr cs' s.n s.c))}:=by
  have key:∀(l:List Ob) (u u':AS),u.sl=u'.sl->u.n=u'.n->u.c=u'.c->(∀j,j≠i->u.ob j=u'.ob j)->i<u.n->(u.pushL l).sl=(u'.pushL l).sl/\(u.pushL l).n=(u'.pushL l).n/\(u.pushL l).c=(u'.pushL l).c/\∀j,j≠i->(u.pushL l).ob j=(u'.pushL l).ob j:=by
   intro l
   induction l with
   |nil=>intro u u' h1 h2 h3 h4 _;exact⟨h1,h2,h3,h4⟩
   |cons y l ih=>
    intro u u' h1 h2 h3 h4 h5;refine ih (u.push y) (u'.push y) h1 (by simp only[AS.push,h2]) (by simp only[AS.push,h3]) (λj hj=>?_) (by simp only[AS.push];omega);simp only[AS.push,h2];by_cases e:j=u'.n
    ·subst e;simp only[ab]
    ·simp only[az _ _ e];exact h4 j hj
  obtain⟨a1,a2,a3,a4⟩:=key (oY cs' s.c) (s.killL (aM acs cs)) {s.killL (aM acs cs)with ob:=upd (s.killL (aM acs cs)).ob i (kz pv st T (nJ acs cs')),n:=s.n,c:=s.c} rfl n1 n2 (λj hj=>by simp only[az _ _ hj]) (by rw[n1];exact hin);unfold AS.aftV
  have hobs:upd ((s.killL (aM acs cs)).pushL (oY cs' s.c)).ob i (kz pv st T (Cr cs' s.n s.c))=upd (AS.pushL {s.killL (aM acs cs)with ob:=upd (s.killL (aM acs cs)).ob i (kz pv st T (nJ acs cs')),n:=s.n,c:=s.c} (oY cs' s.c)).ob i (kz pv st T (Cr cs' s.n s.c)):=by
   funext j;by_cases e:j=i
   ·subst e;simp only[ab]
   ·simp only[az _ _ e];exact a4 j e
  rw[hobs];simp only[AS.mk.injEq];exact⟨a1,trivial,a2,a3⟩
 rw[hE];have hpp:∀(Ee:En) (L:Nat->Option Nat) (c:Nat),Ee.A=E3.A->ba w' Ee L c (wm res) v:=λEe L c he=>BR (λb hb=>by rw[he];exact q3.A b hb) har hv
 exact⟨_,s4.put (x:=wm res) (hpp _ _ _ rfl) (eb hd)⟩
end
end Go.Proofs.Ytngaddcgmnonbaa
namespace Go.Proofs.Ytngaddcgmnonbaa
open Go.RowKit
section
variable {P:Program}{w0:Cx}{w w':World}{N:Nat}{s s':AS}{a:Act}{E:En}{o:Oper}
def xZ(s:AS)(k:Nat)(c:AC)(news:List (List DV)):Prop:=
 ∀w0 N a w E v,aD w0 N s a w E->dM w E s.lv s.c c v->∃(A:Option Addr) (cp:Nat) (us:List Value) (S:Nat->Prop),v=.slice A news.length cp/\Rd w S k A news.length cp us/\aH w E.A us news.flatten/\∀e∈news,e.length=k
theorem Pz{t k:Nat}{es:List (List DV)}:xZ s k (.d (.sl t k es)) es:=by
 intro w0 N a w E v h hc;obtain⟨A,cp,us,e1,e2,e3,e4⟩:=zQ (show aH w E.A [v] [.sl t k es]from hc);exact⟨A,cp,us,_,e1,e2,e3,e4⟩
theorem yz{k:Nat}{c:AC}(h:c=.nil\/c=.emp):xZ s k c []:=by
 intro w0 N a w E v hr hc
 have:∃A,v=.slice A 0 0:=by
  rcases h with rfl|rfl
  ·exact⟨none,hc⟩
  ·exact hc
 obtain⟨A,rfl⟩:=this;exact⟨A,0,[],λ_=>True,rfl,⟨by simp,Nat.le_refl _,Nat.zero_le _,λh=>absurd h (by simp)⟩,.nil,by simp⟩
theorem rF(h:aD w0 N s a w E){i st t k:Nat}{es:List (List DV)}{dp:Bool}(hi:s.own? i st=some (.row st t k es dp)):∃cells,w.ownsRow 0 t k (E.v i) es.length cells/\0<k/\(∀e∈es,e.length=k)/\aH w E.A cells es.flatten:=by
 obtain⟨hin,hob,hlv⟩:=af hi;have hO:=h.obj i hin;rw[hob]at hO;obtain⟨cells,hst,h1,h2,h3,h4,h5⟩:=hO;refine⟨cells,h1,h2,h3,?_⟩
 cases dp with
 |true=>simp only[if_pos]at h5;exact h5.rep.mono λb hb=>h.A_o i hin b hb
 |false=>simp only[Bool.false_eq_true,if_false]at h5;exact h5.2
theorem HV{i st t k:Nat}{es:List (List DV)}{dp:Bool}(hi:s.own? i st=some (.row st t k es dp)):xZ s k (.own i st) es:=by
 intro w0 N a w E v h hc;obtain⟨cells,h1,h2,h3,h4⟩:=rF h hi;obtain rfl:v=E.v i:=hc.2 (af hi).2.2;obtain⟨A,cp,e1,_,_⟩:=bu h1;rw[e1]at h1;exact⟨A,cp,cells,λ_=>True,e1,(Rd.of_own h1).mono λ_ _=>trivial,h4,h3⟩
theorem Hz{i st t k:Nat}{es:List (List DV)}(hi:s.own? i st=some (.frz st (.sl t k es))):xZ s k (.own i st) es:=by
 intro w0 N a w E v h hc;obtain⟨hin,hob,hlv⟩:=af hi;obtain rfl:v=E.v i:=hc.2 hlv;obtain⟨A,cp,us,e1,e2,e3,e4⟩:=zQ ((tp h hin hob).mono λ_ h=>h);exact⟨A,cp,us,_,e1,e2,e3,e4⟩
theorem Ia{i st t k lo n:Nat}{es:List (List DV)}{dp:Bool}(hi:s.own? i st=some (.row st t k es dp)):xZ s k (.sub i st k lo n) ((es.drop lo).take n):=by
 intro w0 N a w E v h hc;obtain⟨cells,h1,h2,h3,h4⟩:=rF h hi;obtain⟨A,M,cp,B,e2,e3,e4,e5,e6⟩:=hc.2 (af hi).2.2;obtain⟨A',cp',e7,h8,h9⟩:=bu h1;rw[e2]at e7;injection e7 with e7 e8 e9;subst e7 e8 e9;rw[e2]at h1;have hrd:=Rd.of_own h1;have hl:((es.drop lo).take n).length=n:=by rw[List.length_take,List.length_drop];omega
 have hf:((es.drop lo).take n).flatten=(es.flatten.drop (lo*k)).take (n*k):=ln h3;refine⟨B,cp-lo,(cells.drop (lo*k)).take (n*k),λ_=>True,by rw[hl];exact e4,?_,by rw[hf];exact(h4.drop _).take _,λe he=>h3 e (List.mem_of_mem_drop (List.mem_of_mem_take he))⟩;rw[hl];refine⟨by rw[List.length_take,List.length_drop,hrd.1,Nat.min_eq_left];rw[<-Nat.sub_mul];exact Nat.mul_le_mul_right _ (by omega),by omega,by omega,λhn=>?_⟩;obtain⟨g,cap',hv,hb,hlt⟩:=h1.form (by omega);injection hv with e7 e8 e9;subst e7;have hadd:∀(b off j:Nat),(⟨b,off,none⟩:Addr).add j=⟨b,off+j,none⟩:=by intro b off j;unfold Addr.add;split<;>simp_all
 refine⟨⟨g,0+lo*k,none⟩,by rw[e6 hn];simp only[Option.map_some,hadd],trivial,λj u hu=>?_⟩;rw[List.getElem?_take]at hu;split at hu
 ·rw[List.getElem?_drop]at hu;have:=h1.cells (g:=g) rfl _ _ hu;rw[hadd]at this ⊢;rw[Nat.add_assoc];exact this
 ·cases hu
def AS.shal(s:AS)(i st t k:Nat)(es:List (List DV)):AS:={s with ob:=upd s.ob i (.row st t k es false)}
theorem J1{i st t k:Nat}{es:List (List DV)}{dp:Bool}(hi:s.own? i st=some (.row st t k es dp)):(s.shal i st t k es).own? i st=some (.row st t k es false):=by
 obtain⟨hin,hob,hlv⟩:=af hi;unfold AS.own? AS.shal;simp[hin,ab,Ob.st]
theorem K5(h:aD w0 N s a w E){i st t k:Nat}{es:List (List DV)}{dp:Bool}(hi:s.own? i st=some (.row st t k es dp)):∃E',aD w0 N (s.shal i st t k es) a w E'/\E'.v i=E.v i:=by
 obtain⟨cells,q1,q2,q3,q4⟩:=rF h hi;obtain⟨hin,hob,hlv⟩:=af hi;have hO:=h.obj i hin;rw[hob]at hO;obtain⟨_,hst,_,_,_,h4,_⟩:=hO
 refine⟨_,h.change (i:=i) (n':=s.n) (X:=.row st t k es false) (v':=E.v i) (m':=E.m i) (o':=[]) (A':=E.A) (c':=s.c) (w':=w) (Nat.le_refl _) (λj hj _=>hj) hin
  h.bel (Nat.le_refl _) (λ_ _ _=>rfl) (Nat.le_refl _) (.inl ⟨hin,by rw[hob];rfl,rfl⟩) (λ_ hb=>hb) (λ_ hb=>.inl hb)
  (λb hb=>⟨h.A_lt b hb,h.A_m b hb i hin,λj hj _=>h.A_m b hb j hj⟩)
  (λb hb=>⟨h.m_lt i hin b hb,λj hj hne=>h.mm i j hin hj (Ne.symm hne) b hb⟩) (by simp) (by
   rintro s'' rfl E' rfl hstay;refine⟨cells,hst,by simp only[ab];exact q1,q2,q3,by simp only[ab];exact h4,?_⟩;simp only[Bool.false_eq_true,if_false,ab]
   exact⟨trivial,q4⟩) (h.mF i hin) (by simp),by simp only[ab]⟩
def AS.cutS(s:AS)(i t k n:Nat)(es:List (List DV)):AS:={s with ob:=upd s.ob i (.row s.c t k (es.take n) false),c:=s.c+1}
theorem Im{i t k n:Nat}{es:List (List DV)}(hi:i<s.n):(s.cutS i t k n es).own? i s.c=some (.row s.c t k (es.take n) false):=by
 unfold AS.own? AS.cutS;simp[hi,ab,Ob.st]
theorem Eg(h:aD w0 N s a w E){i st t k n N0 cp:Nat}{A:Option Addr}{es:List (List DV)}{dp:Bool}(hi:s.own? i st=some (.row st t k es dp))(hE:E.v i=.slice A N0 cp)(hn:n<=es.length):
 ∃E',aD w0 N (s.cutS i t k n es) a w E'/\E'.v i=.slice A n cp/\∀j,j≠i->E'.v j=E.v j:=by
 obtain⟨cells,q1,q2,q3,q4⟩:=rF h hi;obtain⟨hin,hob,hlv⟩:=af hi;have hO:=h.obj i hin;rw[hob]at hO;obtain⟨_,hst,_,_,_,h4,_⟩:=hO;obtain⟨A',c',e6,_,_⟩:=bu q1;rw[hE]at e6;injection e6 with g1 g2 g3;subst g2 g3;rw[hE]at q1;have h1':=Ab q1 hn
 have hft:(es.take n).flatten=es.flatten.take (n*k):=by
  have:=ln (l:=0) (m:=n) q3;simpa using this
 refine⟨_,h.change (i:=i) (n':=s.n) (X:=.row s.c t k (es.take n) false) (v':=.slice A n cp) (m':=E.m i) (o':=[]) (A':=E.A) (c':=s.c+1) (w':=w) (Nat.le_refl _) (λj hj _=>hj) hin
  h.bel (Nat.le_refl _) (λ_ _ _=>rfl) (by omega) (.inr λst he=>by simp only[Ob.st]at he;injection he with he;omega) (λ_ hb=>hb) (λ_ hb=>.inl hb)
  (λb hb=>⟨h.A_lt b hb,h.A_m b hb i hin,λj hj _=>h.A_m b hb j hj⟩)
  (λb hb=>⟨h.m_lt i hin b hb,λj hj hne=>h.mm i j hin hj (Ne.symm hne) b hb⟩) (by simp) (by
   rintro s'' rfl E' rfl hstay;refine⟨cells.take (n*k),by omega,?_,q2,λe he=>q3 e (List.mem_of_mem_take he),?_,?_⟩
   ·simp only[ab,List.length_take,Nat.min_eq_left hn];exact h1'
   ·simp only[ab];rw[h4,hE];cases A<;>rfl
   ·simp only[Bool.false_eq_true,if_false,ab]
    rw[hft];exact⟨trivial,q4.take _⟩) (h.mF i hin) (by simp),by simp only[ab],λj hj=>by simp only[az _ _ hj]⟩
theorem yx(h:aD w0 N s a w E){el k:Nat}(hk:0<k):∃E',aD w0 N (s.push (.row s.c el k [] false)) a w E'/\E'.v s.n=.slice none 0 0:=by
 refine⟨_,h.pushOb (X:=.row s.c el k [] false) (v':=.slice none 0 0) (m':=[]) (o':=[]) (w':=w) rfl (Below.refl _ _) (by simp) (by simp) (by simp) (by
  rintro E' rfl hstay;refine⟨[],by omega,by simp only[ab];exact World.ownsRow_nil _ _ _ _,hk,by simp,by simp only[ab];rfl,?_⟩
  simp only[Bool.false_eq_true,if_false,ab];exact⟨trivial,.nil⟩),by simp only[ab]⟩
theorem Me{s':AS}{X Y:Operand}{t el:TypeId}{k i st by_:Nat}{es news:List (List DV)}{zs:List Value}{c:AC}
 (ho:o.op=.call ⟨.builtin .append,#[X,Y],#[t,t]⟩) (hd:∀q,o.dst=some q->q<N) (ht:fh P t=some (el,k)) (hz:ci P el=some zs) (hzl:zs.length=k) (hby:Cs P el=some by_)
 (hT:∀w0 N a w E,aD w0 N s a w E->∃E',aD w0 N s' a w E'/\a.eval X=E'.v i) (hY:s'.ev Y=.p false [c]) (hsrc:xZ s' k c news) (hi':s'.own? i st=some (.row st el k es false))
 (h63:es.length+news.length<=maxLen) (hbytes:(es.length+news.length)*by_<=140737488355328):
 dd P N o s ({s' with ob:=upd s'.ob i (.row s'.c el k (es++news) false),c:=s'.c+1}.put o.dst (.p false [.own i s'.c])):=by
 intro w0 a w E0 h0;obtain⟨E,h,hX⟩:=hT w0 N a w E0 h0;have e2:=aJ h Y;rw[hY]at e2;obtain⟨A,cp,us,S,eY,hrd,hrep,hun⟩:=hsrc w0 N a w E _ h (aA e2);obtain⟨cells,h1,h2,h3,h5⟩:=rF h hi';obtain⟨hin,hob,hlv⟩:=af hi';have hO:=h.obj i hin;rw[hob]at hO;obtain⟨_,hst,_,_,_,h4,_⟩:=hO;obtain⟨hu,hsz⟩:=mv ht;unfold ci at hz;unfold lw at hsz;unfold Cs at hby
 cases hi:P.info? el with
 |none=>simp[hi]at hsz
 |some ie=>
  simp[hi]at hsz hby
  cases hzz:ie.zero with
  |none=>simp[hi,hzz]at hz
  |some z=>
   simp[hi,hzz]at hz;have hzc:z.cells.size=k:=by rw[<-hzl,<-hz];simp
   unfold Oper.wp;obtain⟨v',w',bS,hown,hgr,hblk⟩:=iP (P:=P) w 0 t o.type el ie z k by_ hu hi hzz hsz hby hzc h2 (E.v i) es.length cells h1 S A news.length cp us hrd hrep.one h63 hbytes (Nat.zero_le _)
   have hrun':(execOp a.eval o).run P w=.ok (.value v') w':=by
    simp only[execOp,ho,resolve,invoke,builtin,Sem.run_bind,Sem.run_pure,Result.andThen_ok,List.map_toArray,List.map_cons,List.map_nil,hX,eY,bS]
   rw[hrun',Oper.upon_value];have hmge:∀b,(E.v i).ownBlock=some b->w0.fr b:=λb hb=>h.mF i hin b (by rw[h4,hb];simp)
   have hbel:C9 w0 w':=⟨hgr.os.trans h.bel.os,hgr.tape.trans h.bel.tape,hgr.output.trans h.bel.output,Nat.le_trans h.bel.size hgr.size,λb hb=>(hgr.block b (Nat.lt_of_lt_of_le (Cx.lt hb) h.bel.size) (λe=>hb (hmge b e.symm))).trans (h.bel.block b hb)⟩
   have hm':∀b∈v'.ownBlock.toList,b∈E.m i\/b=w.heap.size:=by
    intro b hb;rcases hblk with e|e
    ·left;rw[h4,<-e];exact hb
    ·right;rw[e]at hb;simpa using hb
   have hAm:∀b,E.A b->b∉v'.ownBlock.toList:=by
    intro b hbA hbm;rcases hm' b hbm with h6|h6
    ·exact h.A_m b hbA i hin h6
    ·have:=h.A_lt b hbA;omega
   have hsame:∀b,E.A b->w'.heap[b]? =w.heap[b]?:=λb hb=>hgr.block b (h.A_lt b hb) (λe=>h.A_m b hb i hin (by rw[h4,<-e];simp))
   have hch:=h.change (i:=i) (n':=s'.n) (X:=.row s'.c el k (es++news) false) (v':=v') (m':=v'.ownBlock.toList) (o':=[]) (A':=E.A) (c':=s'.c+1) (w':=w') (Nat.le_refl _) (λj hj _=>hj) hin
    hbel hgr.size (λq hq hm=>hgr.block q hq (λe=>hm hin (by rw[h4,<-e];simp))) (by omega) (.inr λst he=>by simp only[Ob.st]at he;injection he with he;omega) (λ_ hb=>hb) (λ_ hb=>.inl hb)
    (λb hb=>⟨Nat.lt_of_lt_of_le (h.A_lt b hb) hgr.size,hAm b hb,λj hj _=>h.A_m b hb j hj⟩)
    (λb hb=>⟨(me hown (by simpa using hb)).2,λj hj hne hbj=>by
     rcases hm' b hb with h6|h6
     ·exact h.mm i j hin hj (Ne.symm hne) b h6 hbj
     ·have:=h.m_lt j hj b hbj;omega⟩) (by simp) (by
     rintro s'' rfl E' rfl hstay;refine⟨_,by omega,by simp only[ab,List.length_append];exact hown,h2,?_,by simp only[ab],?_⟩
     ·intro e he;rcases List.mem_append.1 he with he|he
      ·exact h3 e he
      ·exact hun e he
     ·simp only[Bool.false_eq_true,if_false,ab,List.flatten_append];exact⟨trivial,(h5.app hrep).keep λb hb=>hsame b hb⟩) (λb hb=>by
     rcases hm' b hb with h6|h6
     ·exact h.mF i hin b h6
     ·exact w0.hfr b (by rw[h6];exact h.bel.size)) (by simp)
   refine⟨_,hch.put (x:=.p false [.own i s'.c]) ?_ hd⟩;exact aI ⟨by simp,λ_=>by simp only[ab]⟩
def AS.nilV(s:AS)(i st el k j:Nat)(pv:Bool)(T:TypeId)(acs:List AC):AS:={s.push (.row s.c el k [] false)with ob:=upd (s.push (.row s.c el k [] false)).ob i (kz pv st T (acs.set j (.own s.n s.c)))}
theorem L9(h:aD w0 N s a w E){i st el k j:Nat}{pv:Bool}{T:TypeId}{acs:List AC}(hk:0<k)(hi:s.own? i st=some (kz pv st T acs))(hj:acs[j]? =some .nil):∃E',aD w0 N (s.nilV i st el k j pv T acs) a w E':=by
 obtain⟨E1,h1,hv⟩:=yx (el:=el) h hk;obtain⟨hin,hob,hlv⟩:=af hi;have hin':i<(s.push (.row s.c el k [] false)).n:=by simp only[AS.push];omega
 have hob':(s.push (.row s.c el k [] false)).ob i=kz pv st T acs:=by simp only[AS.push];rw[az _ _ (by omega)];exact hob
 have hO:=h1.obj i hin';rw[hob']at hO;obtain⟨g,vals,q0,q1,q2,q3,q4,q5,q6⟩:=rV hO
 refine⟨_,h1.change (i:=i) (n':=(s.push (.row s.c el k [] false)).n) (X:=kz pv st T (acs.set j (.own s.n s.c))) (v':=E1.v i) (m':=E1.m i) (o':=[]) (A':=E1.A) (c':=(s.push (.row s.c el k [] false)).c) (w':=w) (Nat.le_refl _) (λj hj _=>hj) hin'
  h1.bel (Nat.le_refl _) (λ_ _ _=>rfl) (Nat.le_refl _) (.inl ⟨hin',by rw[hob',fO,fO],rfl⟩) (λ_ hb=>hb) (λ_ hb=>.inl hb)
  (λb hb=>⟨h1.A_lt b hb,h1.A_m b hb i hin',λj hj _=>h1.A_m b hb j hj⟩)
  (λb hb=>⟨h1.m_lt i hin' b hb,λj hj hne=>h1.mm i j hin' hj (Ne.symm hne) b hb⟩) (by simp) (by
   rintro s'' rfl E' rfl hstay;refine w6 (vals:=vals) q0 (by simp only[ab];exact q1) (by simp only[ab];exact q2) (by simp only[ab]) q4 ?_ q6;have q5':=q5.stay hstay;refine⟨by simpa using q5'.1,λp x u hp hu=>?_⟩;rw[List.getElem?_set]at hp;split at hp
   ·rename_i e;subst e;split at hp
    ·injection hp with hp;subst hp;have:=q5'.2 _ _ _ hj hu;obtain rfl:u=.slice none 0 0:=this;exact⟨by simp[AS.push],λ_=>by show _=upd E1.v i (E1.v i) s.n;rw[az _ _ (by omega)];exact hv.symm⟩
    ·cases hp
   ·exact q5'.2 _ _ _ hp hu) (h1.mF i hin') (by simp)⟩
def AS.cutC(s:AS)(i st j:Nat)(pv:Bool)(T:TypeId)(acs:List AC)(r t k n:Nat)(es:List (List DV)):AS:={s.cutS r t k n es with ob:=upd (s.cutS r t k n es).ob i (kz pv st T (acs.set j (.own r s.c)))}
theorem LY(h:aD w0 N s a w E){i st j r sr t k n:Nat}{pv:Bool}{T:TypeId}{acs:List AC}{es:List (List DV)}{dp:Bool}(hi:s.own? i st=some (kz pv st T acs))(hj:acs[j]? =some (.sub r sr k 0 n))(hr:s.own? r sr=some (.row sr t k es dp))(hn:n<=es.length):
 ∃E',aD w0 N (s.cutC i st j pv T acs r t k n es) a w E':=by
 obtain⟨hin,hob,hlv⟩:=af hi;obtain⟨rin,rob,rlv⟩:=af hr;have hne:i≠r:=λe=>by subst e;rw[hob]at rob;cases pv<;>cases rob
 have h0:=h.obj i hin;rw[hob]at h0;obtain⟨g,vals,q0,q1,q2,q3,q4,q5,q6⟩:=rV h0;have hjl:j<vals.length:=by rw[<-q5.1];exact(List.getElem?_eq_some_iff.1 hj).1
 have hu:=q5.2 j _ _ hj (List.getElem?_eq_getElem hjl);obtain⟨A,M,cp,B,e2,e3,e4,e5,e6⟩:=hu.2 rlv;obtain rfl:=e5 rfl;obtain⟨E1,h1,hv,hvo⟩:=Eg h hr e2 hn;have hin':i<(s.cutS r t k n es).n:=hin;have hob':(s.cutS r t k n es).ob i=kz pv st T acs:=by simp only[AS.cutS];rw[az _ _ hne];exact hob
 have hO:=h1.obj i hin';rw[hob']at hO;obtain⟨g',vals',p0,p1,p2,p3,p4,p5,p6⟩:=rV hO;have hg:g'=g:=by rw[hvo i hne,q1]at p1;injection p1 with p1;injection p1 with p1;injection p1 with p1;exact p1.symm
 subst hg
 have hvals:vals'=vals:=by
  have h4:(some (Obj.cells vals'.toArray T):Option Obj)=some (Obj.cells vals.toArray T):=p4.symm.trans q4;simpa using h4
 subst hvals
 refine⟨_,h1.change (i:=i) (n':=(s.cutS r t k n es).n) (X:=kz pv st T (acs.set j (.own r s.c))) (v':=E1.v i) (m':=E1.m i) (o':=[]) (A':=E1.A) (c':=(s.cutS r t k n es).c) (w':=w) (Nat.le_refl _) (λj hj _=>hj) hin'
  h1.bel (Nat.le_refl _) (λ_ _ _=>rfl) (Nat.le_refl _) (.inl ⟨hin',by rw[hob',fO,fO],rfl⟩) (λ_ hb=>hb) (λ_ hb=>.inl hb)
  (λb hb=>⟨h1.A_lt b hb,h1.A_m b hb i hin',λj hj _=>h1.A_m b hb j hj⟩)
  (λb hb=>⟨h1.m_lt i hin' b hb,λj hj hne=>h1.mm i j hin' hj (Ne.symm hne) b hb⟩) (by simp) (by
   rintro s'' rfl E' rfl hstay;refine w6 (vals:=vals') p0 (by simp only[ab];exact p1) (by simp only[ab];exact p2) (by simp only[ab]) p4 ?_ p6;have q5':=p5.stay hstay;refine⟨by simpa using q5'.1,λp x u hp hu=>?_⟩;rw[List.getElem?_set]at hp;split at hp
   ·rename_i e;subst e;split at hp
    ·injection hp with hp;subst hp;refine⟨by simp[AS.cutS],λ_=>?_⟩;show u=upd E1.v i (E1.v i) r;rw[az _ _ (Ne.symm hne),hv];rw[List.getElem?_eq_getElem hjl]at hu;injection hu with hu;rw[<-hu,e4];rfl
    ·cases hp
   ·exact q5'.2 _ _ _ hp hu) (h1.mF i hin') (by simp)⟩
def AS.nilD(s:AS)(i st el k j:Nat)(pv:Bool)(T:TypeId)(acs:List AC):AS:={s with ob:=upd s.ob i (kz pv st T (acs.set j (.d (.sl el k []))))}
theorem LG(h:aD w0 N s a w E){i st el k j:Nat}{pv:Bool}{T:TypeId}{acs:List AC}(hk:0<k)(hi:s.own? i st=some (kz pv st T acs))(hj:acs[j]? =some .nil):∃E',aD w0 N (s.nilD i st el k j pv T acs) a w E':=by
 obtain⟨hin,hob,hlv⟩:=af hi;have hO:=h.obj i hin;rw[hob]at hO;obtain⟨g,vals,q0,q1,q2,q3,q4,q5,q6⟩:=rV hO
 refine⟨_,h.change (i:=i) (n':=s.n) (X:=kz pv st T (acs.set j (.d (.sl el k [])))) (v':=E.v i) (m':=E.m i) (o':=[]) (A':=E.A) (c':=s.c) (w':=w) (Nat.le_refl _) (λj hj _=>hj) hin
  h.bel (Nat.le_refl _) (λ_ _ _=>rfl) (Nat.le_refl _) (.inl ⟨hin,by rw[hob,fO,fO],rfl⟩) (λ_ hb=>hb) (λ_ hb=>.inl hb)
  (λb hb=>⟨h.A_lt b hb,h.A_m b hb i hin,λj hj _=>h.A_m b hb j hj⟩)
  (λb hb=>⟨h.m_lt i hin b hb,λj hj hne=>h.mm i j hin hj (Ne.symm hne) b hb⟩) (by simp) (by
   rintro s'' rfl E' rfl hstay;refine w6 (vals:=vals) q0 (by simp only[ab];exact q1) (by simp only[ab];exact q2) (by simp only[ab]) q4 ?_ q6;have q5':=q5.stay hstay;refine⟨by simpa using q5'.1,λp x u hp hu=>?_⟩;rw[List.getElem?_set]at hp;split at hp
   ·rename_i e;subst e;split at hp
    ·injection hp with hp;subst hp;have:=q5'.2 _ _ _ hj hu;obtain rfl:u=.slice none 0 0:=this;have h0:=bi.sl (w:=w) (base:=0) (v:=.slice none 0 0) (t:=el) (k:=k) (es:=[]) (cells:=[]) (g:=[]) (vs:=[]) (ds:=[]) (f:=[]) (World.ownsRow_nil _ _ _ _) hk (by simp) .nil .nil (by simp[Value.ownBlock]);exact h0.rep.mono λb hb=>by simp[Value.ownBlock]at hb
    ·cases hp
   ·exact q5'.2 _ _ _ hp hu) (h.mF i hin) (by simp)⟩
theorem Kw{X Y:Operand}{t el:TypeId}{k by_:Nat}{zs:List Value}{c:AC}
 (ho:o.op=.call ⟨.builtin .append,#[X,Y],#[t,t]⟩) (hd:∀q,o.dst=some q->q<N) (ht:fh P t=some (el,k)) (hz:ci P el=some zs) (hzl:zs.length=k)
 (hX:s.ev X=.p false [.emp]) (hY:s.ev Y=.p false [c]) (hsrc:xZ s k c []):dd P N o s (s.put o.dst (.p false [.emp])):=by
 intro w0 a w E h;have e1:=aJ h X;have e2:=aJ h Y;rw[hX]at e1;rw[hY]at e2;obtain⟨A,cp,us,S,eY,hrd,hrep,hun⟩:=hsrc w0 N a w E _ h (aA e2);obtain⟨A0,eX⟩:=aA e1;obtain⟨hu,hsz⟩:=mv ht;unfold ci at hz;unfold lw at hsz
 cases hi:P.info? el with
 |none=>simp[hi]at hsz
 |some ie=>
  simp[hi]at hsz;unfold Oper.wp;have bS:=ms (P:=P) (w:=w) t o.type el ie k hu hi hsz A0 A cp
  have hrun':(execOp a.eval o).run P w=.ok (.value (.slice A0 0 0)) w:=by
   simp only[execOp,ho,resolve,invoke,builtin,Sem.run_bind,Sem.run_pure,Result.andThen_ok,List.map_toArray,List.map_cons,List.map_nil,eX,eY,List.length_nil,bS]
  rw[hrun',Oper.upon_value];exact⟨_,h.put (x:=.p false [.emp]) (aI ⟨A0,rfl⟩) hd⟩
theorem LC{X Y:Operand}{t el:TypeId}{k by_:Nat}{news:List (List DV)}{zs:List Value}{c:AC}
 (ho:o.op=.call ⟨.builtin .append,#[X,Y],#[t,t]⟩) (hd:∀q,o.dst=some q->q<N) (ht:fh P t=some (el,k)) (hz:ci P el=some zs) (hzl:zs.length=k) (hk:0<k) (hby:Cs P el=some by_)
 (hX:s.ev X=.p false [.emp]) (hY:s.ev Y=.p false [c]) (hsrc:xZ s k c news) (hne:0<news.length)
 (h63:news.length<=maxLen) (hbytes:news.length*by_<=140737488355328):
 dd P N o s ((s.push (.row s.c el k news false)).put o.dst (.p false [.own s.n s.c])):=by
 intro w0 a w E h;have e1:=aJ h X;have e2:=aJ h Y;rw[hX]at e1;rw[hY]at e2;obtain⟨A,cp,us,S,eY,hrd,hrep,hun⟩:=hsrc w0 N a w E _ h (aA e2);obtain⟨A0,eX⟩:=aA e1;obtain⟨hu,hsz⟩:=mv ht;unfold ci at hz;unfold lw at hsz;unfold Cs at hby
 cases hi:P.info? el with
 |none=>simp[hi]at hsz
 |some ie=>
  simp[hi]at hsz hby
  cases hzz:ie.zero with
  |none=>simp[hi,hzz]at hz
  |some z=>
   simp[hi,hzz]at hz;have hzc:z.cells.size=k:=by rw[<-hzl,<-hz];simp
   unfold Oper.wp;obtain⟨v',w',bS,hown,hb⟩:=nW (P:=P) (w:=w) t o.type el ie z k by_ hu hi hzz hsz hby hzc hk A0 S A news.length cp us hrd hrep.one h63 hbytes hne
   have hrun':(execOp a.eval o).run P w=.ok (.value v') w':=by
    simp only[execOp,ho,resolve,invoke,builtin,Sem.run_bind,Sem.run_pure,Result.andThen_ok,List.map_toArray,List.map_cons,List.map_nil,eX,eY,bS]
   rw[hrun',Oper.upon_value];have h0:=h.world hb (A':=E.A) (λ_ h=>h) (λb hb=>.inl hb);have hm:∀b∈v'.ownBlock.toList,w.heap.size<=b/\b<w'.heap.size:=λb hbm=>me hown (by simpa using hbm)
   have h1:=h0.pushOb (X:=.row s.c el k news false) (v':=v') (m':=v'.ownBlock.toList) (o':=[]) (w':=w') rfl (Below.refl _ _) (λb hbm=>
    ⟨(hm b hbm).2,λhA=>by have:=h.A_lt b hA;have:=hm b hbm;omega,λj hj hmj=>by have:=h.m_lt j hj b hmj;have:=hm b hbm;omega⟩) (by simp) (by simp) (by
    rintro E' rfl hstay;refine⟨us,by omega,by simp only[ab];exact rO hown (Nat.zero_le _),hk,hun,by simp only[ab],?_⟩;simp only[Bool.false_eq_true,if_false,ab]
    exact⟨trivial,(hrep.keep λb hbA=>hb.block b (h.A_lt b hbA)).mono λb hb=>.inl hb⟩) (λb hbm=>w0.hfr b (Nat.le_trans h.bel.size (hm b hbm).1))
   exact⟨_,h1.put (x:=.p false [.own s.n s.c]) (aI ⟨by simp[AS.push],λ_=>by simp only[ab]⟩) hd⟩
end
end Go.Proofs.Ytngaddcgmnonbaa
namespace Go.Proofs.Ytngaddcgmnonbaa
open Go.RowKit
def ky(t:TypeId)(x:DV)(cs:List DV):DV:=.sl t 0 [[x],cs]
theorem aH.flat{w w':World}{A B:Nat->Prop}{vs:List Value}{ds:List DV}(h:aH w A vs ds)(hf:jl ds):aH w' B vs ds:=by
 induction h with
 |nil=>exact .nil
 |sc h1 _ ih=>exact .sc h1 (ih λd hd=>hf d (List.mem_cons_of_mem _ hd))
 |sl0=>obtain⟨v,hv⟩:=hf _ (List.mem_cons_self ..);cases hv
 |sl=>obtain⟨v,hv⟩:=hf _ (List.mem_cons_self ..);cases hv
theorem Bz.mono{w:World}{A B:Nat->Prop}{g:Nat}{u:Value}{t:TypeId}{x:DV}{cs:List DV}(h:Bz w A g u t x cs)(hA:∀b,A b->B b):Bz w B g u t x cs:=by
 obtain⟨vals,h1,h2,h3,h4⟩:=h;exact⟨vals,h1,h2.mono hA,h3.mono hA,h4⟩
def RN(w:World)(B:Nat->Prop)(g:Nat)(u:Value)(t:TypeId)(x:DV)(res:List Rs)(cs':List DV)(e:Ending)(w':World):Prop:=
 ∃v,e=.returned v/\BW w w' [g]/\(∃(us:List Value) (fs:List (List Nat)),(if res.length=1 then us=[v]else v=.tuple us.toArray)/\ca w' w.heap.size (λ_=>False) us res fs/\fs.flatten.Nodup)/\Bz w' B g u t x cs'
def cr(P:Program)(f:FuncId)(t:TypeId)(x:DV)(cs:List DV)(args:List (Bool×List DV))(res:List Rs)(cs':List DV):Prop:=
 bf P f=true/\(∀r∈res,r.2.2=true)/\∀(w:World) (B:Nat->Prop) (g:Nat) (u:Value) (vs:List Value),(∀b,B b->b<w.heap.size/\b≠g)->g<w.heap.size->Bz w B g u t x cs->cL w B vs args->
  Calls P f (.pointer (some ⟨g,0,none⟩)::vs).toArray w (RN w B g u t x res cs')
def nj(P:Program)(f:FuncId)(args:List (Bool×List DV))(t:TypeId)(x:DV)(cs':List DV):Prop:=
 bf P f=true/\∀(w:World) (B:Nat->Prop) (vs:List Value),(∀b,B b->b<w.heap.size)->cL w B vs args->
  Calls P f vs.toArray w λe w'=>∃g u,e=.returned (.pointer (some ⟨g,0,none⟩))/\w.heap.size<=g/\g<w'.heap.size/\Below w.heap.size w w'/\Bz w' (λb=>B b\/(w.heap.size<=b/\b<w'.heap.size/\b≠g)) g u t x cs'
def yZ(t:TypeId)(x:DV)(cs:List DV)(rest:List (Bool×List DV)):AS:=((bM ((true,[])::rest)).push (.cur 0 true t x cs)).put (some 0) (.p false [.own 0 0])
def oW(P:Program)(s0:AS)(K:AS->Prop):List ResultVar->List Rs->AS->Prop
 |[],[],s=>K s
 |rv::rvs,(b,ds,dp)::rs,s=>dp=true/\ML (λcs=>∃s',gH s s' cs ds/\oW P s0 K rvs rs s') b (Cq P s0 rv)
 |_,_,_=>False
def KF(t:TypeId)(cs':List DV)(s:AS):Prop:=∃i st x,s.own? i st=some (.cur st true t x cs')
def M2(P:Program)(rvs:List ResultVar)(rs:List Rs)(t:TypeId)(cs':List DV):Exit->AS->Prop
 |.normal,s=>oW P s (KF t cs') rvs rs s
 |.ret,s=>oW P s (KF t cs') rvs rs s
 |_,_=>False
section
variable {P:Program}{w0:Cx}{w w':World}{N:Nat}{s:AS}{a:Act}{E:En}{o:Oper}
theorem BC{s0:AS}{E0:En}{K:AS->Prop}(h0:aD w0 N s0 a w E0):∀{rvs:List ResultVar} {rs:List Rs} {s:AS} {E:En},oW P s0 K rvs rs s->aD w0 N s a w E->gZ w E0 s0.lv s0.c w E s.lv s.c->
 ∃(vs:List Value) (fs:List (List Nat)) (s':AS) (E':En),lP P w a.tmps rvs vs/\vs.length=rs.length/\fs.length=rs.length/\fs.flatten.Nodup/\(∀b∈fs.flatten,∃j,j<s.n/\(b∈E.m j\/b∈E.o j))/\
  (∀(j:Nat) u r f,vs[j]? =some u->rs[j]? =some r->fs[j]? =some f->r.2.2=true/\∃vals:List Value,(if r.1 then u=.agg vals.toArray else vals=[u])/\bi w 0 vals r.2.1 f)/\
  K s'/\aD w0 N s' a w E'/\(∀b∈fs.flatten,E'.A b)/\∀b,E.A b->E'.A b
 |[],[],s,E,hk,h,_=>⟨[],[],s,E,trivial,rfl,rfl,List.nodup_nil,by simp,λj u r f h1=>by simp at h1,hk,h,by simp,λ_ h=>h⟩
 |rv::rvs,(b,ds,dp)::rs,s,E,hd,h,hst=>by
  obtain⟨hdp,hd⟩:=hd;obtain⟨cs,hcs,s',hg,hd⟩:=wr hd;obtain⟨v,hv1,hv2⟩:=Cj h0 hcs;obtain⟨vals,hp,hcell⟩:=iA (show cW w E0 s0.lv s0.c b cs v from hv2);obtain⟨g1,g2,g3,g4,g5⟩:=hg;obtain⟨E',f,hgp⟩:=g5 w0 N a w E vals h (hcell.stay hst)
  have hst':gZ w E0 s0.lv s0.c w E' s'.lv s'.c:=by
   refine⟨λb hb=>⟨hgp.A' b (hst.A b hb).1,rfl⟩,λi st hlt hl=>?_,by rw[g2];exact hst.c⟩;obtain⟨k1,k2⟩:=hst.L i st hlt (g4 i st hl);exact⟨k1,by rw[hgp.v];exact k2⟩
  obtain⟨vs,fs,s2,E2,r1,r2,r3,r4,r5,r6,r7,r8,r9,r10⟩:=BC h0 hd hgp.rep hst';refine⟨v::vs,f::fs,s2,E2,⟨hv1,r1⟩,by simp[r2],by simp[r3],?_,?_,?_,r7,r8,?_,λb hb=>r10 b (hgp.A' b hb)⟩
  ·rw[List.flatten_cons];refine List.nodup_append.2 ⟨hgp.own.nodup,r4,λx hx y hy e=>?_⟩;subst e;obtain⟨j,hj,hbj⟩:=r5 x hy;rcases hbj with hbj|hbj
   ·exact hgp.rep.A_m x (hgp.A x hx) j hj hbj
   ·exact hgp.o x hx j hj hbj
  ·intro x hx;rw[List.flatten_cons]at hx;rcases List.mem_append.1 hx with hx|hx
   ·exact hgp.from_ x hx
   ·obtain⟨j,hj,hbj⟩:=r5 x hx;exact⟨j,by rw[g1]at hj;exact hj,hbj.imp (hgp.m' j x) (hgp.o' j x)⟩
  ·intro j u r f' k1 k2 k3
   cases j with
   |zero=>simp at k1 k2 k3;subst k1 k2 k3;exact⟨hdp,vals,hp,hgp.own⟩
   |succ j=>exact r6 j u r f' (by simpa using k1) (by simpa using k2) (by simpa using k3)
  ·intro x hx;rw[List.flatten_cons]at hx;rcases List.mem_append.1 hx with hx|hx
   ·exact r10 x (hgp.A x hx)
   ·exact r9 x hx
 |[],_::_,_,_,hd,_,_=>hd.elim
 |_::_,[],_,_,hd,_,_=>hd.elim
theorem yK{A:Nat->Prop}{b0:Nat}:∀{rs:List Rs} {vs:List Value} {fs:List (List Nat)},vs.length=rs.length->fs.length=rs.length->
 (∀(j:Nat) u r f,vs[j]? =some u->rs[j]? =some r->fs[j]? =some f->r.2.2=true/\∃vals:List Value,(if r.1 then u=.agg vals.toArray else vals=[u])/\bi w 0 vals r.2.1 f)->(∀b∈fs.flatten,b0<=b)->ca w b0 A vs rs fs
 |[],[],[],_,_,_,_=>trivial
 |r::rs,v::vs,f::fs,h1,h2,h3,h4=>by
  refine⟨?_,yK (by simpa using h1) (by simpa using h2) (λj u r f k1 k2 k3=>h3 (j+1) u r f (by simpa using k1) (by simpa using k2) (by simpa using k3)) (λb hb=>h4 b (by simp only[List.flatten_cons];exact List.mem_append_right _ hb))⟩;obtain⟨q1,vals,q2,q3⟩:=h3 0 v r f rfl rfl rfl
  exact⟨vals,q2,by rw[if_pos q1];exact q3.hi λb hb=>h4 b (by simp only[List.flatten_cons];exact List.mem_append_left _ hb)⟩
 |[],_::_,_,h1,_,_,_=>by simp at h1
 |_::_,[],_,h1,_,_,_=>by simp at h1
 |[],[],_::_,_,h2,_,_=>by simp at h2
 |_::_,_::_,[],_,h2,_,_=>by simp at h2
theorem CN{f:FuncId}{fn:Func}{c:Code}{t:TypeId}{x:DV}{cs cs':List DV}{rest:List (Bool×List DV)}{res:List Rs}(hf:P.funcs[f]? =some fn)(hb:fn.body=some c)(hc:bf P f=true)(hN:rest.length+1<=fn.ntmps)
 (hdp:∀r∈res,r.2.2=true) (h:oP P fn.ntmps c (M2 P fn.results.toList res t cs') (yZ t x cs rest)):cr P f t x cs rest res cs':=by
 refine⟨hc,hdp,λw B g u vs hB hgl hcur ha=>?_⟩;refine calls_of_wp hf hb ?_;have hlen:vs.length+1<=fn.ntmps:=by rw[ha.1];exact hN
 have h0:=zB (w:=w) (N:=fn.ntmps) (fr:=λb=>b=g\/w.heap.size<=b) (hfr:=λ_ h=>.inr h) (how:=λ_ h=>h) (cu:=some (g,u)) (λb hb=>(hB b hb).1) (cL.cons (x:=(true,[])) (v:=.agg #[]) ⟨[],rfl,.nil⟩ ha) (by simpa using hlen)
 have k1:=h0.pushOb (X:=.cur 0 true t x cs) (v':=.pointer (some ⟨g,0,none⟩)) (m':=[g]) (o':=[]) rfl (Below.refl _ _) (λb hb=>by
  simp at hb;subst hb;exact⟨hgl,λhBb=>(hB _ hBb).2 rfl,λj hj=>by simp[bM]at hj⟩) (by simp) (by simp) (by
  rintro E' rfl hstay;refine⟨g,u,by exact Nat.lt_succ_self _,?_,?_,?_,λ_=>rfl,hcur.mono λb hb=>.inl hb⟩
  ·simp[upd]
  ·simp[upd]
  ·simp[upd]) (λb hb=>by simp at hb;exact Or.inl hb)
 have h1:=k1.put (d:=some 0) (x:=.p false [.own 0 0]) (v:=.pointer (some ⟨g,0,none⟩)) (aI ⟨by exact Nat.lt_succ_self _,λ_=>by simp[upd,bM]⟩) (λq hq=>by injection hq with hq;omega)
 have ha':Act.put {tmps:=(Value.agg #[]::vs).toArray++Array.replicate (fn.ntmps-(Value.agg #[]::vs).toArray.size) undef,defers:=[]} (some 0) (.pointer (some ⟨g,0,none⟩))={tmps:=(.pointer (some ⟨g,0,none⟩)::vs).toArray++Array.replicate (fn.ntmps-(Value.pointer (some ⟨g,0,none⟩)::vs).toArray.size) undef,defers:=[]}:=by
  simp only[Act.put];congr 1;apply Array.toList_inj.1;simp
 rw[ha']at h1;refine Code.wp_mono (λe a' w' he=>?_) (h _ _ w _ h1);obtain⟨s,E,hq,hr⟩:=he
 have key:oW P s (KF t cs') fn.results.toList res s->a'.defers=[]/\∃v,(results fn a'.tmps).run P w'=.ok v w'/\RN w B g u t x res cs' (.returned v) w':=by
  intro hq;obtain⟨us,fs,s',E',r1,r2,r3,r4,r5,r6,⟨i,st,x',r7⟩,r8,r9,-⟩:=BC hr hq hr gZ.refl;obtain⟨v,k1,k2⟩:=fU r1;obtain⟨hin,hob,-⟩:=af r7;have hO:=r8.obj i hin;rw[hob]at hO;obtain⟨g',u',_,_,em,_,hid,vals,c1,c2,c3,c4⟩:=hO;have hgu:some (g,u)=some (g',u'):=hid rfl;injection hgu with hgu;injection hgu with e1 e2;subst e1 e2;have hkeep:∀b,B b->w'.heap[b]? =w.heap[b]?:=λb hb=>hr.bel.block b (λhf=>hf.elim (λe=>(hB b hb).2 e) (λhf=>by have h1:w.heap.size<=b:=hf;have:=(hB b hb).1;omega))
  refine⟨hr.defers,v,k1,v,rfl,⟨hr.bel.os,hr.bel.tape,hr.bel.output,hr.bel.size,λb hb hn=>hr.bel.block b (λhf=>hf.elim (λe=>hn (by simp[e])) (λhf=>by have:w.heap.size<=b:=hf;omega))⟩,⟨us,fs,by rw[r2]at k2;exact k2,yK r2 r3 r6 (λb hb=>?_),r4⟩,vals,c1,?_,c3.flat c4,c4⟩
  ·obtain⟨j,hj,h1⟩:=r5 b hb;have hfr:b=g\/w.heap.size<=b:=h1.elim (hr.mF j hj b) (hr.oF j hj b);rcases hfr with e|h2
   ·subst e;exact absurd (by rw[em];simp) (r8.A_m b (r9 b hb) i hin)
   ·exact h2
  ·obtain⟨vals0,_,d2,_,_⟩:=hcur;exact d2.keep hkeep
 cases e with
 |normal=>exact key hq
 |ret=>exact key hq
 |_=>exact hq.elim
theorem Jh{f:FuncId}{X:Operand}{xs:List Operand}{args:Array Operand}{ts:Array TypeId}{i st:Nat}{id:Bool}{t:TypeId}{x:DV}{cs cs':List DV}{ys:List (Bool×List DV)}{res:List Rs}{B:Bool}(ho:o.op=.call ⟨.value (.func f),args,ts⟩)(hargs:args.toList=X::xs)(hd:dB N o.dst=true)
 (hm:cr P f t x cs ys res cs') (hX:s.ev X=.p false [.own i st]) (hi:s.own? i st=some (.cur st id t x cs)) (har:fF (s.kill i) xs ys):
 dd P N o s ((AS.pushL {s with ob:=upd s.ob i (.cur st id t x cs')} (dy B res s.c)).put o.dst (nY res s.n s.c)):=by
 intro w0 a w E h;obtain⟨hc,hdp,hm⟩:=hm;obtain⟨hin,hob,hlv⟩:=af hi;have hO:=h.obj i hin;rw[hob]at hO;obtain⟨g,u,hst,ev,em,eo,hid,vals,c1,c2,c3,c4⟩:=hO;have hk:=zR h hin;have hgm:g∈E.m i:=by rw[em];simp
 have hB:∀b,AM (s.kill i) ⟨upd E.v i (E.v i),upd E.m i [],upd E.o i [],E.A⟩ b->b<w.heap.size/\b≠g:=by
  intro b hb;rcases hb with hb|⟨j,hj,hjd,hb⟩
  ·exact⟨h.A_lt b hb,λe=>h.A_m b hb i hin (by rw[em,e];simp)⟩
  ·by_cases e:j=i
   ·subst e;simp[ab]at hb
   ·simp only[az _ _ e]at hb;exact⟨h.m_lt j hj b hb,λe'=>h.mm j i hj hin e b hb (by rw[em,e'];simp)⟩
 have hu:a.eval X=.pointer (some ⟨g,0,none⟩):=by
  have:=aJ h X;rw[hX]at this;rw[(aA this).2 hlv,ev]
 unfold Oper.wp;rw[lj ho hc,Oper.upon_enter,hargs,List.map_cons,hu];refine(hm w _ g u _ hB (h.m_lt i hin g hgm) ⟨vals,c1,c2.mono λb hb=>Or.inl hb,c3.flat c4,c4⟩ (n8 hk har)).mono ?_;rintro e w' ⟨v,rfl,hw,⟨us,fs,hv,hq,hnd⟩,vals',d1,d2,d3,d4⟩;simp only;have hsame:∀b,b<w.heap.size->b≠g->w'.heap[b]? =w.heap[b]?:=λb hb hn=>hw.block b hb (by simpa using hn)
 have hrep:aD w0 N {s with ob:=upd s.ob i (.cur st id t x cs')} a w' ⟨upd E.v i (E.v i),upd E.m i (E.m i),upd E.o i [],E.A⟩:=
  h.change (i:=i) (n':=s.n) (X:=.cur st id t x cs') (v':=E.v i) (m':=E.m i) (o':=[]) (A':=E.A) (c':=s.c) (Nat.le_refl _) (λj hj _=>hj) hin
   ⟨hw.os.trans h.bel.os,hw.tape.trans h.bel.tape,hw.output.trans h.bel.output,Nat.le_trans h.bel.size hw.size,λb hb=>(hsame b (Nat.lt_of_lt_of_le (Cx.lt hb) h.bel.size) (λe=>hb (h.mF i hin b (by rw[em,e];simp)))).trans (h.bel.block b hb)⟩
   hw.size (λb hb hbm=>hsame b hb (λe=>hbm hin (by rw[em,e];simp))) (Nat.le_refl _) (.inl ⟨hin,by rw[hob];rfl,rfl⟩) (λ_ hb=>hb) (λ_ hb=>.inl hb)
   (λb hb=>⟨Nat.lt_of_lt_of_le (h.A_lt b hb) hw.size,h.A_m b hb i hin,λj hj _=>h.A_m b hb j hj⟩) (λb hb=>⟨Nat.lt_of_lt_of_le (h.m_lt i hin b hb) hw.size,λj hj hne=>h.mm i j hin hj (Ne.symm hne) b hb⟩) (by simp) (by
    rintro s' rfl E' rfl hstay;refine⟨g,u,hst,by simp only[ab];exact ev,by simp only[ab];exact em,by simp only[ab],hid,vals',d1,?_,d3.flat d4,d4⟩
    exact c2.keep λb hb=>hsame b (h.A_lt b hb) (λe=>h.A_m b hb i hin (by rw[em,e];simp))) (h.mF i hin)
 obtain⟨E2,q1,q2,q3⟩:=zY (X:=B) (b0:=w.heap.size) h.bel.size res hrep (A0:=λ_=>False) (λ_ h=>h.elim) hq hnd (λb hb=>by
  have hge:=wL hq b hb;refine⟨λhA=>by have:=h.A_lt b hA;omega,λj hj=>?_⟩;by_cases e:j=i
  ·subst e;simp only[ab];exact⟨λhm=>by have:=h.m_lt j hin b hm;omega,by simp⟩
  ·simp only[az _ _ e]
   exact⟨λhm=>by have:=h.m_lt j hj b hm;omega,λhm=>by have:=h.A_lt b (h.A_o j hj b hm);omega⟩)
 exact⟨E2,q1.put (xm q2 hv) (eb hd)⟩
theorem Jq{f:FuncId}{args:Array Operand}{ts:Array TypeId}{t:TypeId}{x:DV}{cs':List DV}{ys:List (Bool×List DV)}(ho:o.op=.call ⟨.value (.func f),args,ts⟩)(hd:dB N o.dst=true)(hm:nj P f ys t x cs')(har:fb s args.toList ys):
 dd P N o s ((s.push (.cur s.c false t x cs')).put o.dst (.p false [.own s.n s.c])):=by
 intro w0 a w E h;unfold Oper.wp;rw[lj ho hm.1,Oper.upon_enter];refine(hm.2 w E.A _ h.A_lt (iG h har)).mono ?_;rintro e w' ⟨g,u,rfl,hg1,hg2,hb,hcur⟩;simp only;have h0:=h.world hb (A':=λb=>E.A b\/(w.heap.size<=b/\b<w'.heap.size/\b≠g)) (λb hb=>.inl hb) (λb hb=>hb.imp id λhb=>⟨hb.1,hb.2.1⟩)
 have h1:=h0.pushOb (X:=.cur s.c false t x cs') (v':=.pointer (some ⟨g,0,none⟩)) (m':=[g]) (o':=[]) rfl (Below.refl _ _) (λb hbm=>by
  simp at hbm;subst hbm;exact⟨hg2,λhA=>hA.elim (λhA=>by have:=h.A_lt _ hA;omega) (λhA=>hA.2.2 rfl),λj hj hm=>by have:=h.m_lt j hj _ hm;omega⟩) (by simp) (by simp) (by
  rintro E' rfl hstay;refine⟨g,u,by exact Nat.lt_succ_self _,?_,?_,?_,λh=>by(cases h),hcur.mono λb hb=>.inl hb⟩
  ·exact ab _ _ _
  ·exact ab _ _ _
  ·exact ab _ _ _) (λb hbm=>by simp at hbm;subst hbm;exact w0.hfr _ (Nat.le_trans h.bel.size hg1))
 exact⟨_,h1.put (aI ⟨by exact Nat.lt_succ_self _,λ_=>(ab _ _ _).symm⟩) (eb hd)⟩
theorem x9{L:Nat->Option Nat}{c:Nat}:∀{ds:List DV} {us:List Value},ay w E L c (ds.map .d) us->aH w E.A us ds
 |[],us,h=>by rw[ay.nil' h];exact .nil
 |d::ds,us,h=>by
  obtain⟨u',us',rfl,d1,d2⟩:=ay.cons' h;exact aH.cons d1 (x9 d2)
def M6(P:Program)(rv:ResultVar)(t:TypeId)(x:DV)(cs':List DV):Exit->AS->Prop
 |.normal,s=>∃i st,Cq P s rv=some (.p false [.ptr i st 0])/\s.own? i st=some (.var st t (.d x::cs'.map .d))
 |.ret,s=>∃i st,Cq P s rv=some (.p false [.ptr i st 0])/\s.own? i st=some (.var st t (.d x::cs'.map .d))
 |_,_=>False
theorem CE{f:FuncId}{fn:Func}{c:Code}{rv:ResultVar}{t:TypeId}{x:DV}{cs':List DV}{args:List (Bool×List DV)}(hf:P.funcs[f]? =some fn)(hb:fn.body=some c)(hc:bf P f=true)(hN:args.length<=fn.ntmps)(hrv:fn.results.toList=[rv])(hfl:jl cs')
 (h:oP P fn.ntmps c (M6 P rv t x cs') (bM args)):nj P f args t x cs':=by
 refine⟨hc,λw B vs hB ha=>?_⟩;refine calls_of_wp hf hb ?_;refine Code.wp_mono (λe a' w' he=>?_) (h (S6 w B) _ w _ (zB hB ha (by rw[ha.1];exact hN)));obtain⟨s,E,hq,hr⟩:=he
 have key:(∃i st,Cq P s rv=some (.p false [.ptr i st 0])/\s.own? i st=some (.var st t (.d x::cs'.map .d)))->a'.defers=[]/\∃v,(results fn a'.tmps).run P w'=.ok v w'/\∃g u,Ending.returned v=.returned (.pointer (some ⟨g,0,none⟩))/\w.heap.size<=g/\g<w'.heap.size/\Below w.heap.size w w'/\Bz w' (λb=>B b\/(w.heap.size<=b/\b<w'.heap.size/\b≠g)) g u t x cs':=by
  rintro⟨i,st,h1,h2⟩;obtain⟨v,hv1,hv2⟩:=Cj hr h1;have hrt:lP P w' a'.tmps fn.results.toList [v]:=by rw[hrv];exact⟨hv1,trivial⟩
  obtain⟨v',k1,k2⟩:=fU hrt;rw[if_pos (by rfl)]at k2;injection k2 with k2 _;subst k2;obtain⟨hin,hob,hlv⟩:=af h2;have hO:=hr.obj i hin;rw[hob]at hO;obtain⟨g,vals,_,ev,em,_,_,hB2,hcs⟩:=hO;obtain⟨g',e1,e2⟩:=(aA hv2).2 hlv;rw[ev]at e1;injection e1 with e1;injection e1 with e1;injection e1 with e1;subst e1;obtain⟨u,us,rfl,c1,c2⟩:=hcs.cons';have hgm:g∈E.m i:=by rw[em];simp
  have hA:∀b,E.A b->B b\/(w.heap.size<=b/\b<w'.heap.size/\b≠g):=λb hb=>(hr.anc b hb).imp id λh=>⟨h,hr.A_lt b hb,λe=>hr.A_m b hb i hin (by rw[em,e];simp)⟩
  have hrep:aH w' E.A us cs':=x9 c2;exact⟨hr.defers,v,k1,g,u,by rw[e2],hr.mF i hin g hgm,hr.m_lt i hin g hgm,hr.bel.below0,us,hB2,aH.mono c1 hA,hrep.mono hA,hfl⟩
 cases e with
 |normal=>exact key hq
 |ret=>exact key hq
 |_=>exact hq.elim
end
inductive dZ(P:Program):Nat->List (Bool×List DV)->List Rs->Prop
 |n {f ys res}:aW P f ys res->dZ P f ys res
 |p {f ys res}:Hn P f ys res->dZ P (1000000+f) ys res
 |c {f t x cs ys res cs'}:cr P f t x cs ys res cs'->dZ P (2000000+f) ((false,[ky t x cs])::ys) (res++[(false,[ky t x cs'],true)])
 |w {f ys t x cs'}:nj P f ys t x cs'->dZ P (3000000+f) ys [(false,[ky t x cs'],true)]
 |g {f bits ys res}:bits<1000->NF P f (RR (bN ys.length bits) ys) res->dZ P ((4+bits)*1000000+f) ys res
 |v {f bits T cs ys cs' res}:bits<64->zL P f T ((bN cs.length bits).zip cs) ys ((bN cs.length bits).zip cs') res->dZ P ((1000000+(T*64+bits))*1000000+f) ((true,cs)::ys) ((true,cs',true)::res.map λr=>(r.1,r.2,true))
theorem dZ.plain{P:Program}{f:Nat}{ys:List (Bool×List DV)}{res:List Rs}(h:dZ P f ys res)(hf:f<1000000):aW P f ys res:=by
 cases h with
 |n h=>exact h
 |p h=>omega
 |c h=>omega
 |w h=>omega
 |g _ h=>omega
 |v _ h=>omega
end Go.Proofs.Ytngaddcgmnonbaa
namespace Go.Proofs.Ytngaddcgmnonbaa
open Go.RowKit
def Hb(σ:Nat->Nat)(o:Oper):Oper:={o with after:=o.after.map (λe=>{e with on:=σ e.on}),guard:=o.guard.map λg=>(σ g.1,g.2)}
structure Pm(σ:Nat->Nat)(n:Nat)(l l':List Oper):Prop where
 len:l.length=n
 len':l'.length=n
 lt:∀i,i<n->σ i<n
 inj:∀i j,i<n->j<n->σ i=σ j->i=j
 sur:∀j,j<n->∃i,i<n/\σ i=j
 op:∀(i:Nat) (o:Oper),l[i]? =some o->l'[σ i]? =some (Hb σ o)
 ok:∀(i:Nat) (o:Oper),l[i]? =some o->(∀e∈o.after,e.on<n)/\∀(j:Nat) (b:Bool),o.guard=some (j,b)->j<n
def LR(σ:Nat->Nat)(n:Nat)(a b:Array Bool):Prop:=a.size=n/\b.size=n/\∀i,i<n->∀d,b.getD (σ i) d=a.getD i d
section
variable {P:Program}{md:Region.Mode}{Q:Exit->Act->World->Prop}{l l':List Oper}{σ:Nat->Nat}{n:Nat}
theorem Au(hp:Pm σ n l l'){j:Nat}(hj:j<n)(t:Array Value):yielded l'.toArray t (σ j)=yielded l.toArray t j:=by
 obtain⟨o,ho⟩:∃o,l[j]? =some o:=⟨_,List.getElem?_eq_getElem (by rw[hp.len];exact hj)⟩;have h1:l'.toArray[σ j]? =some (Hb σ o):=by simpa using hp.op j o ho
 have h2:l.toArray[j]? =some o:=by simpa using ho
 unfold yielded;rw[h1,h2];rfl
theorem GM(hp:Pm σ n l l'){i:Nat}(hi:i<n){K:Act->World->Prop}{a:Act}{w:World}:wpOp P l'.toArray Q (σ i) K a w=wpOp P l.toArray Q i K a w:=by
 obtain⟨o,ho⟩:∃o,l[i]? =some o:=⟨_,List.getElem?_eq_getElem (by rw[hp.len];exact hi)⟩;have h1:l'.toArray[σ i]? =some (Hb σ o):=by simpa using hp.op i o ho
 have h2:l.toArray[i]? =some o:=by simpa using ho
 unfold wpOp;rw[h1,h2]
 have hw:Region.wanted (Hb σ o) (yielded l'.toArray a.tmps)=Region.wanted o (yielded l.toArray a.tmps):=by
  unfold Region.wanted Hb
  cases hg:o.guard with
  |none=>rfl
  |some g=>
   obtain⟨j,b⟩:=g;have:=Au hp ((hp.ok i o ho).2 j b hg) a.tmps;simp only[Option.map_some,this]
 simp only[hw];rfl
theorem pe(hp:Pm σ n l l'){a b:Array Bool}(hl:LR σ n a b){i:Nat}(hi:i<n):σ i∈Region.ready md l'.toArray b↔i∈Region.ready md l.toArray a:=by
 obtain⟨o,ho⟩:∃o,l[i]? =some o:=⟨_,List.getElem?_eq_getElem (by rw[hp.len];exact hi)⟩;have h1:l'.toArray[σ i]? =some (Hb σ o):=by simpa using hp.op i o ho
 have h2:l.toArray[i]? =some o:=by simpa using ho
 have hok:=(hp.ok i o ho).1;rw[mem_ready,mem_ready,h1,h2,hl.2.2 i hi true];constructor
 ·rintro⟨h0,o',e',hall⟩;injection e' with e';subst e';refine⟨h0,o,rfl,λe he hb=>?_⟩
  have:=hall {e with on:=σ e.on} (by
   unfold Hb;simp only[Array.mem_map]
   exact⟨e,he,rfl⟩) hb
  rw[<-hl.2.2 e.on (hok e he) false];exact this
 ·rintro⟨h0,o',e',hall⟩;injection e' with e';subst e';refine⟨h0,_,rfl,λe he hb=>?_⟩;unfold Hb at he;simp only[Array.mem_map]at he;obtain⟨e0,he0,rfl⟩:=he;show b.getD (σ e0.on) false=true;rw[hl.2.2 e0.on (hok e0 he0) false];exact hall e0 he0 hb
theorem xG{a:Array Bool}{i:Nat}(h:i∈Region.ready md l.toArray a):i<l.length:=by
 obtain⟨-,o,ho,-⟩:=mem_ready.1 h;have:=(Array.getElem?_eq_some_iff.1 ho).1;simpa using this
theorem LR.set(hp:Pm σ n l l'){a b:Array Bool}(hl:LR σ n a b){i:Nat}(hi:i<n):LR σ n (a.setIfInBounds i true) (b.setIfInBounds (σ i) true):=by
 refine⟨by simp[hl.1],by simp[hl.2.1],λj hj d=>?_⟩;by_cases h:i=j
 ·subst h;have h1:i<a.size:=by rw[hl.1];exact hi
  have h2:σ i<b.size:=by rw[hl.2.1];exact hp.lt i hi
  simp[Array.getD,h1,h2]
 ·have h3:σ i≠σ j:=λe=>h (hp.inj i j hi hj e)
  rw[getD_set_ne d h3,getD_set_ne d h];exact hl.2.2 j hj d
theorem xE(hp:Pm σ n l l'):∀(fuel:Nat) (x y:Array Bool) (a:Act) (w:World),LR σ n x y->wpAny P md l'.toArray Q fuel y a w->wpAny P md l.toArray Q fuel x a w
 |0,x,y,a,w,hl,h=>by
  refine⟨?_,h.2⟩;rw[List.eq_nil_iff_forall_not_mem];intro i hi;have hn:i<n:=by rw[<-hp.len];exact xG hi
  have:=(pe hp hl hn).2 hi;rw[h.1]at this
  cases this
 |fuel+1,x,y,a,w,hl,h=>by
  refine⟨λhe=>h.1 ?_,λi hi=>?_⟩
  ·rw[List.eq_nil_iff_forall_not_mem];intro j hj;have hn:j<n:=by rw[<-hp.len'];exact xG hj
   obtain⟨i,hi,rfl⟩:=hp.sur j hn;have:=(pe hp hl hi).1 hj;rw[he]at this;cases this
  ·have hn:i<n:=by rw[<-hp.len];exact xG hi
   have h2:=h.2 (σ i) ((pe hp hl hn).2 hi);rw[GM hp hn]at h2;exact wpOp_mono (λa' w' hk=>xE hp fuel _ _ a' w' (hl.set hp hn) hk) h2
theorem LR.start(hp:Pm σ n l l'):LR σ n (Array.replicate n false) (Array.replicate n false):=by
 refine⟨by simp,by simp,λi hi d=>?_⟩;have:=hp.lt i hi;simp[Array.getD,hi,this]
end
end Go.Proofs.Ytngaddcgmnonbaa
namespace Go.Proofs.Ytngaddcgmnonbaa
open Go.RowKit
def Qr{α:Type}(es:List α)(a m b m':Nat):List α:=plug a ((es.drop b).take (min m' m)) es
section
variable {P:Program}{w0:Cx}{w w':World}{N:Nat}{s:AS}{a:Act}{E:En}{o:Oper}
end
end Go.Proofs.Ytngaddcgmnonbaa
