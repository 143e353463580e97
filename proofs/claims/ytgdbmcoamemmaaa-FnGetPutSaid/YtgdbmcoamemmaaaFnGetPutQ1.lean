/- Proved: for every input the law 'FnGetPut' returns true and its arguments read behind the call as before: part 1 of its proof. No condition. -/
import Derived.WalkKit
import Derived.Lib.Hide
import Derived.WalkSpells
import Derived.Laws.OwnMore
import Derived.Deep.AppendLies
import Derived.Deep.Draws
import Derived.Maps.AppendAt
import Derived.RegionTactic
import Derived.OwnWalk
import Derived.Below
import Derived.Laws.AppendOwnNone
import Derived.Deep.QuietTactic
import Derived.BigQuiet
import Derived.StillTailTactics
import Derived.Laws.Cells
import Derived.Laws.IdiomCopy
import Derived.ChangeKeysEq
import Derived.Laws.BytesArg
import Derived.Laws.StructEq
import Derived.Laws.Tables
import Derived.Great.BuildSlice
import Derived.StillTail
import Derived.OrdersHeld
import Derived.Test.YtgdbmcoamemmaaaFnGetPutQ0
set_option linter.unusedVariables false
set_option linter.unusedSimpArgs false
namespace Go.Proofs.Ytgdbmcoamemmaaa
open Go.RowKit
section
variable {P:Program}{N:Nat}{s:AS}{w0:Cx}{w w':World}{a:Act}{E:En}
theorem A3{args:List (Bool×List DV)}{vs:List Value}{B fr:Nat->Prop}{hfr:∀b,w.heap.size<=b->fr b}{cu:Option (Nat×Value)}{ow:Nat->Prop}{how:∀b,fr b->ow b}(hB:∀b,B b->b<w.heap.size)(ha:eg w B vs args)(hN:vs.length<=N):
 aB ⟨w,B,fr,hfr,cu,ow,how⟩ N (iA args) {tmps:=vs.toArray++Array.replicate (N-vs.toArray.size) undef,defers:=[]} w ⟨λ_=>undef,λ_=>[],λ_=>[],B⟩:=by
 refine⟨by grind,rfl,⟨rfl,rfl,rfl,Nat.le_refl _,λ_ _=>rfl⟩,λi hi=>by grind[iA],λt=>?_,hB,λb hb i hi=>by grind,λi hi=>by grind,λi j hi=>by grind,λi j hi=>by grind,λi hi=>by grind,λb hb=>.inl hb,λi hi=>by grind,λi hi=>by grind⟩;simp only[iA];split
 ·rename_i b ds hx;have hlt:t<vs.length:=by rw[ha.1];grind
  have hv:(vs.toArray++Array.replicate (N-vs.toArray.size) undef).getD t undef=vs[t]:=by
   simp[Array.getElem?_append,hlt]
  rw[hv];have:=ha.2 t _ _ (List.getElem?_eq_getElem hlt) hx;unfold CE at this;show dM _ _ _ _ b _ _
  grind[dM,ay.ofRep]
 ·trivial
def zX(tmps:Array Value):ResultVar->Sem Value
 |.tmp t=>pure (tmps.getD t undef)
 |.cell a t=>do loadVar t (<-asAddr (tmps.getD a undef))
theorem Gb(h:aB w0 N s a w E){rv:ResultVar}{x:AV}(hx:E6 P s rv=some x):∃v,(zX a.tmps rv).run P w=.ok v w/\bc w E s.lv s.c x v:=by
 cases rv with
 |tmp t=>simp only[E6]at hx;injection hx with hx;subst hx;exact⟨_,rfl,h.slot t⟩
 |cell t ty=>
  obtain⟨u,h1,h2⟩:=A6 (P:=P) h hx (h.slot t);refine⟨u,?_,h2⟩;simp only[zX]
  cases hv:a.tmps.getD t undef with
  |pointer ad=>
   rw[hv]at h1
   cases ad with
   |none=>simp[Instr.loadAt,Instr.sureAddr]at h1
   |some ad=>assumption
  |_=>rw[hv]at h1;simp[Instr.loadAt,Instr.sureAddr]at h1
def oP(P:Program)(w:World)(tmps:Array Value):List ResultVar->List Value->Prop
 |[],[]=>True
 |rv::rvs,v::vs=>(zX tmps rv).run P w=.ok v w/\oP P w tmps rvs vs
 |_,_=>False
theorem zZ{tmps:Array Value}:∀{rvs:List ResultVar} {vs:List Value},oP P w tmps rvs vs->(rvs.mapM (zX tmps)).run P w=.ok vs w
 |[],[],_=>rfl
 |rv::rvs,v::vs,h=>by simp[List.mapM_cons,h.1,zZ h.2]
 |[],_::_,h=>h.elim
 |_::_,[],h=>h.elim
theorem gF{fn:Func}{tmps:Array Value}{vs:List Value}(h:oP P w tmps fn.results.toList vs):∃v,(results fn tmps).run P w=.ok v w/\if vs.length=1 then vs=[v]else v=.tuple vs.toArray:=by
 have h1:(fn.results.mapM (zX tmps)).run P w=.ok vs.toArray w:=by
  rw[Array.mapM_eq_mapM_toList];simp[zZ h]
 have h2:results fn tmps=(do let vs <-fn.results.mapM (zX tmps);pure (if h:vs.size=1 then vs[0]else .tuple vs)):=by
  rfl
 rw[h2];by_cases hl:vs.length=1
 ·match vs,hl with
  |[v],_=>simp_all
 simp_all
theorem B6{f:List AC->Prop}{b:Bool}{x:Option AV}(h:Rh f b x):∃cs,x=some (.p b cs)/\f cs:=by
 unfold Rh at h
 grind
theorem nW{s0:AS}{E0:En}(h0:aB w0 N s0 a w E0):∀{rvs:List ResultVar} {rs:List Rs} {s:AS} {E:En},dy P s0 rvs rs s->aB w0 N s a w E->fh w E0 s0.lv s0.c w E s.lv s.c->
 ∃(vs:List Value) (fs:List (List Nat)),oP P w a.tmps rvs vs/\vs.length=rs.length/\fs.length=rs.length/\fs.flatten.Nodup/\(∀b∈fs.flatten,∃j,j<s.n/\(b∈E.m j\/b∈E.o j))/\
  ∀(j:Nat) u r f,vs[j]? =some u->rs[j]? =some r->fs[j]? =some f->r.2.2=true/\∃vals:List Value,(if r.1 then u=.agg vals.toArray else vals=[u])/\bj w 0 vals r.2.1 f/\∀x∈vals,∀b∈x.ownBlock.toList,∃j,j<s.n/\b∈E.m j
 |[],[],s,E,_,h,_=>⟨[],[],trivial,rfl,rfl,List.nodup_nil,by simp,λj u r f h1=>by grind⟩
 |rv::rvs,(b,ds,dp)::rs,s,E,hd,h,hst=>by
  obtain⟨hdp,hd⟩:=hd;obtain⟨cs,hcs,s',hg,hd⟩:=B6 hd;obtain⟨v,hv1,hv2⟩:=Gb h0 hcs;obtain⟨vals,hp,hcell⟩:=gv (show dM w E0 s0.lv s0.c b cs v from hv2);obtain⟨g1,g2,g3,g4,g5⟩:=hg;obtain⟨E',f,hgp⟩:=g5 w0 N a w E vals h (hcell.stay hst)
  have hst':fh w E0 s0.lv s0.c w E' s'.lv s'.c:=by
   refine⟨λb hb=>⟨hgp.A' b (hst.A b hb).1,rfl⟩,λi st hlt hl=>?_,by rw[g2];exact hst.c⟩;obtain⟨k1,k2⟩:=hst.L i st hlt (g4 i st hl);exact⟨k1,by rw[hgp.v];exact k2⟩
  obtain⟨vs,fs,r1,r2,r3,r4,r5,r6⟩:=nW h0 hd hgp.rep hst';refine⟨v::vs,f::fs,⟨hv1,r1⟩,by grind,by grind,?_,?_,?_⟩
  ·rw[List.flatten_cons];refine List.nodup_append.2 ⟨hgp.own.nodup,r4,λx hx y hy e=>?_⟩;subst e;obtain⟨j,hj,hbj⟩:=r5 x hy;rcases hbj with hbj|hbj
   ·exact hgp.rep.A_m x (hgp.A x hx) j hj hbj
   ·exact hgp.o x hx j hj hbj
  ·intro x hx;rw[List.flatten_cons]at hx;rcases List.mem_append.1 hx with hx|hx
   ·exact hgp.from_ x hx
   ·obtain⟨j,hj,hbj⟩:=r5 x hx;exact⟨j,by rw[g1]at hj;exact hj,hbj.imp (hgp.m' j x) (hgp.o' j x)⟩
  ·intro j u r f' k1 k2 k3
   cases j with
   |zero=>simp at k1 k2 k3;subst k1 k2 k3;exact⟨hdp,vals,hp,hgp.own,hgp.top⟩
   |succ j=>
    obtain⟨q1,vals,q2,q3,q4⟩:=r6 j u r f' (by assumption) (by assumption) (by assumption)
    exact⟨q1,vals,q2,q3,λx hx b hb=>by obtain⟨j,hj,h1⟩:=q4 x hx b hb;exact⟨j,by rw[g1]at hj;exact hj,hgp.m' j b h1⟩⟩
 |[],_::_,_,_,hd,_,_=>hd.elim
 |_::_,[],_,_,hd,_,_=>hd.elim
theorem EI{s0:AS}{E0:En}(h0:aB w0 N s0 a w E0){rvs:List ResultVar}{rs:List Rs}{s:AS}{E:En}(hd:dy P s0 rvs rs s)(h:aB w0 N s a w E)(hst:fh w E0 s0.lv s0.c w E s.lv s.c):
 ∃(vs:List Value) (fs:List (List Nat)),oP P w a.tmps rvs vs/\vs.length=rs.length/\fs.length=rs.length/\fs.flatten.Nodup/\(∀b∈fs.flatten,∃j,j<s.n/\(b∈E.m j\/b∈E.o j))/\
  ∀(j:Nat) u r f,vs[j]? =some u->rs[j]? =some r->fs[j]? =some f->r.2.2=true/\∃vals:List Value,(if r.1 then u=.agg vals.toArray else vals=[u])/\bj w 0 vals r.2.1 f:=by
 grind[nW]
theorem CT(h:aB w0 N s a w E):∀{rvs:List ResultVar} {rs:List Rs},pT P s rvs rs->
 ∃(vs:List Value),oP P w a.tmps rvs vs/\vs.length=rs.length/\∀(j:Nat) u r,vs[j]? =some u->rs[j]? =some r->r.2.2=false/\∃vals:List Value,(if r.1 then u=.agg vals.toArray else vals=[u])/\aH w (AM s E) vals r.2.1
 |[],[],_=>⟨[],trivial,rfl,λj u r h1=>by grind⟩
 |rv::rvs,(b,ds,dp)::rs,hd=>by
  obtain⟨hdp,hd,hrest⟩:=hd;obtain⟨cs,hcs,hrd⟩:=B6 hd;obtain⟨v,hv1,hv2⟩:=Gb h hcs;obtain⟨vals,hp,hcell⟩:=gv (show dM w E s.lv s.c b cs v from hv2);obtain⟨vs,r1,r2,r6⟩:=CT h hrest;refine⟨v::vs,⟨hv1,r1⟩,by grind,?_⟩;intro j u r k1 k2
  cases j with
  |zero=>simp at k1 k2;subst k1 k2;exact⟨hdp,vals,hp,Ey h hcell hrd⟩
  |succ j=>grind
 |[],_::_,hd=>hd.elim
 |_::_,[],hd=>hd.elim
def TV(w:World)(B:Nat->Prop):Cx:=⟨w,B,λb=>w.heap.size<=b,λ_ h=>h,none,λb=>w.heap.size<=b,λ_ h=>h⟩
theorem bj.hi{w:World}{b0 b1:Nat}{vs:List Value}{ds:List DV}{f:List Nat}(h:bj w b0 vs ds f)(hf:∀b∈f,b1<=b):bj w b1 vs ds f:=by
 induction h with
 |nil=>exact .nil
 |sc h1 _ ih=>exact .sc h1 (ih hf)
 |sl h1 h2 h3 _ _ h6 ih1 ih2=>
  refine .sl ?_ h2 h3 (ih1 λb hb=>hf b (by grind)) (ih2 λb hb=>hf b (by grind)) h6;refine⟨h1.1,?_⟩;rcases h1.2 with h|⟨g,cap,cur,rfl,k2,k3,k4⟩
  ·grind
  ·exact .inr ⟨g,cap,cur,rfl,hf g (by simp[Value.ownBlock]),k3,k4⟩
theorem HQ.below0{w w':World}{B:Nat->Prop}(h:HQ (TV w B) w'):Below w.heap.size w w':=⟨h.os,h.tape,h.output,h.size,λb hb=>h.block b (λhf=>Nat.lt_irrefl _ (Nat.lt_of_lt_of_le hb hf))⟩
theorem J8{fn:Func}{B:Nat->Prop}{w w':World}{a':Act}{s:AS}{E:En}{res:List Rs}(hr:aB (TV w B) N s a' w' E)(hq:dy P s fn.results.toList res s\/pT P s fn.results.toList res):
 a'.defers=[]/\∃v,(results fn a'.tmps).run P w'=.ok v w'/\So w B res (.returned v) w':=by
 refine⟨hr.defers,?_⟩;rcases hq with hq|hq
 ·obtain⟨us,fs,r1,r2,r3,r4,r5,r6⟩:=EI hr hq hr fh.refl;obtain⟨v,k1,k2⟩:=gF r1;refine⟨v,k1,v,rfl,⟨us,fs,by rw[r2]at k2;exact k2,r2,r3,r4,λj u r f e1 e2 e3=>?_⟩,hr.bel.below0⟩;obtain⟨q1,vals,q2,q3⟩:=r6 j u r f e1 e2 e3;refine⟨vals,q2,?_⟩;rw[if_pos q1];refine q3.hi λb hb=>?_
  obtain⟨j,hj,h1⟩:=r5 b (List.mem_flatten.2 ⟨f,List.mem_of_getElem? e3,hb⟩);exact h1.elim (hr.mF j hj b) (hr.oF j hj b)
 ·obtain⟨us,r1,r2,r6⟩:=CT hr hq;obtain⟨v,k1,k2⟩:=gF r1;refine⟨v,k1,v,rfl,⟨us,List.replicate res.length [],by rw[r2]at k2;exact k2,r2,by simp,by simp,λj u r f e1 e2 e3=>?_⟩,hr.bel.below0⟩;obtain⟨q1,vals,q2,q3⟩:=r6 j u r e1 e2;have hf0:f=[]:=List.eq_of_mem_replicate (List.mem_of_getElem? e3);refine⟨vals,q2,?_⟩;rw[if_neg (by grind)];refine⟨hf0,q3.mono λb hb=>?_⟩
  have hlt:b<w'.heap.size:=by
   rcases hb with hb|⟨i,hi,hnd,hb⟩
   ·exact hr.A_lt b hb
   ·exact hr.m_lt i hi b hb
  by_cases hge:w.heap.size<=b
  ·simp_all
  ·left;rcases hb with hb|⟨i,hi,hnd,hb⟩
   ·exact(hr.anc b hb).resolve_right hge
   ·exact absurd (hr.mF i hi b hb) hge
end
end Go.Proofs.Ytgdbmcoamemmaaa
namespace Go.Proofs.Ytgdbmcoamemmaaa
open Go.RowKit
section
variable {P:Program}{N:Nat}{s:AS}{o:Oper}{K:AS->Prop}
def SQ(k:Nat):Option (TypeId×Nat)->Option (List DV)->Option AV
 |some (_,k'),some e=>if k'=k then some (.p false [.rd e])else none
 |_,_=>none
def N6(id st j:Nat):Option (TypeId×Nat)->Option Ob->Option AV
 |some (_,k'),some (.row _ _ k es _)=>if k'=k/\j<es.length then some (.p false [.elt id st k j 0])else none
 |some (_,k'),some (.arr _ _ k es)=>if k'=k/\j<es.length then some (.p false [.elt id st k j 0])else none
 |some (el,k'),some (.frz _ (.sl _ k es))=>SQ k (some (el,k')) es[j]?
 |_,_=>none
theorem R2{t t' k:Nat}{es:List (List DV)}{i:Int}(h0:0<=i):qw P s t (.d (.sl t' k es)) i=SQ k (fL P t) es[i.toNat]?:=by
 unfold qw;rw[if_pos h0]
 cases h1:fL P t with
 |none=>rfl
 |some p=>cases h2:es[i.toNat]? <;>simp[SQ,h2]
theorem RM{t id st:Nat}{i:Int}(h0:0<=i):qw P s t (.own id st) i=N6 id st i.toNat (fL P t) (s.own? id st):=by
 unfold qw;rw[if_pos h0]
 cases h1:fL P t with
 |none=>rfl
 |some p=>
  cases h2:s.own? id st with
  |none=>grind[N6]
  |some ob=>
   cases ob with
   |frz st' x=>
    cases x with
    |sc v=>grind[N6]
    |sl t' k es=>cases h3:es[i.toNat]? <;>simp[N6,SQ,h2,h3]
   |_=>simp[N6,h2]
end
end Go.Proofs.Ytgdbmcoamemmaaa
namespace Go.Proofs.Ytgdbmcoamemmaaa
open Go.RowKit
section
variable {P:Program}{s s':AS}
structure dZ(s s':AS)(xs:List Operand):Prop where
 ob:s'.ob=s.ob
 n:s'.n=s.n
 sl:∀t,Operand.tmp t∈xs->s'.sl t=s.sl t
theorem dZ.ev{xs:List Operand}(h:dZ s s' xs){x:Operand}(hx:x∈xs):s'.ev x=s.ev x:=by
 cases x with
 |tmp t=>exact h.sl t hx
 |const v=>rfl
 |global g=>rfl
 |func f=>rfl
theorem dZ.own{xs:List Operand}(h:dZ s s' xs)(i st:Nat):s'.own? i st=s.own? i st:=by unfold AS.own?;rw[h.ob,h.n]
theorem dZ.sub{xs ys:List Operand}(h:dZ s s' xs)(hy:∀y∈ys,y∈xs):dZ s s' ys:=⟨h.ob,h.n,λt ht=>h.sl t (hy _ ht)⟩
theorem tn{op:Op}(h:dZ s s' op.operands.toList):hV P s' op=hV P s op:=by
 have ho:=λi st=>h.own i st
 have hoo:s'.own? =s.own?:=by funext i st;grind
 cases op<;>try rfl
 case move x=>simp only[hV,h.ev (x:=x) (by simp[Op.operands])]
 case assign x=>simp only[hV,h.ev (x:=x) (by simp[Op.operands])]
 case pick c x y=>simp only[hV,h.ev (x:=x) (by simp[Op.operands]),h.ev (x:=y) (by simp[Op.operands]),h.ev (x:=c) (by simp[Op.operands])]
 case load t x=>simp only[hV,h.ev (x:=x) (by simp[Op.operands])];simp_all[zL]
 case fieldAddr t x f=>simp only[hV,h.ev (x:=x) (by simp[Op.operands])];simp_all[Ng]
 case field t x f=>simp only[hV,h.ev (x:=x) (by simp[Op.operands])]
 case indexAddr t x ix=>simp only[hV,h.ev (x:=x) (by simp[Op.operands]),h.ev (x:=ix) (by simp[Op.operands])];unfold qw;rw[hoo]
 case index t x ix=>simp only[hV,h.ev (x:=x) (by simp[Op.operands]),h.ev (x:=ix) (by simp[Op.operands])]
 case binOp op t x y ty=>simp only[hV,h.ev (x:=x) (by simp[Op.operands]),h.ev (x:=y) (by simp[Op.operands])]
 case unOp op t x=>simp only[hV,h.ev (x:=x) (by simp[Op.operands])]
 case convert a b x=>
  have hrd:Lw s'=Lw s:=by funext c;unfold Lw;rw[h.ob,h.n]
  have hcv:∀y,Ls P s' a b y=Ls P s a b y:=by simp_all[Ls,cvB]
  simp only[hV,h.ev (x:=x) (by simp[Op.operands]),hcv]
 case nilCheck x=>simp only[hV,h.ev (x:=x) (by simp[Op.operands])];simp_all[Qi]
 case extract x ix=>simp only[hV,h.ev (x:=x) (by simp[Op.operands])]
 case slice t x lo hi mx=>
  cases mx with
  |some _=>rfl
  |none=>
   have e1:s'.evI lo=s.evI lo:=by
    cases lo with
    |none=>rfl
    |some y=>simp only[AS.evI,h.ev (x:=y) (by simp[Op.operands])]
   have e2:s'.evI hi=s.evI hi:=by
    cases hi with
    |none=>rfl
    |some y=>simp only[AS.evI,h.ev (x:=y) (by simp[Op.operands])]
   simp only[hV,e1,e2,h.ev (x:=x) (by simp[Op.operands])];unfold rJ;rw[hoo]
 case call c=>
  obtain⟨callee,args,ts⟩:=c;simp only[hV];unfold uK;split
  ·rename_i y t h1 h2
   have:y∈(Op.call ⟨.builtin .len,args,ts⟩).operands.toList:=by simp[Op.operands,Call.operands,<-h1];simpa using congrArg (y∈ ·) h1
   rw[h.ev this];simp_all[kX]
  ·rename_i y z h1;have m1:y∈(Op.call ⟨.builtin .max,args,ts⟩).operands.toList:=by simp[Op.operands,Call.operands];simp[<-Array.mem_toList_iff,h1]
   have m2:z∈(Op.call ⟨.builtin .max,args,ts⟩).operands.toList:=by simp[Op.operands,Call.operands];simp[<-Array.mem_toList_iff,h1]
   rw[h.ev m1,h.ev m2]
  ·rename_i y z h1;have m1:y∈(Op.call ⟨.builtin .min,args,ts⟩).operands.toList:=by simp[Op.operands,Call.operands];simp[<-Array.mem_toList_iff,h1]
   have m2:z∈(Op.call ⟨.builtin .min,args,ts⟩).operands.toList:=by simp[Op.operands,Call.operands];simp[<-Array.mem_toList_iff,h1]
   rw[h.ev m1,h.ev m2]
  ·rfl
end
end Go.Proofs.Ytgdbmcoamemmaaa
namespace Go.Proofs.Ytgdbmcoamemmaaa
open Go.RowKit
inductive HK where
 |v (x:AV)
 |c (res:List Rs)
 |b (el k:Nat) (parts:List (Nat×Operand))
 |a (t:TypeId) (cs:List AC)
 |p (op:Op)
def FC(P:Program)(w:World)(a:Act)(v:Value):Op->Prop
 |.load t x=>∀w',Below w.heap.size w w'->(Instr.loadAt t (a.eval x)).run P w'=.ok v w'
 |.build t parts=>∃us:List Value,v=.agg us.toArray/\P.built t (parts.map λx=>(x.1,a.eval x.2)).toList=some us.toArray
 |.move x=>v=a.eval x
 |.assign x=>v=a.eval x
 |.extract x ix=>∃vs:List Value,a.eval x=.tuple vs.toArray/\vs[ix]? =some v
 |.call ⟨.builtin .append,args,_⟩=>∃X Y,args=#[X,Y]/\v=a.eval X
 |_=>False
def E4:Op->Bool
 |.build _ _=>true
 |.move _=>true
 |.assign _=>true
 |.extract _ _=>true
 |.load _ _=>true
 |_=>false
def Ij(h:AS)(op:Op):Prop:=E4 op=true/\∀t x,op=.load t x->∃i st off ty cs,h.ev x=.p false [.ptr i st off]/\h.own? i st=some (.var st ty cs)
def kt(rs:List Rs):AV:=match rs.map λr=>(r.1,r.2.1.map AC.d)with|[(b,cs)]=>.p b cs|l=>.tup l
def mj(a:Act)(parts:List (Nat×Operand)):List Value:=parts.flatMap λx=>(a.eval x.2).cells.toList
def dL:List AC->Option (List DV)
 |[]=>some []
 |.d x::r=>match dL r with|some xs=>some (x::xs)|none=>none
 |_::_=>none
def MV:List (List AC)->Option (List (List DV))
 |[]=>some []
 |e::r=>match dL e,MV r with|some x,some xs=>some (x::xs)|_,_=>none
def sw(el k:Nat)(es:List (List AC)):AV:=if es.isEmpty then .p false [.emp]else match MV es with|some ds=>.p false [.d (.sl el k ds)]|none=>.und
def yV:AV->Bool
 |.p false [.emp]=>true
 |.p false [.nil]=>true
 |_=>false
def db:AC->Bool
 |.d (.sc _)=>true
 |.nil=>true
 |.own _ _=>true
 |.ptr _ _ _=>true
 |.elt _ _ _ _ _=>true
 |.sub _ _ _ _ _=>true
 |.emp=>true
 |_=>false
def j6(pr:Bool)(x:AV):AV:=if pr then x else match x with
 |.p b cs=>if cs.all db then .p b cs else .und
 |_=>.und
def pK(P:Program)(s:AS):Op->Option AV
 |.build t parts=>if DL P t then(match aW P t with|some z=>(match iC P s t parts.toList z with|some cs=>some (.p true cs)|none=>none)|none=>none)else none
 |op=>hV P s op
def uv(P:Program)(pr:Bool)(h q:AS)(o:Oper)(kd:HK)(x:AV)(q':AS):Prop:=
 (∃y,pK P h o.op=some y/\kd=.v y/\x=y/\q'=q.put o.dst (j6 pr y))\/
 (∃f args ts ys res,o.op=.call ⟨.value (.func f),args,ts⟩/\aI P f ys res/\gj h args.toList ys/\res.all (·.2.2)=true/\(pr=true->cS false res 0=[])/\kd=.c res/\x=kt res/\q'=(q.pushL (cS false res q.c)).put o.dst (mL res q.n q.c))\/
 (∃t len parts el k es esq,o.op=.buildSlice t len parts/\pr=false/\fL P t=some (el,k)/\(aU P el).isSome=true/\0<k/\parts.toList.length=len/\len*k<=16777216/\vx h k parts.toList 0=some es/\vx q k parts.toList 0=some esq/\
  kd=.b el k parts.toList/\x=sw el k es/\q'=(q.push (.arr q.c el k esq)).put o.dst (.p false [.own q.n q.c]))\/
 (∃t cs,o.op=.alloc t/\pr=false/\aW P t=some cs/\kd=.a t cs/\x=.und/\q'=(q.push (.var q.c t cs)).put o.dst (.p false [.ptr q.n q.c 0]))\/
 (∃y z,Ij h o.op/\pr=false/\pK P h o.op=some y/\pK P q o.op=some z/\kd=.p o.op/\x=y/\q'=q.put o.dst z)\/
 (∃X Y t el k by_ c t2 es zs res,o.op=.call ⟨.builtin .append,#[X,Y],#[t,t]⟩/\pr=false/\fL P t=some (el,k)/\aU P el=some zs/\zs.length=k/\0<k/\fT P el=some by_/\yV (h.ev X)=true/\h.ev Y=.p false [c]/\zo h c (.sl t2 k es)/\es≠[]/\uN es.flatten/\
  es.length<=maxLen/\es.length*by_<=140737488355328/\res=[(false,[.sl el k es],true)]/\kd=.c res/\x=kt res/\q'=(q.pushL (cS false res q.c)).put o.dst (mL res q.n q.c))\/
 (∃X Y t el k c t2 k2,o.op=.call ⟨.builtin .append,#[X,Y],#[t,t]⟩/\pr=false/\fL P t=some (el,k)/\yV (h.ev X)=true/\h.ev Y=.p false [c]/\zo h c (.sl t2 k2 [])/\kd=.p o.op/\x=h.ev X/\q'=q.put o.dst (q.ev X))\/
 (∃f args ts ys r,o.op=.call ⟨.value (.func f),args,ts⟩/\pr=false/\aI P f ys [r]/\gq h args.toList ys/\r.2.2=false/\kd=.v (kt [r])/\x=kt [r]/\q'=q.put o.dst (j6 pr (kt [r])))
def En.plus(E:En)(m M:Nat):En:={E with A:=λb=>E.A b\/(m<=b/\b<M)}
def Df(P:Program)(m:Nat)(E:En)(L:Nat->Option Nat)(c:Nat)(a:Act)(w:World)(v:Value)(f:List Nat):HK->Prop
 |.v x=>f=[]
 |.c res=>∃vs fs,(if res.length=1 then vs=[v]else v=.tuple vs.toArray)/\bR w m (λ_=>False) vs res fs/\f=fs.flatten/\f.Nodup/\∀r∈res,r.2.2=true
 |.b el k parts=>∃g,v=.slice (some ⟨g,0,none⟩) parts.length parts.length/\f=[g]/\m<=g/\lZ w g el (mj a parts).toArray
 |.a t cs=>∃g vals,v=.pointer (some ⟨g,0,none⟩)/\f=[g]/\m<=g/\lZ w g t (vals:List Value).toArray/\∀w E L c,ay w E L c cs vals
 |.p op=>f=[]/\FC P w a v op
section
variable {P:Program}{w0:Cx}{w w':World}{N m:Nat}{s h H:AS}{a:Act}{E:En}{o:Oper}
theorem bR.keep{b0:Nat}{A:Nat->Prop}(hk:∀b,b<w.heap.size->w'.heap[b]? =w.heap[b]?):∀{vs:List Value} {rs:List Rs} {fs:List (List Nat)},(∀r∈rs,r.2.2=true)->bR w b0 A vs rs fs->bR w' b0 A vs rs fs
 |[],[],[],_,_=>trivial
 |v::vs,r::rs,f::fs,hd,h=>by
  refine⟨?_,bR.keep hk (λr hr=>hd r (List.mem_cons_of_mem _ hr)) h.2⟩;obtain⟨vals,h1,h2⟩:=h.1;have hr:=hd r (List.mem_cons_self ..);rw[if_pos hr]at h2
  exact⟨vals,h1,by rw[if_pos hr];exact h2.keep λb hb=>hk b (h2.blocks b hb).2⟩
 |[],_::_,_,_,h=>by cases h
 |[],[],_::_,_,h=>by cases h
 |_::_,[],_,_,h=>by cases h
 |_::_,_::_,[],_,h=>by cases h
theorem bR.blocks{b0:Nat}{A:Nat->Prop}:∀{vs:List Value} {rs:List Rs} {fs:List (List Nat)},(∀r∈rs,r.2.2=true)->bR w b0 A vs rs fs->∀b∈fs.flatten,b0<=b/\b<w.heap.size
 |[],[],[],_,_=>by simp
 |v::vs,r::rs,f::fs,hd,h=>by
  intro b hb;rw[List.flatten_cons]at hb;rcases List.mem_append.1 hb with hb|hb
  ·obtain⟨vals,h1,h2⟩:=h.1;rw[if_pos (hd r (List.mem_cons_self ..))]at h2;exact h2.blocks b hb
  ·exact bR.blocks (λr hr=>hd r (List.mem_cons_of_mem _ hr)) h.2 b hb
 |[],_::_,_,_,h=>by cases h
 |[],[],_::_,_,h=>by cases h
 |_::_,[],_,_,h=>by cases h
 |_::_,_::_,[],_,h=>by cases h
theorem bR.lo{b0 b1:Nat}{A:Nat->Prop}(hb:b1<=b0):∀{vs:List Value} {rs:List Rs} {fs:List (List Nat)},(∀r∈rs,r.2.2=true)->bR w b0 A vs rs fs->bR w b1 A vs rs fs
 |[],[],[],_,_=>trivial
 |v::vs,r::rs,f::fs,hd,h=>by
  refine⟨?_,bR.lo hb (λr hr=>hd r (List.mem_cons_of_mem _ hr)) h.2⟩;obtain⟨vals,h1,h2⟩:=h.1;have hr:=hd r (List.mem_cons_self ..);rw[if_pos hr]at h2
  exact⟨vals,h1,by rw[if_pos hr];exact h2.lo hb⟩
 |[],_::_,_,_,h=>by cases h
 |[],[],_::_,_,h=>by cases h
 |_::_,[],_,_,h=>by cases h
 |_::_,_::_,[],_,h=>by cases h
theorem bR.parts{b0:Nat}{A:Nat->Prop}{L:Nat->Option Nat}{c:Nat}(hA:∀b,b0<=b->b<w.heap.size->E.A b):∀{vs:List Value} {rs:List Rs} {fs:List (List Nat)},(∀r∈rs,r.2.2=true)->bR w b0 A vs rs fs->my w E L c (rs.map λr=>(r.1,r.2.1.map AC.d)) vs
 |[],[],[],_,_=>trivial
 |v::vs,r::rs,f::fs,hd,h=>by
  refine⟨?_,bR.parts hA (λr hr=>hd r (List.mem_cons_of_mem _ hr)) h.2⟩;obtain⟨vals,h1,h2⟩:=h.1;rw[if_pos (hd r (List.mem_cons_self ..))]at h2
  exact mu h1 (ay.ofRep (h2.rep.mono λb hb=>hA b (h2.blocks b hb).1 (h2.blocks b hb).2))
 |[],_::_,_,_,h=>by cases h
 |[],[],_::_,_,h=>by cases h
 |_::_,[],_,_,h=>by cases h
 |_::_,_::_,[],_,h=>by cases h
theorem yq{L:Nat->Option Nat}{c:Nat}{rs:List Rs}{vs:List Value}{v:Value}(h:my w E L c (rs.map λr=>(r.1,r.2.1.map AC.d)) vs)(hv:if rs.length=1 then vs=[v]else v=.tuple vs.toArray):bc w E L c (kt rs) v:=by
 obtain⟨h1,h2⟩:=qp h;unfold kt;split
 ·rename_i b cs he;have hl:rs.length=1:=by have:=congrArg List.length he;grind
  rw[he]at h;rw[if_pos hl]at hv;subst hv;exact h.1
 ·rename_i hne
  have:¬rs.length=1:=by
   intro e
   match rs,e with
   |[r],_=>grind
  rw[if_neg this]at hv;exact⟨vs,hv,h1,h2⟩
theorem p9{xs:List Operand}(hal:dZ h H xs)(x:AV):cP H x=cP h x:=by
 have hoo:H.own? =h.own?:=by funext i st;exact hal.own i st
 have hok:C8 H=C8 h:=by funext c;cases c<;>simp[C8,hoo]
 simp_all[cP]
theorem vt{t:TypeId}:∀{parts:List (Nat×Operand)} {z:List AC},dZ h H (parts.map (·.2))->iC P H t parts z=iC P h t parts z
 |[],z,_=>rfl
 |(i,x)::r,z,hal=>by
  have e1:=hal.ev (x:=x) (by simp);simp only[iC,e1,p9 hal];split
  ·split
   ·exact vt (hal.sub (λy hy=>by grind))
   ·rfl
  ·rfl
theorem ut{k:Nat}:∀{parts:List (Nat×Operand)} {j:Nat},dZ h H (parts.map (·.2))->vx H k parts j=vx h k parts j
 |[],j,_=>rfl
 |(i,x)::r,j,hal=>by
  have e1:=hal.ev (x:=x) (by simp);simp only[vx,e1,p9 hal,ut (parts:=r) (hal.sub (λy hy=>by grind))]
theorem uW{xs:List Operand}(hal:dZ h H xs)(cs:List AC)(ds:List DV):FQ H cs ds=FQ h cs ds:=by
 have e0:yI H=yI h:=by funext c x;cases c<;>simp[yI,hal.ob,hal.n]
 have e1:xy H=xy h:=by
  funext c x
  induction c generalizing x with
  |nil=>cases x<;>rfl
  |cons a c ih=>cases x with
   |nil=>rfl
   |cons y x=>simp_all[xy]
 have e2:se H=se h:=by
  funext c x
  induction c generalizing x with
  |nil=>cases x<;>rfl
  |cons a c ih=>cases x with
   |nil=>rfl
   |cons y x=>simp_all[se]
 have e3:zo H=zo h:=by funext c x;cases c<;>simp[zo,hal.ob,hal.n,e2]
 induction cs generalizing ds with
 |nil=>cases ds<;>rfl
 |cons a c ih=>cases ds with
  |nil=>rfl
  |cons y x=>simp_all[FQ]
theorem tg:∀{xs:List Operand} {ys:List (Bool×List DV)},dZ h H xs->gj h xs ys->gj H xs ys
 |[],[],_,_=>trivial
 |[],_::_,_,h=>h.elim
 |_::_,[],_,h=>h.elim
 |x::xs,y::ys,hal,hr=>by
  refine⟨?_,tg (hal.sub λz hz=>List.mem_cons_of_mem _ hz) hr.2⟩;have:=hr.1;rw[hal.ev (List.mem_cons_self ..)]
  grind[uW,absurd]
theorem Ev{xs:List Operand}(hal:dZ h H xs)(cs:List AC)(ds:List DV):DK H cs ds=DK h cs ds:=by
 have e1:Rm H=Rm h:=by funext c x;cases c<;>simp[Rm,hal.ob,hal.n]
 induction cs generalizing ds with
 |nil=>cases ds<;>rfl
 |cons a c ih=>cases ds with
  |nil=>rfl
  |cons y x=>simp_all[DK]
theorem pS:∀{xs:List Operand} {ys:List (Bool×List DV)},dZ h H xs->gq h xs ys->gq H xs ys
 |[],[],_,_=>trivial
 |[],_::_,_,h=>h.elim
 |_::_,[],_,h=>h.elim
 |x::xs,y::ys,hal,hr=>by
  refine⟨?_,pS (hal.sub λz hz=>List.mem_cons_of_mem _ hz) hr.2⟩;have:=hr.1;rw[hal.ev (List.mem_cons_self ..)]
  grind[Ev,absurd]
theorem El(hr:aB w0 N h a w E){k:Nat}:∀{parts:List (Nat×Operand)} {j:Nat} {es:List (List AC)},vx h k parts j=some es->ay w E h.lv h.c es.flatten (mj a parts)/\(mj a parts).length=parts.length*k
 |[],j,es,hf=>by grind[vx,ay.nil,mj]
 |(i,x)::r,j,es,hf=>by
  simp only[vx]at hf;split at hf
  ·rename_i cs es' h1 h2;split at hf
   ·rename_i hl;injection hf with hf;subst hf;obtain⟨c1,_⟩:=d7 hr h1 (aL hr x);obtain⟨c2,c3⟩:=El hr h2;have hcat:mj a ((i,x)::r)=(a.eval x).cells.toList++mj a r:=by rfl
    rw[hcat,List.flatten_cons];refine⟨c1.app c2,?_⟩;rw[List.length_append,c3,<-c1.1,hl.2,List.length_cons,Nat.succ_mul];omega
   grind
  grind
theorem CI(hr:aB w0 N h a w E){k:Nat}:∀{parts:List (Nat×Operand)} {j:Nat} {es:List (List AC)} {done rest:List Value},vx h k parts j=some es->done.length=j*k->rest.length=parts.length*k->
 Instr.fill (λi=>some (i*k,k)) (done++rest).toArray (parts.map λx=>(x.1,a.eval x.2))=some (done++mj a parts).toArray
 |[],j,es,done,rest,hf,hd,hr'=>by
  have:rest=[]:=List.eq_nil_of_length_eq_zero (by grind);subst this
  rfl
 |(i,x)::r,j,es,done,rest,hf,hd,hr'=>by
  simp only[vx]at hf;split at hf
  ·rename_i cs es' h1 h2;split at hf
   ·rename_i hl;obtain⟨rfl,hl⟩:=hl;obtain⟨c1,_⟩:=d7 hr h1 (aL hr x);have hsz:(a.eval x).cells.toList.length=k:=by rw[<-c1.1];exact hl
    rw[List.length_cons,Nat.succ_mul]at hr';have e1:=CI hr (done:=done++(a.eval x).cells.toList) (rest:=rest.drop k) h2 (by rw[List.length_append,hsz,hd,Nat.succ_mul]) (by rw[List.length_drop];omega);have hcat:mj a ((i,x)::r)=(a.eval x).cells.toList++mj a r:=by rfl
    rw[List.map_cons,Instr.fill];have hsz':(a.eval x).cells.size=k:=by assumption
    have hle:i*k+(a.eval x).cells.size<=(done++rest).toArray.size:=by rw[hsz'];grind
    simp only;rw[if_neg (by grind),ue hle]
    have:plug (i*k) (a.eval x).cells.toList (done++rest).toArray.toList=done++(a.eval x).cells.toList++rest.drop k:=by
     unfold plug;rw[hsz];rw[show(done++rest).toArray.toList=done++rest from rfl,<-hd,List.take_left,List.drop_length_add_append]
    rw[this,e1,hcat,List.append_assoc]
   grind
  grind
theorem Oj{L:Nat->Option Nat}{c:Nat}:∀{cs:List AC} {ds:List DV} {vals:List Value},dL cs=some ds->ay w E L c cs vals->aH w E.A vals ds
 |[],ds,vals,hd,hc=>by simp only[dL]at hd;injection hd with hd;subst hd;rw[hc.nil'];exact .nil
 |x::r,ds,vals,hd,hc=>by
  cases x with
  |d y=>
   simp only[dL]at hd;split at hd
   ·rename_i xs hx;injection hd with hd;subst hd;obtain⟨u,us,rfl,c1,c2⟩:=hc.cons';exact aH.cons c1 (Oj hx c2)
   grind
  |_=>simp only[dL]at hd;cases hd
theorem KK{L:Nat->Option Nat}{c:Nat}:∀{es:List (List AC)} {ds:List (List DV)} {vals:List Value},MV es=some ds->ay w E L c es.flatten vals->aH w E.A vals ds.flatten/\ds.length=es.length/\∀k,(∀e∈es,e.length=k)->∀e∈ds,e.length=k
 |[],ds,vals,hd,hc=>by simp only[MV]at hd;injection hd with hd;subst hd;rw[hc.nil'];exact⟨.nil,rfl,by simp⟩
 |e::r,ds,vals,hd,hc=>by
  simp only[MV]at hd;split at hd
  ·rename_i x xs h1 h2;injection hd with hd;subst hd;rw[List.flatten_cons]at hc;have hl:e.length<=vals.length:=by rw[<-hc.1];simp
   have c1:ay w E L c e (vals.take e.length):=by have:=hc.take e.length;rwa [List.take_left]at this
   have c2:ay w E L c r.flatten (vals.drop e.length):=by have:=hc.drop e.length;rwa [List.drop_left]at this
   have r1:=Oj h1 c1;obtain⟨r2,r3,r4⟩:=KK h2 c2;refine⟨?_,by grind,λk hk y hy=>?_⟩
   ·have:=r1.app r2
    rwa [List.take_append_drop]at this
   ·rcases List.mem_cons.1 hy with rfl|hy
    ·have:=r1.len;have h5:=hk e (List.mem_cons_self ..);rw[List.length_take]at this;omega
    simp_all
  grind
end
end Go.Proofs.Ytgdbmcoamemmaaa
namespace Go.Proofs.Ytgdbmcoamemmaaa
open Go.RowKit
def S6(P:Program)(m:Nat)(L:Nat->Option Nat)(c:Nat)(o:Oper)(a:Act)(w:World)(E:En)(kd:HK)(x:AV)(a':Act)(w':World):Prop:=
 ∃v f,a'=a.put o.dst v/\Below w.heap.size w w'/\(∀b∈f,w.heap.size<=b/\b<w'.heap.size)/\Df P m E L c a w' v f kd/\bc w' (E.plus m w'.heap.size) L c x v
section
variable {P:Program}{w0:Cx}{w w':World}{N m:Nat}{s h H q q':AS}{a:Act}{E:En}{o:Oper}
theorem Av{L:Nat->Option Nat}{c:Nat}(hb:Below w.heap.size w w')(hA:∀b,E.A b->b<w.heap.size):fh w (E.plus m w.heap.size) L c w' (E.plus m w'.heap.size) L c:=by
 refine⟨λb hb'=>?_,λi st _ h=>⟨h,rfl⟩,Nat.le_refl _⟩;have hs:=hb.size;rcases hb' with h1|h1
 ·exact⟨.inl h1,hb.block b (hA b h1)⟩
 ·exact⟨.inr ⟨h1.1,by omega⟩,hb.block b h1.2⟩
theorem Er{t:TypeId}{parts:Array (Nat×Operand)}:(parts.toList.map (·.2))=(Op.build t parts).operands.toList:=by rfl
theorem AX{t:TypeId}{len:Nat}{parts:Array (Nat×Operand)}:(parts.toList.map (·.2))=(Op.buildSlice t len parts).operands.toList:=by rfl
theorem OH{x:AV}(hx:pK P H o.op=some x):fS P o H x []:=by
 unfold pK at hx
 grind[Gj,KM]
theorem Gq{x:AV}(hx:pK P s o.op=some x):∀w0 N a w E,aB w0 N s a w E->∃v,(execOp a.eval o).run P w=.ok (.value v) w/\bc w E s.lv s.c x v:=by
 unfold pK at hx;split at hx
 ·rename_i t parts ho;split at hx
  ·rename_i h1;split at hx
   ·rename_i z h2;split at hx
    ·rename_i cs h3;injection hx with hx;subst hx;intro w0 N a w E h;obtain⟨us,k1,k2⟩:=pa (o:=o) h1 h2 h3 h;exact⟨.agg us.toArray,uU ho k1 w,us,rfl,k2⟩
    grind
   grind
  grind
 grind[I9]
theorem iU{op:Op}(hal:dZ h H op.operands.toList):pK P H op=pK P h op:=by
 cases op with
 |build t parts=>grind[pK,vt,Er]
 |_=>exact tn (P:=P) hal
theorem AG{x:AV}{v:Value}{L:Nat->Option Nat}{c:Nat}(hx:yV x=true)(hv:bc w E L c x v):∃A,v=.slice A 0 0:=by
 unfold yV at hx;split at hx
 ·exact aC hv
 ·obtain rfl:v=_:=aC hv
  grind
 grind
theorem Eg{X Y:Operand}{t el:TypeId}{k by_ t2:Nat}{c:AC}{es:List (List DV)}{zs:List Value}(ho:o.op=.call ⟨.builtin .append,#[X,Y],#[t,t]⟩)(ht:fL P t=some (el,k))(hz:aU P el=some zs)(hzl:zs.length=k)(hk:0<k)(hby:fT P el=some by_)
 (hX:yV (H.ev X)=true) (hY:H.ev Y=.p false [c]) (hrd:zo H c (.sl t2 k es)) (hne:es≠[]) (hfl:uN es.flatten) (h63:es.length<=maxLen) (hbytes:es.length*by_<=140737488355328) (hrep:aB w0 N H a w E):
 ∃v' w',(execOp a.eval o).run P w=.ok (.value v') w'/\Below w.heap.size w w'/\bj w' w.heap.size [v'] [.sl el k es] v'.ownBlock.toList:=by
 obtain⟨A0,hA⟩:=AG hX (aL hrep X);have e2:=aL hrep Y;rw[hY]at e2;obtain⟨Ad,cp,us,hv,hR,hru,hek⟩:=A7 (yG hrep (aC e2) hrd);obtain⟨hu,hsz⟩:=m6 ht;unfold aU at hz;unfold dV at hsz;unfold fT at hby
 cases hi:P.info? el with
 |none=>grind
 |some ie=>
  simp[hi]at hsz hby
  cases hzz:ie.zero with
  |none=>grind
  |some z=>
   simp[hi,hzz]at hz;have hzc:z.cells.size=k:=by rw[<-hzl,<-hz];simp
   have hpos:0<es.length:=by grind
   obtain⟨v',w',cH,hown,hbl⟩:=og (P:=P) (w:=w) t o.type el ie z k by_ hu hi hzz hsz hby hzc hk A0 _ Ad es.length cp us hR hru.one h63 hbytes hpos;refine⟨v',w',?_,hbl,?_⟩
   ·simp only[execOp,ho,resolve,invoke,builtin,Sem.run_bind,Sem.run_pure,Result.andThen_ok,List.map_toArray,List.map_cons,List.map_nil,hA,hv,cH]
   ·have hcl:bj w' w.heap.size us es.flatten []:=(bj.flat hru hfl).keep (by simp)
    have:=bj.sl (vs:=[]) (ds:=[]) (f:=[]) hown hk hek hcl .nil (by
     rw[List.append_nil,List.append_nil]
     cases v'.ownBlock<;>simp)
    rwa [List.append_nil,List.append_nil]at this
theorem AO{X Y:Operand}{t el:TypeId}{k t2 k2:Nat}{c:AC}(ho:o.op=.call ⟨.builtin .append,#[X,Y],#[t,t]⟩)(ht:fL P t=some (el,k))(hX:yV (H.ev X)=true)(hY:H.ev Y=.p false [c])(hrd:zo H c (.sl t2 k2 []))(hrep:aB w0 N H a w E):
 (execOp a.eval o).run P w=.ok (.value (a.eval X)) w:=by
 obtain⟨A0,hA⟩:=AG hX (aL hrep X);have e2:=aL hrep Y;rw[hY]at e2;obtain⟨A1,c1,hv,_,_⟩:=(yG hrep (aC e2) hrd).slShape;obtain⟨hu,hsz⟩:=m6 ht;unfold dV at hsz
 cases hi:P.info? el with
 |none=>grind
 |some ie=>
  simp[hi]at hsz;have cH:=mX (P:=P) (w:=w) t o.type el ie k hu hi hsz A0 A1 c1;simp only[List.length_nil]at hv;simp only[execOp,ho,resolve,invoke,builtin,Sem.run_bind,Sem.run_pure,Result.andThen_ok,List.map_toArray,List.map_cons,List.map_nil,hA,hv,cH]
theorem JN{L:Nat->Option Nat}{c:Nat}{t:TypeId}{cs:List AC}{vals:List Value}{b off:Nat}{x:AV}(h:C4 P t cs=some x)(hc:ay w E L c cs vals)(ha:At w b off vals):
 ∃v,(∀w',w'.heap[b]? =w.heap[b]?->(Instr.loadAt t (.pointer (some ⟨b,off,none⟩))).run P w'=.ok v w')/\bc w E L c x v:=by
 unfold C4 at h;split at h
 ·rename_i hg;split at h
  ·rename_i k hk;split at h
   ·rename_i hl;injection h with h;subst h;have hlen:(vals.take k).length=k:=by rw[List.length_take,<-hc.1];omega
    refine⟨.agg (vals.take k).toArray,λw' hw=>qK P hg (by rw[hlen];exact hk) ?_,vals.take k,rfl,hc.take k⟩;have:=nP (i:=0) (k:=k) (ha.keep hw)
    assumption
   grind
  grind
 ·rename_i hg;split at h
  ·rename_i c0 r;injection h with h;subst h;obtain⟨u,us,rfl,h1,h2⟩:=hc.cons';exact⟨u,λw' hw=>qL P hg (by have:=(ha.keep hw) 0 u rfl;assumption),aJ h1⟩
  grind
 grind
theorem Ni{pr:Bool}{kd:HK}{x:AV}(hr:uv P pr h q o kd x q')(hal:dZ h H o.op.operands.toList)(hrep:aB w0 N H a w (E.plus m w.heap.size))(hA:∀b,E.A b->b<w.heap.size)(hm:m<=w.heap.size):
 o.wp P a w (S6 P m H.lv H.c o a w E kd x) (λ_ _ _=>False):=by
 rcases hr with⟨y,h1,rfl,rfl,-⟩|⟨f,args,ts,ys,res,ho,hmt,har,hdp,-,rfl,rfl,-⟩|⟨t,len,parts,el,k,es,esq,ho,-,ht,hz,hk,hl,hs,hf,-,rfl,rfl,-⟩|⟨t,cs,ho,-,hz,rfl,rfl,-⟩|⟨y,z,hpu,-,h1,-,rfl,rfl,-⟩|⟨X,Y,t,el,k,by_,c,t2,es,zs,res,ho,-,ht,hz,hzl,hk,hby,hX,hY,hrd,hne,hfl,h63,hbt,rfl,rfl,rfl,-⟩|⟨X,Y,t,el,k,c,t2,k2,ho,-,ht,hX,hY,hrd,rfl,rfl,-⟩|⟨f,args,ts,ys,r,ho,-,hmt,har,hro,rfl,rfl,-⟩
 ·rw[<-iU hal]at h1;refine Oper.wp_mono (λa' w' hp=>?_) (OH h1 w0 N a w _ hrep);obtain⟨v,E',rfl,hb,hext,hrep',hsl⟩:=hp;refine⟨v,[],rfl,hb,by simp,rfl,?_⟩;refine hsl.stay ⟨λb hbA=>⟨?_,rfl⟩,λi st _ hl=>⟨hl,?_⟩,Nat.le_refl _⟩
  ·have hlt:=hrep'.A_lt b hbA;rcases hext.A' b hbA with h2|h2
   ·exact h2.imp id λh2=>⟨h2.1,hlt⟩
   ·exact .inr ⟨by omega,hlt⟩
  ·have hin:i<H.n:=by
    grind[AS.lv]
   exact((hext.same i hin).1).symm
 ·have hdp':∀r∈res,r.2.2=true:=λr hx=>by grind
  unfold Oper.wp;rw[lh ho hmt.1,Oper.upon_enter];have har':gj H args.toList ys:=tg (hal.sub (λy hy=>by rw[ho];simp[Op.operands,Call.operands];grind)) har;refine(hmt.2 w (AM H (E.plus m w.heap.size)) _ (λb hb=>?_) (oY hrep har')).mono ?_
  ·rcases hb with hb|⟨i,hi,_,hb⟩
   ·exact hrep.A_lt b hb
   ·exact hrep.m_lt i hi b hb
  ·rintro e w' ⟨v,rfl,⟨vs,fs,hv,hl1,hl2,hnd,hrr⟩,hb⟩;have hq:bR w' w.heap.size (λ_=>False) vs res fs:=zd hl1 hl2 hrr (.inr hdp');refine⟨v,fs.flatten,rfl,hb,bR.blocks hdp' hq,⟨vs,fs,hv,bR.lo hm hdp' hq,rfl,hnd,hdp'⟩,?_⟩;exact yq (bR.parts (E:=E.plus m w'.heap.size) (b0:=w.heap.size) (λb h1 h2=>Or.inr ⟨by omega,h2⟩) hdp' hq) hv
 ·have hal':=hal;rw[ho,<-AX]at hal';rw[<-ut hal']at hf;obtain⟨hu,hsz⟩:=m6 ht;obtain⟨zs,hz⟩:=Option.isSome_iff_exists.1 hz;obtain⟨hl1,hl2⟩:=tH hf;obtain⟨hc1,hc2⟩:=El hrep hf
  have cH:(execOp a.eval o).run P w=.ok (.value (.slice (some ⟨w.heap.size,0,none⟩) len len)) (w.alloc (.cells (mj a parts.toList).toArray el)):=by
   unfold aU at hz;unfold dV at hsz
   cases hi:P.info? el with
   |none=>grind
   |some ie=>
    simp[hi]at hsz
    cases hzz:ie.zero with
    |none=>grind
    |some z=>
     rcases Nat.eq_zero_or_pos len with h0|h0
     ·subst h0
      obtain rfl:parts=#[]:=by
       have hp:parts.toList=[]:=List.eq_nil_of_length_eq_zero hl
       grind
      simp[execOp,ho,Instr.buildSlice,run_underlying hu,sizeOf,typeInfo,hi,hsz,Instr.fill,newRow,mj];rw[show Array.map (λ(_:Nat)=>(default:Value)) (Array.range 0)=#[]from Array.ext (by simp) (λi h1 h2=>by grind)]
     ·obtain⟨us,e1,e2⟩:=EH (w:=w) (a:=a) hrep (done:=[]) (rest:=((Array.range (len*k)).map (z.cells[· % z.cells.size]!)).toList) hf (by simp) (by grind)
      have hus:us=mj a parts.toList:=by
       have h1:=CI (a:=a) (k:=k) hrep hf (done:=[]) (rest:=((Array.range (len*k)).map (z.cells[· % z.cells.size]!)).toList) (by simp) (by grind)
       rw[e1]at h1
       grind
      subst hus
      have hr:=run_buildSlice (P:=P) w t el len (parts.map λx=>(x.1,a.eval x.2)) (mj a parts.toList).toArray ie z hu hi hzz (by rw[hsz];omega) (by rw[hsz];simp_all[Nat.ne_of_gt,Nat.mul_pos]) (by
       rw[hsz];have e3:=e1;rw[List.nil_append,List.nil_append,Array.toArray_toList]at e3
       rw[<-e3];simp)
      simp only[execOp,ho];rw[Sem.run_bind];rw[show(parts.map λ(x:Nat×Operand)=>match x with|(i,x)=>(i,a.eval x))=(parts.map λx=>(x.1,a.eval x.2))from rfl,hr];rfl
  unfold Oper.wp;rw[cH,Oper.upon_value];have hb:Below w.heap.size w (w.alloc (.cells (mj a parts.toList).toArray el)):=(Below.refl _ _).alloc (Nat.le_refl _) _;refine⟨_,[w.heap.size],rfl,hb,by simp,⟨w.heap.size,by rw[hl],rfl,hm,lZ.new _ _ _⟩,?_⟩;unfold sw;split
  ·rename_i hem;have:len=0:=by rw[<-hl,<-hl1];grind
   subst this;exact aJ ⟨_,rfl⟩
  split
  ·rename_i ds hds;have hc3:=hc1.stay (Av (m:=m) (L:=H.lv) (c:=H.c) hb hA);obtain⟨r1,r2,r3⟩:=KK hds hc3;refine aJ ?_;have hlen:ds.length=len:=by rw[r2,hl1,hl]
   rcases Nat.eq_zero_or_pos len with h0|h0
   ·have:ds=[]:=List.eq_nil_of_length_eq_zero (by omega)
    grind
   ·refine aH.sl (.inr ⟨hm,by simp⟩) hlen.symm h0 (Nat.le_refl _) ?_ hk (r3 k hl2) r1 ?_ .nil
    ·have:len*1<=len*k:=Nat.mul_le_mul_left _ hk;unfold maxLen;omega
    ·simpa using nS (lZ.new w el (mj a parts.toList).toArray) 0
  ·trivial
 ·unfold aW at hz;split at hz
  ·rename_i vs hz0;obtain⟨zz,e1,e2⟩:=An hz0 w
   have cH:(execOp a.eval o).run P w=.ok (.value (.pointer (some ⟨w.heap.size,0,none⟩))) (w.alloc (.cells vs.toArray t)):=by
    simp[execOp,ho,Instr.alloc,e1,newVar,newRow,e2]
   unfold Oper.wp;rw[cH,Oper.upon_value];have hb:Below w.heap.size w (w.alloc (.cells vs.toArray t)):=(Below.refl _ _).alloc (Nat.le_refl _) _;exact⟨_,[w.heap.size],rfl,hb,by simp,⟨w.heap.size,vs,rfl,rfl,hm,lZ.new _ _ _,λ_ _ _ _=>Bl hz⟩,trivial⟩
  grind
 ·have hal':=hal
  cases hop:o.op with
  |build t parts=>
   rw[<-iU hal,hop]at h1;simp only[pK]at h1;split at h1
   ·rename_i g1;split at h1
    ·rename_i zz g2;split at h1
     ·rename_i cs g3;injection h1 with h1;subst h1;obtain⟨us,b1,b2⟩:=pa (o:=o) g1 g2 g3 hrep;unfold Oper.wp;rw[uU hop b1 w,Oper.upon_value];exact⟨_,[],rfl,Below.refl _ _,by simp,⟨rfl,us,rfl,b1⟩,us,rfl,b2⟩
     grind
    grind
   grind
  |move u=>
   rw[hop]at h1 hal';simp only[pK,hV]at h1;injection h1 with h1;have e:=aL hrep u;rw[hal'.ev (x:=u) (by simp[Op.operands]),h1]at e;unfold Oper.wp;have cH:(execOp a.eval o).run P w=.ok (.value (a.eval u)) w:=by simp[execOp,hop]
   rw[cH,Oper.upon_value]
   exact⟨_,[],rfl,Below.refl _ _,by simp,⟨rfl,rfl⟩,e⟩
  |assign u=>
   rw[hop]at h1 hal';simp only[pK,hV]at h1;injection h1 with h1;have e:=aL hrep u;rw[hal'.ev (x:=u) (by simp[Op.operands]),h1]at e;unfold Oper.wp;have cH:(execOp a.eval o).run P w=.ok (.value (a.eval u)) w:=by simp[execOp,hop]
   rw[cH,Oper.upon_value]
   exact⟨_,[],rfl,Below.refl _ _,by simp,⟨rfl,rfl⟩,e⟩
  |extract u ix=>
   rw[hop]at h1 hal';simp only[pK,hV]at h1;have e:=aL hrep u;rw[hal'.ev (x:=u) (by simp[Op.operands])]at e;unfold J2 at h1;split at h1
   ·rename_i xs hxs;split at h1
    ·rename_i b cs hb;injection h1 with h1;subst h1;rw[hxs]at e;obtain⟨vs,e1,e2,e3⟩:=e;have hlt:ix<vs.length:=by rw[<-e2];grind
     have hg:=List.getElem?_eq_getElem hlt;unfold Oper.wp
     have cH:(execOp a.eval o).run P w=.ok (.value vs[ix]) w:=by
      simp[execOp,hop,e1,Instr.extract,hlt]
     rw[cH,Oper.upon_value];exact⟨_,[],rfl,Below.refl _ _,by simp,⟨rfl,vs,e1,hg⟩,e3 ix b cs _ hb hg⟩
    grind
   grind
  |load t u=>
   obtain⟨i,st,off,ty,cs,e1,e2⟩:=hpu.2 t u hop;rw[hop]at h1 hal';rw[<-iU hal']at h1;simp only[pK,hV]at h1;have eu:H.ev u=.p false [.ptr i st off]:=by rw[hal'.ev (x:=u) (by simp[Op.operands]),e1]
   have eo:H.own? i st=some (.var st ty cs):=by rw[<-e2];unfold AS.own?;rw[hal'.ob,hal'.n]
   obtain⟨hi,hob,hl⟩:=am eo;have ho:=hrep.obj i hi;rw[hob]at ho;obtain⟨g,vals,_,q1,q2,_,_,hB,hcs⟩:=ho;have ev:=aL hrep u;rw[eu]at ev;obtain⟨g',q3,q4⟩:=(aC ev).2 hl;rw[q1]at q3;injection q3 with q3;injection q3 with q3;injection q3 with q3;subst q3;have hlt:g<w.heap.size:=hrep.m_lt i hi g (by rw[q2];simp);rw[eu]at h1;simp only[zL,eo]at h1;obtain⟨v,hv,hs⟩:=JN h1 (hcs.drop off) (nS hB off)
   have cH:(execOp a.eval o).run P w=.ok (.value v) w:=by
    have:=hv w rfl;simp only[execOp,hop,q4];simp[this]
   unfold Oper.wp;rw[cH,Oper.upon_value]
   refine⟨v,[],rfl,Below.refl _ _,by simp,⟨rfl,λw' hw=>by rw[q4];exact hv w' (hw.block g hlt)⟩,hs⟩
  |_=>rw[hop]at hpu;cases hpu.1
 ·have hal':=hal;rw[ho]at hal';have eX:H.ev X=h.ev X:=hal'.ev (x:=X) (by simp[Op.operands,Call.operands]);have eY:H.ev Y=h.ev Y:=hal'.ev (x:=Y) (by simp[Op.operands,Call.operands]);rw[<-eX]at hX;rw[<-eY]at hY;have hrd':zo H c (.sl t2 k es):=by have:=uW hal' [c] [.sl t2 k es];simp_all[FQ,and_true]
  obtain⟨v',w',cH,hb,hown⟩:=Eg ho ht hz hzl hk hby hX hY hrd' hne hfl h63 hbt hrep;unfold Oper.wp;rw[cH,Oper.upon_value];have hq:bR w' w.heap.size (λ_=>False) [v'] [(false,[.sl el k es],true)] [v'.ownBlock.toList]:=⟨⟨[v'],rfl,hown⟩,trivial⟩;have hd':∀r∈[(false,[DV.sl el k es],true)],r.2.2=true:=by simp
  refine⟨v',v'.ownBlock.toList,rfl,hb,hown.blocks,⟨[v'],[v'.ownBlock.toList],rfl,bR.lo hm hd' hq,by simp,by cases v'.ownBlock<;>simp,hd'⟩,?_⟩;exact yq (bR.parts (E:=E.plus m w'.heap.size) (b0:=w.heap.size) (λb h1 h2=>Or.inr ⟨by omega,h2⟩) hd' hq) rfl
 ·have hal':=hal;rw[ho]at hal';have eX:H.ev X=h.ev X:=hal'.ev (x:=X) (by simp[Op.operands,Call.operands]);have eY:H.ev Y=h.ev Y:=hal'.ev (x:=Y) (by simp[Op.operands,Call.operands]);have hX':=hX;have hY':=hY;rw[<-eX]at hX';rw[<-eY]at hY';have hrd':zo H c (.sl t2 k2 []):=by have:=uW hal' [c] [.sl t2 k2 []];simp_all[FQ,and_true]
  have cH:=AO (P:=P) ho ht hX' hY' hrd' hrep;unfold Oper.wp;rw[cH,Oper.upon_value];have e:=aL hrep X;rw[eX]at e;exact⟨_,[],rfl,Below.refl _ _,by simp,⟨rfl,by rw[ho];exact⟨X,Y,rfl,rfl⟩⟩,e⟩
 ·unfold Oper.wp;rw[lh ho hmt.1,Oper.upon_enter];have har':gq H args.toList ys:=pS (hal.sub (λy hy=>by rw[ho];simp[Op.operands,Call.operands];grind)) har;refine(hmt.2 w (E.plus m w.heap.size).A _ (λb hb=>hrep.A_lt b hb) (l9 hrep har')).mono ?_;rintro e w' ⟨v,rfl,⟨vs,fs,hv,hl1,hl2,hnd,hrr⟩,hb⟩;refine⟨v,[],rfl,hb,by simp,rfl,?_⟩;have hv:vs=[v]:=by assumption
  subst hv
  match fs,hl2 with
  |[f0],_=>
   obtain⟨vals,h1,h2⟩:=hrr 0 v r f0 rfl rfl rfl;rw[hro]at h2;simp only[Bool.false_eq_true,if_false]at h2
   have h3:aH w' (E.plus m w'.heap.size).A vals r.2.1:=h2.2.mono λb hb'=>by
    have hs:=hb.size;rcases hb' with(h|h)|h
    ·exact .inl h
    ·exact .inr ⟨h.1,by omega⟩
    ·exact .inr ⟨by omega,h.2.1⟩
   exact yq (rs:=[r]) (vs:=[v]) (v:=v) ⟨mu h1 (ay.ofRep h3),trivial⟩ (by simp)
end
end Go.Proofs.Ytgdbmcoamemmaaa
namespace Go.Proofs.Ytgdbmcoamemmaaa
open Go.RowKit
def Vc:Option Bool->AV
 |some b=>.p false [.d (.sc (.bool b))]
 |none=>.tup []
def Jf(P:Program)(N:Nat)(pr:Bool)(ops:Array Oper)(h q:AS)(o:Oper)(kd:HK)(x:AV)(q':AS):Option (Nat×Bool)->Prop
 |none=>uv P pr h q o kd x q'
 |some (g,want)=>∃t b,jF ops g=some t/\t<N/\h.sl t=Vc b/\if b=some want then uv P pr h q o kd x q' else(kd=.v (.tup [])/\x=.tup []/\q'=q.put o.dst (j6 pr (.tup [])))
def iz(P:Program)(N:Nat)(pr:Bool)(ops:Array Oper):List Oper->AS->AS->List HK->List AV->AS->Prop
 |[],h,q,[],[],q'=>q'=q
 |o::r,h,q,kd::kds,x::xs,q'=>(∃d,o.dst=some d/\d<N)/\∃q1,Jf P N pr ops h q o kd x q1 o.guard/\iz P N pr ops r (h.put o.dst x) q1 kds xs q'
 |_,_,_,_,_,_=>False
def lG(s:AS):List Oper->List AV->AS
 |o::l,x::xs=>lG (s.put o.dst x) l xs
 |_,_=>s
def dJ(l:List Oper):List Nat:=l.filterMap (·.dst)
def de(q:AS)(ds:List Nat):AS:={q with sl:=λt=>if ds.contains t then .und else q.sl t}
section
variable {P:Program}{w0:Cx}{w w':World}{N m:Nat}{s h H q q':AS}{a:Act}{E:En}{o:Oper}{pr:Bool}{ops:Array Oper}
theorem lj:∀{l:List Oper} {xs:List AV} {s:AS},(lG s l xs).ob=s.ob/\(lG s l xs).n=s.n/\(lG s l xs).c=s.c
 |[],xs,s=>by cases xs<;>exact⟨rfl,rfl,rfl⟩
 |o::l,[],s=>⟨rfl,rfl,rfl⟩
 |o::l,x::xs,s=>by
  obtain⟨h1,h2,h3⟩:=lj (l:=l) (xs:=xs) (s:=s.put o.dst x);exact⟨h1.trans (AS.put_ob ..),h2.trans (AS.put_n ..),h3.trans (AS.put_c ..)⟩
theorem zR{d:Option Nat}{x:AV}{t:Nat}(h:d≠some t):(s.put d x).sl t=s.sl t:=by
 cases d with
 |none=>rfl
 |some d=>exact aE _ _ (λe=>h (by rw[e]))
theorem oV:∀{l:List Oper} {xs:List AV} {s:AS} {t:Nat},(∀o∈l,o.dst≠some t)->(lG s l xs).sl t=s.sl t
 |[],xs,s,t,_=>by cases xs<;>rfl
 |o::l,[],s,t,_=>rfl
 |o::l,x::xs,s,t,h=>by
  rw[lG,oV λo ho=>h o (List.mem_cons_of_mem _ ho)]
  grind[zR,List.mem_cons_self]
theorem u6:∀{l:List Oper} {xs:List AV} {s:AS} {t j:Nat} {o:Oper} {x:AV},(dJ l).Nodup->l[j]? =some o->xs[j]? =some x->o.dst=some t->(lG s l xs).sl t=x
 |[],xs,s,t,j,o,x,_,h,_,_=>by grind
 |o'::l,[],s,t,j,o,x,_,_,h,_=>by grind
 |o'::l,x'::xs,s,t,j,o,x,hnd,h1,h2,h3=>by
  rw[lG]
  have hnd':(dJ l).Nodup:=by
   grind[dJ,List.nodup_cons]
  cases j with
  |zero=>
   simp at h1 h2;subst h1 h2;rw[oV]
   ·rw[h3];exact ae _ _ _
   grind[dJ,List.nodup_cons]
  |succ j=>exact u6 hnd' (by simpa using h1) (by assumption) h3
theorem jz:∀{l:List Oper} {h q q':AS} {kds:List HK} {xs:List AV},iz P N pr ops l h q kds xs q'->∀(i:Nat) o,l[i]? =some o->∃kd x qi qi',kds[i]? =some kd/\xs[i]? =some x/\(∃d,o.dst=some d/\d<N)/\Jf P N pr ops (lG h (l.take i) xs) qi o kd x qi' o.guard
 |[],h,q,q',kds,xs,_,i,o,ho=>by grind
 |o'::l,h,q,q',[],xs,hh,i,o,ho=>hh.elim
 |o'::l,h,q,q',kd::kds,[],hh,i,o,ho=>hh.elim
 |o'::l,h,q,q',kd::kds,x::xs,hh,i,o,ho=>by
  obtain⟨hd,q1,h1,h2⟩:=hh
  cases i with
  |zero=>simp at ho;subst ho;exact⟨kd,x,q,q1,rfl,rfl,hd,h1⟩
  |succ i=>
   obtain⟨kd',x',qi,qi',k1,k2,k3,k4⟩:=jz h2 i o (by assumption)
   grind[lG]
def EE(P:Program)(m:Nat)(E:En)(L:Nat->Option Nat)(c:Nat)(a:Act)(w:World):List Oper->List HK->List AV->List (List Nat)->Prop
 |[],[],[],[]=>True
 |o::l,kd::kds,x::xs,f::fs=>(∀d,o.dst=some d->Df P m E L c a w (a.tmps.getD d undef) f kd/\bc w (E.plus m w.heap.size) L c x (a.tmps.getD d undef))/\EE P m E L c a w l kds xs fs
 |_,_,_,_=>False
def KN(ops:Array Oper):List Oper->Prop
 |[]=>True
 |o::r=>(∀t∈o.looksAt ops,t∉dJ (o::r))/\KN ops r
theorem uA{ds:List Nat}{x:Ob}:(de q ds).push x=de (q.push x) ds:=rfl
theorem yw{ds:List Nat}:∀{l:List Ob} {q:AS},(de q ds).pushL l=de (q.pushL l) ds
 |[],q=>rfl
 |x::l,q=>by rw[AS.pushL,AS.pushL,uA,yw]
theorem Bg(h:aB w0 N s a w E){sl':Nat->AV}(hs:∀t,bc w E s.lv s.c (sl' t) (a.tmps.getD t undef)):aB w0 N {s with sl:=sl'} a w E:=
 ⟨h.size,h.defers,h.bel,h.obj,hs,h.A_lt,h.A_m,h.A_o,h.mm,h.oo,h.m_lt,h.anc,h.mF,h.oF⟩
theorem EA{L L':Nat->Option Nat}{c c':Nat}{E1 E2:En}{x:AC}{u:Value}(h:dK w E1 L c x u)(hs:db x=true)(hL:∀i st,st<c->L' i=some st->L i=some st/\E2.v i=E1.v i)(hc:c<=c'):dK w E2 L' c' x u:=by
 cases x with
 |d y=>
  cases y with
  |sc v=>obtain⟨rfl,hv⟩:=aH.scOf h;exact aH.sc hv .nil
  |sl=>grind[db]
 |nil=>exact h
 |own i st=>exact⟨Nat.lt_of_lt_of_le h.1 hc,λhl=>by obtain⟨h1,h2⟩:=hL i st h.1 hl;rw[h2];exact h.2 h1⟩
 |ptr i st off=>exact⟨Nat.lt_of_lt_of_le h.1 hc,λhl=>by obtain⟨h1,h2⟩:=hL i st h.1 hl;rw[h2];exact h.2 h1⟩
 |elt i st kk j off=>exact⟨Nat.lt_of_lt_of_le h.1 hc,λhl=>by obtain⟨h1,h2⟩:=hL i st h.1 hl;rw[h2];exact h.2 h1⟩
 |sub i st kk lo n=>exact⟨Nat.lt_of_lt_of_le h.1 hc,λhl=>by obtain⟨h1,h2⟩:=hL i st h.1 hl;rw[h2];exact h.2 h1⟩
 |emp=>exact h
 |rd=>grind[db]
theorem Io{L L':Nat->Option Nat}{c c':Nat}{E2:En}{x:AV}{v:Value}(h:bc w E L c x v)(hL:∀i st,st<c->L' i=some st->L i=some st/\E2.v i=E.v i)(hc:c<=c')(hpr:pr=true->∀b,E.A b->E2.A b):bc w E2 L' c' (j6 pr x) v:=by
 unfold j6;split
 ·rename_i hp;exact h.stay ⟨λb hb=>⟨hpr hp b hb,rfl⟩,hL,hc⟩
 ·split
  ·rename_i b cs;split
   ·rename_i hall;obtain⟨vals,h1,h2⟩:=gv (show dM w E L c b cs v from h);exact mu h1 ⟨h2.1,λj x u hx hu=>EA (h2.2 j x u hx hu) (List.all_eq_true.1 hall x (List.mem_of_getElem? hx)) hL hc⟩
   ·trivial
  ·trivial
theorem Cy:∀{ds:List DV} {c b0:Nat} {vals:List Value} {f:List Nat},jQ false ds c=[]->bj w b0 vals ds f->f=[]
 |[],c,b0,vals,f,_,h=>by cases h;rfl
 |.sc v::ds,c,b0,vals,f,h,ho=>by cases ho with|sc _ ho=>exact Cy (show jQ false ds c=[]from h) ho
 |.sl t k es::ds,c,b0,vals,f,h,_=>by grind[jQ]
theorem AB{A:Nat->Prop}{b0:Nat}:∀{rs:List Rs} {vs:List Value} {fs:List (List Nat)} {c:Nat},(∀r∈rs,r.2.2=true)->cS false rs c=[]->bR w b0 A vs rs fs->fs.flatten=[]
 |[],[],[],_,_,_,_=>rfl
 |(b,ds,dp)::rs,v::vs,f::fs,c,hd,h,hq=>by
  have hdp:dp=true:=hd _ (List.mem_cons_self ..);subst hdp;simp only[cS,List.append_eq_nil_iff]at h;obtain⟨vals,_,h2⟩:=hq.1;have h2:bj w b0 vals ds f:=h2
  rw[List.flatten_cons,Cy h.1 h2,AB (λr hr=>hd r (List.mem_cons_of_mem _ hr)) h.2 hq.2];rfl
 |[],_::_,_,_,_,_,h=>by cases h
 |[],[],_::_,_,_,_,h=>by cases h
 |_::_,[],_,_,_,_,h=>by cases h
 |_::_,_::_,[],_,_,_,h=>by cases h
theorem pm{ds:List Nat}{d:Nat}{x:AV}(hd:d∉ds)(h:aB w0 N (de q (d::ds)) a w E)(hx:bc w E q.lv q.c x (a.tmps.getD d undef)):aB w0 N (de (q.put (some d) x) ds) a w E:=by
 have:=Bg h (sl':=λt=>if ds.contains t then .und else(q.put (some d) x).sl t) (λt=>?_)
 ·exact this
 ·split
  ·trivial
  ·rename_i ht;by_cases e:t=d
   ·subst e;simp only[AS.put,ae];exact hx
   ·simp only[AS.put,aE _ _ e];have:=h.slot t;simp_all[de,if_neg,List.contains_cons]
theorem gg{s0:AS}(hw:w0.heap.size<=m):∀{l:List Oper} {h q q':AS} {kds:List HK} {xs:List AV} {fs:List (List Nat)} {Eq:En},iz P N pr ops l h q kds xs q'->(dJ l).Nodup->KN ops l->EE P m E s0.lv s0.c a w l kds xs fs->
 aB w0 N (de q (dJ l)) a w Eq->(∀i st,st<s0.c->q.lv i=some st->s0.lv i=some st/\Eq.v i=E.v i)->s0.c<=q.c->(pr=true->∀b,(E.plus m w.heap.size).A b->Eq.A b)->
 fs.flatten.Nodup->(pr=true\/∀b∈fs.flatten,¬Eq.A b)->(∀b∈fs.flatten,b<w.heap.size/\∀j,j<q.n->b∉Eq.m j/\b∉Eq.o j)->∃E',aB w0 N q' a w E'
 |[],h,q,q',kds,xs,fs,Eq,hh,_,_,_,hr,_,_,_,_,_,_=>by
  cases kds with
  |cons=>exact hh.elim
  |nil=>cases xs with
   |cons=>exact hh.elim
   |nil=>
    obtain rfl:q'=q:=hh;refine⟨Eq,?_⟩;have:de q' (dJ [])=q':=by rfl
    rw[this]at hr;exact hr
 |o::l,h,q,q',[],xs,fs,Eq,hh,_,_,_,_,_,_,_,_,_,_=>hh.elim
 |o::l,h,q,q',kd::kds,[],fs,Eq,hh,_,_,_,_,_,_,_,_,_,_=>hh.elim
 |o::l,h,q,q',kd::kds,x::xs,[],Eq,hh,_,_,hfa,_,_,_,_,_,_,_=>hfa.elim
 |o::l,h,q,q',kd::kds,x::xs,f::fs,Eq,hh,hnd,hnf,hfa,hr,hL,hc,hpr,hfd,hfA,hff=>by
  obtain⟨⟨d,hd,hdN⟩,q1,hst,hh⟩:=hh;obtain⟨hfact,hfa⟩:=hfa;obtain⟨hfk,hsl⟩:=hfact d hd;have hds:dJ (o::l)=d::dJ l:=by grind[dJ]
  rw[hds]at hnd hr;have hdl:=(List.nodup_cons.1 hnd).1;have hnd':=(List.nodup_cons.1 hnd).2;rw[List.flatten_cons]at hfd hfA hff;have hfd':=List.nodup_append.1 hfd
  have caseV:∀y,bc w (E.plus m w.heap.size) s0.lv s0.c y (a.tmps.getD d undef)->q1=q.put o.dst (j6 pr y)->∃E',aB w0 N q' a w E':=by
   intro y hy e;subst e;rw[hd]at hh;have hsl:=Io (pr:=pr) (E2:=Eq) (L':=q.lv) (c':=q.c) hy (λi st h1 h2=>hL i st h1 h2) hc hpr;refine gg hw hh hnd' hnf.2 hfa (pm hdl hr hsl) (by rw[AS.put_lv];exact hL) (by rw[AS.put_c];exact hc) hpr hfd'.2.1 (hfA.imp id λh b hb=>h b (List.mem_append_right _ hb)) (λb hb=>by rw[AS.put_n];simp_all)
  have caseC:∀res:List Rs,res.all (·.2.2)=true->(pr=true->cS false res 0=[])->kd=.c res->q1=(q.pushL (cS false res q.c)).put o.dst (mL res q.n q.c)->∃E',aB w0 N q' a w E':=by
   intro res hdp hpo hkd e;subst hkd;subst e;rw[hd]at hh;have hdp':∀r∈res,r.2.2=true:=λr hx=>by grind
   obtain⟨vs,gs,hv,hq,rfl,hgn,_⟩:=hfk
   have hgA:∀b∈gs.flatten,¬Eq.A b:=by
    grind[AB,List.mem_append_left]
   obtain⟨E2,k1,k2,k3⟩:=B1 (b0:=m) hw res hr (λ_ h=>h.elim) hq hgn (λb hb=>⟨hgA b hb,(hff b (List.mem_append_left _ hb)).2⟩);have hc':(de q (d::dJ l)).c=q.c:=rfl;have hn':(de q (d::dJ l)).n=q.n:=rfl;rw[hc',hn']at k2;rw[hc']at k1 k3;rw[yw]at k1 k2 k3;rw[hn']at k3;obtain⟨p1,p2,p3,p4⟩:=iO (cS false res q.c) q
   have hlvn:∀i st,st<q.c->(q.pushL (cS false res q.c)).lv i=some st->q.lv i=some st/\i<q.n:=by
    intro i st hst hl;unfold AS.lv at hl;split at hl
    ·rename_i hi;by_cases hiq:i<q.n
     ·rw[p4 i hiq]at hl;unfold AS.lv;rw[if_pos hiq];exact⟨hl,hiq⟩
     ·obtain⟨st',h1,h2⟩:=uS _ q i (by omega) hi (tN false res q.c);rw[hl]at h1;injection h1 with h1;omega
    ·cases hl
   refine gg hw hh hnd' hnf.2 hfa (pm hdl k1 (tu k2 hv)) ?_ (by rw[AS.put_c,p2];omega) (λhp b hb=>k3.A b (hpr hp b hb)) hfd'.2.1 ?_ ?_
   ·intro i st hst hl;rw[AS.put_lv]at hl;obtain⟨h1,h2⟩:=hlvn i st (by omega) hl;obtain⟨h3,h4⟩:=hL i st hst h1;exact⟨h3,((k3.same i h2).1).trans h4⟩
   ·rcases hfA with hp|hA
    ·grind
    ·right;intro b hb hbA;rcases k3.A' b hbA with h1|h1
     ·grind
     grind
   ·intro b hb;obtain⟨g1,g2⟩:=hff b (List.mem_append_right _ hb);refine⟨g1,λj hj=>?_⟩;rw[AS.put_n]at hj;have hbg:b∉gs.flatten:=λhbg=>hfd'.2.2 b hbg b hb rfl
    by_cases hjq:j<q.n
    ·obtain⟨_,e2,e3⟩:=k3.same j hjq;rw[e2,e3];grind
    ·exact⟨λhm=>hbg (k3.new j (by omega) hj b (.inl hm)),λhm=>hbg (k3.new j (by omega) hj b (.inr hm))⟩
  have caseR:uv P pr h q o kd x q1->∃E',aB w0 N q' a w E':=by
   rintro(⟨y,_,rfl,rfl,e⟩|⟨fn,args,ts,ys,res,ho,hmt,_,hdp,hpo,rfl,rfl,e⟩|⟨t,len,parts,el,k,es,esq,ho,hp0,ht,hz,hk,hl,hs,_,hfq,rfl,rfl,e⟩|⟨t,cs,ho,hp0,hz,rfl,rfl,e⟩|⟨y,z,hpu,hp0,_,hz,rfl,rfl,e⟩|⟨X,Y,t,el,k,by_,c,t2,es,zs,res,ho,hp0,ht,hz,hzl,hk,hby,hX,hY,hrd,hne,hfl,h63,hbt,hres,rfl,rfl,e⟩|⟨X,Y,t,el,k,c,t2,k2,ho,hp0,ht,hX,hY,hrd,rfl,rfl,e⟩|⟨_,_,_,_,_,ho,hp0,_,_,_,rfl,rfl,e⟩)
   ·grind
   ·grind
   ·subst e;rw[hd]at hh;obtain⟨g,hv,rfl,hmg,hB⟩:=hfk;obtain⟨hg1,hg2⟩:=hff g (by simp)
    have hgA:¬Eq.A g:=by
     grind
    have hal:dZ q (de q (d::dJ l)) (parts.toList.map (·.2)):=by
     refine⟨rfl,rfl,λt' ht'=>?_⟩
     have h1:t'∈o.looksAt ops:=by
      unfold Oper.looksAt
      grind[AX]
     have h2:=hnf.1 t' h1;rw[hds]at h2;simp_all[de,if_neg]
    rw[<-ut hal]at hfq;obtain⟨c1,c2⟩:=El hr hfq;obtain⟨hl1,hl2⟩:=tH hfq
    have hpush:=hr.pushOb (X:=.arr q.c el k esq) (v':=.slice (some ⟨g,0,none⟩) parts.toList.length parts.toList.length) (m':=[g]) (o':=[]) rfl (Below.refl _ _)
     (λb hb=>by simp at hb;subst hb;exact⟨hg1,hgA,λj hj=>(hg2 j hj).1⟩) (by simp) (by simp) (by
      rintro E' rfl hstay
      have hmx:esq.length<=maxLen:=by
       have:len*1<=len*k:=Nat.mul_le_mul_left _ hk;rw[hl1,hl];unfold maxLen;omega
      refine⟨g,mj a parts.toList,by exact Nat.lt_succ_self _,?_,?_,?_,Nat.zero_le _,hmx,hB,hk,hl2,c1.stay hstay⟩
      ·grind[upd,ae]
      ·grind[upd,ae]
      grind[upd,ae]) (λb hb=>by simp at hb;subst hb;exact w0.hfr _ (Nat.le_trans hw hmg))
    rw[uA]at hpush;have hqn:(de q (d::dJ l)).n=q.n:=rfl;rw[hqn]at hpush;refine gg hw hh hnd' hnf.2 hfa (pm hdl hpush ?_) ?_ (by rw[AS.put_c];grind[AS.push]) (λhp b hb=>.inl (hpr hp b hb)) hfd'.2.1 ?_ ?_
    ·refine aJ ⟨by simp[AS.push],λ_=>?_⟩
     grind[ae]
    ·intro i st hst hl;rw[AS.put_lv]at hl;unfold AS.lv AS.push at hl;by_cases e:i=q.n
     ·grind[ae,Ob.st]
     ·simp only[aE _ _ e]at hl ⊢
      grind[AS.lv]
    ·grind
    grind[List.mem_append_right,AS.put_n,ae,aE,AS.push]
   ·subst e;rw[hd]at hh;obtain⟨g,vals,hv,rfl,hmg,hB,hcs⟩:=hfk;obtain⟨hg1,hg2⟩:=hff g (by simp)
    have hgA:¬Eq.A g:=by
     grind
    have hpush:=hr.pushOb (X:=.var q.c t cs) (v':=.pointer (some ⟨g,0,none⟩)) (m':=[g]) (o':=[]) rfl (Below.refl _ _)
     (λb hb=>by simp at hb;subst hb;exact⟨hg1,hgA,λj hj=>(hg2 j hj).1⟩) (by simp) (by simp) (by
      rintro E' rfl hstay;refine⟨g,vals,by exact Nat.lt_succ_self _,?_,?_,?_,Nat.zero_le _,hB,hcs _ _ _ _⟩
      ·grind[upd,ae]
      ·grind[upd,ae]
      grind[upd,ae]) (λb hb=>by simp at hb;subst hb;exact w0.hfr _ (Nat.le_trans hw hmg))
    rw[uA]at hpush;have hqn:(de q (d::dJ l)).n=q.n:=rfl;rw[hqn]at hpush;refine gg hw hh hnd' hnf.2 hfa (pm hdl hpush ?_) ?_ (by rw[AS.put_c];grind[AS.push]) (λhp b hb=>.inl (hpr hp b hb)) hfd'.2.1 ?_ ?_
    ·refine aJ ⟨by simp[AS.push],λ_=>?_⟩
     grind[ae]
    ·intro i st hst hl;rw[AS.put_lv]at hl;unfold AS.lv AS.push at hl;by_cases e:i=q.n
     ·grind[ae,Ob.st]
     ·simp only[aE _ _ e]at hl ⊢
      grind[AS.lv]
    ·grind
    grind[List.mem_append_right,AS.put_n,ae,aE,AS.push]
   ·subst e;rw[hd]at hh;obtain⟨rfl,hpv⟩:=hfk
    have hev:∀u,u∈o.op.operands.toList->bc w Eq q.lv q.c (q.ev u) (a.eval u):=by
     intro u hu
     have hal:dZ q (de q (d::dJ l)) [u]:=by
      refine⟨rfl,rfl,λt' ht'=>?_⟩;have ht':Operand.tmp t'=u:=by grind
      have h1:t'∈o.looksAt ops:=by
       unfold Oper.looksAt
       grind
      have h2:=hnf.1 t' h1;rw[hds]at h2;simp_all[de,if_neg]
     have e:=aL hr u;rw[hal.ev (List.mem_cons_self ..)]at e;exact e
    have hsz:bc w Eq q.lv q.c z (a.tmps.getD d undef):=by
     cases hop:o.op with
     |build t parts=>
      have hal:dZ q (de q (d::dJ l)) o.op.operands.toList:=by
       refine⟨rfl,rfl,λt' ht'=>?_⟩
       have h1:t'∈o.looksAt ops:=by
        unfold Oper.looksAt
        grind
       have h2:=hnf.1 t' h1;rw[hds]at h2;simp_all[de,if_neg]
      rw[<-iU hal]at hz;rw[hop]at hz hpv;obtain⟨us,u1,u2⟩:=hpv;simp only[pK]at hz;split at hz
      ·rename_i g1;split at hz
       ·rename_i zz g2;split at hz
        ·rename_i cs g3;injection hz with hz;subst hz;obtain⟨us',b1,b2⟩:=pa (o:=o) g1 g2 g3 hr;rw[u2]at b1;injection b1 with b1;have b1:us=us':=by grind
         subst b1;rw[u1];exact⟨us,rfl,b2⟩
        grind
       grind
      grind
     |move u=>
      rw[hop]at hz hpv hev;simp only[pK,hV]at hz;injection hz with hz;have hpv:a.tmps.getD d undef=a.eval u:=hpv;rw[hpv,<-hz]
      exact hev u (by simp[Op.operands])
     |assign u=>
      rw[hop]at hz hpv hev;simp only[pK,hV]at hz;injection hz with hz;have hpv:a.tmps.getD d undef=a.eval u:=hpv;rw[hpv,<-hz]
      exact hev u (by simp[Op.operands])
     |extract u ix=>
      rw[hop]at hz hpv hev;simp only[pK,hV]at hz;have e:=hev u (by simp[Op.operands]);obtain⟨vs,e1,e2⟩:=(show∃vs:List Value,a.eval u=.tuple vs.toArray/\vs[ix]? =some (a.tmps.getD d undef)from hpv);unfold J2 at hz;split at hz
      ·rename_i xs' hxs;split at hz
       ·rename_i b cs hb;injection hz with hz;subst hz;rw[hxs]at e;obtain⟨vs',f1,f2,f3⟩:=e;rw[e1]at f1;injection f1 with f1;have f1:vs=vs':=by grind
        subst f1;exact f3 ix b cs _ hb e2
       grind
      grind
     |load t u=>
      have hal:dZ q (de q (d::dJ l)) o.op.operands.toList:=by
       refine⟨rfl,rfl,λt' ht'=>?_⟩
       have h1:t'∈o.looksAt ops:=by
        unfold Oper.looksAt
        grind
       have h2:=hnf.1 t' h1;rw[hds]at h2;simp_all[de,if_neg]
      rw[<-iU hal]at hz;obtain⟨v,r1,r2⟩:=Gq hz _ _ _ _ _ hr;rw[hop]at hpv;have hpv:∀w',Below w.heap.size w w'->(Instr.loadAt t (a.eval u)).run P w'=.ok (a.tmps.getD d undef) w':=hpv;have r3:=hpv w (Below.refl _ _)
      have:v=a.tmps.getD d undef:=by
       simp only[execOp,hop]at r1;simp_all
      rw[<-this];exact r2
     |_=>rw[hop]at hpu;cases hpu.1
    refine gg hw hh hnd' hnf.2 hfa (pm hdl hr hsz) (by rw[AS.put_lv];exact hL) (by rw[AS.put_c];exact hc) hpr hfd'.2.1 (hfA.imp id λh b hb=>h b (List.mem_append_right _ hb)) (λb hb=>by rw[AS.put_n];grind)
   ·grind
   ·subst e;rw[hd]at hh;obtain⟨rfl,hpv⟩:=hfk;rw[ho]at hpv;obtain⟨X',Y',hXY,hva⟩:=hpv;have hXX:X'=X:=by grind
    subst hXX
    have hsz:bc w Eq q.lv q.c (q.ev X') (a.tmps.getD d undef):=by
     have hal:dZ q (de q (d::dJ l)) [X']:=by
      refine⟨rfl,rfl,λt' ht'=>?_⟩;have ht':Operand.tmp t'=X':=by grind
      have h1:t'∈o.looksAt ops:=by
       unfold Oper.looksAt;exact List.mem_append_left _ (List.mem_filterMap.2 ⟨.tmp t',by rw[ho,ht'];simp[Op.operands,Call.operands],rfl⟩)
      have h2:=hnf.1 t' h1;rw[hds]at h2;simp_all[de,if_neg]
     have e:=aL hr X';rw[hal.ev (List.mem_cons_self ..)]at e;rw[hva];exact e
    refine gg hw hh hnd' hnf.2 hfa (pm hdl hr hsz) (by rw[AS.put_lv];exact hL) (by rw[AS.put_c];exact hc) hpr hfd'.2.1 (hfA.imp id λh b hb=>h b (List.mem_append_right _ hb)) (λb hb=>by rw[AS.put_n];grind)
   grind
  cases hgd:o.guard with
  |none=>rw[hgd]at hst;exact caseR hst
  |some gw=>
   rw[hgd]at hst;obtain⟨t,b,_,_,_,hb⟩:=hst
   grind
end
end Go.Proofs.Ytgdbmcoamemmaaa
namespace Go.Proofs.Ytgdbmcoamemmaaa
open Go.RowKit
section
variable {P:Program}{w0:Cx}{ws w w':World}{N m n:Nat}{s h H q q' qF:AS}{a:Act}{E:En}{o:Oper}{pr:Bool}{l:List Oper}{kds:List HK}{xs:List AV}{Q:Exit->AS->Prop}
def HO(l:List Oper)(n:Nat)(listed:Array Bool):List Nat:=(List.range n).filterMap λj=>if listed.getD j false then(l[j]?).bind (·.dst)else none
theorem fH{listed:Array Bool}{t:Nat}:t∈HO l n listed↔∃j o,j<n/\listed.getD j false=true/\l[j]? =some o/\o.dst=some t:=by
 grind[HO]
def Ug:Op->Bool
 |.call ⟨.value _,_,_⟩=>false
 |.call ⟨.builtin .append,_,_⟩=>false
 |.alloc _=>false
 |.buildSlice _ _ _=>false
 |_=>true
def Rj(l:List Oper)(n:Nat):Prop:=∀o∈l.take n,Ug o.op=true
theorem zg{pr:Bool}{h q q':AS}{kd:HK}{x:AV}(hr:uv P pr h q o kd x q')(hp:Ug o.op=true):∃y,pK P h o.op=some y:=by
 have hb:∀y,pK P h o.op=some y->pK P h o.op=some y:=λ_ h=>h
 rcases hr with⟨y,h1,_⟩|⟨f,args,ts,ys,res,ho,_⟩|⟨t,len,parts,el,k,es,esq,ho,_⟩|⟨t,cs,ho,_⟩|⟨y,z,_,_,h1,_⟩|⟨_,_,_,_,_,_,_,_,_,_,_,ho,_⟩|⟨_,_,_,_,_,_,_,_,ho,_⟩|⟨_,_,_,_,_,ho,_⟩
 ·grind
 ·rw[ho]at hp;cases hp
 ·rw[ho]at hp;cases hp
 ·rw[ho]at hp;cases hp
 ·grind
 ·rw[ho]at hp;cases hp
 ·rw[ho]at hp;cases hp
 ·rw[ho]at hp;cases hp
structure BT(P:Program)(w0:Cx)(ws:World)(N m n:Nat)(s:AS)(E:En)(l:List Oper)(kds:List HK)(xs:List AV)(listed:Array Bool)(a:Act)(w:World)(fs:Nat->List Nat):Prop where
 rep:aB w0 N (de s (HO l n listed)) a w E
 le:m<=w.heap.size
 fact:∀j o d kd x,j<n->listed.getD j false=true->l[j]? =some o->o.dst=some d->kds[j]? =some kd->xs[j]? =some x->Df P m E s.lv s.c a w (a.tmps.getD d undef) (fs j) kd/\bc w (E.plus m w.heap.size) s.lv s.c x (a.tmps.getD d undef)
 blk:∀j,j<n->listed.getD j false=true->∀b∈fs j,m<=b/\b<w.heap.size
 dis:∀i j,i<n->j<n->listed.getD i false=true->listed.getD j false=true->i≠j->∀b∈fs i,b∉fs j
 bl:Rj l n->w.heap=ws.heap
theorem Gg(h:aB w0 N s a w E)(hw:w0.heap.size<=m)(hm:∀i,i<s.n->∀b∈E.m i,b<m):aB w0 N s a w (E.plus m w.heap.size):=by
 have hst:fh w E s.lv s.c w (E.plus m w.heap.size) s.lv s.c:=⟨λb hb=>⟨.inl hb,rfl⟩,λi st _ h=>⟨h,rfl⟩,Nat.le_refl _⟩;refine⟨h.size,h.defers,h.bel,λi hi=>(h.obj i hi).stay hst rfl rfl rfl (λ_ _=>rfl) (λb hb=>h.A_o i hi b hb),λt=>(h.slot t).stay hst,λb hb=>?_,λb hb i hi hbm=>?_,λi hi b hb=>.inl (h.A_o i hi b hb),h.mm,h.oo,h.m_lt,λb hb=>?_,h.mF,h.oF⟩
 ·rcases hb with hb|hb
  ·exact h.A_lt b hb
  omega
 ·rcases hb with hb|hb
  ·exact h.A_m b hb i hi hbm
  ·have:=hm i hi b hbm;omega
 ·rcases hb with hb|hb
  ·exact h.anc b hb
  ·exact .inr (w0.hfr b (Nat.le_trans hw hb.1))
theorem D8:∀{ls:List (List Nat)},(∀f∈ls,f.Nodup)->ls.Pairwise (λx y=>∀b∈x,b∉y)->ls.flatten.Nodup
 |[],_,_=>by simp
 |f::ls,h1,h2=>by
  rw[List.flatten_cons];rw[List.pairwise_cons]at h2
  grind[List.nodup_append,List.mem_cons_self,List.mem_cons_of_mem,List.mem_flatten]
theorem EB{L:Nat->Option Nat}{c:Nat}{v:Value}{f:List Nat}{kd:HK}(h:Df P m E L c a w v f kd):f.Nodup:=by
 cases kd with
 |v x=>obtain rfl:f=[]:=h;grind
 |c res=>obtain⟨vs,fs,_,_,rfl,hn,_⟩:=h;exact hn
 |b el k parts=>obtain⟨g,_,rfl,_⟩:=h;simp
 |a t cs=>obtain⟨g,_,_,rfl,_⟩:=h;simp
 |p op=>obtain⟨rfl,_⟩:=h;grind
theorem oN{d t:Nat}{v:Value}(h:t≠d):(a.put (some d) v).tmps.getD t undef=a.tmps.getD t undef:=by
 simp[Act.put,Array.getElem?_setIfInBounds_ne (Ne.symm h)]
theorem Lr{d:Nat}{v:Value}(h:d<a.tmps.size):(a.put (some d) v).tmps.getD d undef=v:=by
 simp[Act.put,h]
theorem ei{d:Nat}{v:Value}{x:Operand}(h:x≠.tmp d):(a.put (some d) v).eval x=a.eval x:=by
 cases x with
 |tmp t=>exact oN (λe=>h (by rw[e]))
 |_=>rfl
theorem Le{d:Nat}{v:Value}{parts:List (Nat×Operand)}(h:∀x∈parts,x.2≠.tmp d):mj (a.put (some d) v) parts=mj a parts:=by
 grind[mj,List.map_congr_left,ei]
def Lp:HK->List Operand
 |.b _ _ parts=>parts.map (·.2)
 |.p op=>op.operands.toList
 |_=>[]
theorem Dq{pr:Bool}{h q q':AS}{o:Oper}{kd:HK}{x:AV}(hr:uv P pr h q o kd x q'):∀y∈Lp kd,y∈o.op.operands.toList:=by
 intro y hy;rcases hr with⟨_,_,rfl,_⟩|⟨_,_,_,_,_,_,_,_,_,_,rfl,_⟩|⟨t,len,parts,el,k,es,esq,ho,_,_,_,_,_,_,_,_,rfl,_⟩|⟨_,_,_,_,_,rfl,_⟩|⟨_,_,_,_,_,_,rfl,_⟩|⟨_,_,_,_,_,_,_,_,_,_,_,_,_,_,_,_,_,_,_,_,_,_,_,_,_,_,rfl,_⟩|⟨_,_,_,_,_,_,_,_,_,_,_,_,_,_,rfl,_⟩|⟨_,_,_,_,_,_,_,_,_,_,rfl,_⟩
 ·cases hy
 ·cases hy
 ·rw[ho,<-AX];exact hy
 ·cases hy
 ·exact hy
 ·cases hy
 ·exact hy
 ·cases hy
theorem CB{ops:Array Oper}(h:aB w0 N s a w E){g t:Nat}{b:Option Bool}(hg:jF ops g=some t)(hs:s.sl t=Vc b)(ht:t<N):yielded ops a.tmps g=b:=by
 cases b with
 |some b=>exact qf h hg hs ht
 |none=>
  have:=h.slot t;rw[hs]at this;obtain⟨vs,h1,h2,-⟩:=this;obtain rfl:vs=[]:=List.length_eq_zero_iff.1 h2.symm;unfold yielded;unfold jF at hg;rw[hg];have hz:t<a.tmps.size:=by rw[h.size];exact ht
  simp_all
theorem Dn{pr:Bool}{ops:Array Oper}{h q q':AS}{o:Oper}{kd:HK}{x:AV}(hst:Jf P N pr ops h q o kd x q' o.guard):∀y∈Lp kd,y∈o.op.operands.toList:=by
 cases hgd:o.guard with
 |none=>rw[hgd]at hst;exact Dq hst
 |some gw=>
  rw[hgd]at hst;obtain⟨t,b,_,_,_,hbb⟩:=hst;split at hbb
  ·exact Dq hbb
  ·intro y hy;rw[hbb.1]at hy;cases hy
theorem KA{w2:World}(h:Below w.heap.size w w')(k:Below w'.heap.size w' w2):Below w.heap.size w w2:=
 ⟨k.os.trans h.os,k.tape.trans h.tape,k.output.trans h.output,Nat.le_trans h.size k.size,λb hb=>(k.block b (Nat.lt_of_lt_of_le hb h.size)).trans (h.block b hb)⟩
theorem GJ{d:Nat}{u v:Value}{op:Op}(h:FC P w a v op)(hb:Below w.heap.size w w')(hp:∀x∈op.operands.toList,x≠.tmp d):FC P w' (a.put (some d) u) v op:=by
 cases op with
 |load t x=>
  intro w2 h2;rw[ei (hp x (by simp[Op.operands]))]
  exact h w2 (KA hb h2)
 |build t parts=>
  obtain⟨us,e1,e2⟩:=h;refine⟨us,e1,?_⟩;rw[<-e2];congr 2;refine Array.map_congr_left λx hx=>?_
  rw[ei (hp x.2 (by simp only[Op.operands,Array.toList_map,List.mem_map];grind))]
 |move x=>show v=_;rw[ei (hp x (by simp[Op.operands]))];exact h
 |assign x=>show v=_;rw[ei (hp x (by simp[Op.operands]))];exact h
 |extract x ix=>obtain⟨vs,e1,e2⟩:=h;exact⟨vs,by rw[ei (hp x (by simp[Op.operands]))];exact e1,e2⟩
 |call c=>
  obtain⟨callee,args,ts⟩:=c;unfold FC at h ⊢;split at h
  ·grind
  ·grind
  ·grind
  ·grind
  ·grind
  ·rename_i heq;injection heq with heq;injection heq with e1 e2 e3;subst e1 e2 e3;obtain⟨X,Y,rfl,e⟩:=h;exact⟨X,Y,rfl,by rw[ei (hp X (by simp[Op.operands,Call.operands]))];exact e⟩
  assumption
 |_=>cases h
theorem Ax{L:Nat->Option Nat}{c:Nat}{v u:Value}{f:List Nat}{kd:HK}{d:Nat}(h:Df P m E L c a w v f kd)(hb:Below w.heap.size w w')(hp:∀x∈Lp kd,x≠.tmp d):Df P m E L c (a.put (some d) u) w' v f kd:=by
 cases kd with
 |v x=>exact h
 |c res=>obtain⟨vs,fs,h1,h2,h3,h4,h5⟩:=h;exact⟨vs,fs,h1,bR.keep (λb hbb=>hb.block b hbb) h5 h2,h3,h4,h5⟩
 |b el k parts=>obtain⟨g,h1,h2,h3,h4⟩:=h;exact⟨g,h1,h2,h3,by rw[Le (λx hx=>hp x.2 (List.mem_map.2 ⟨x,hx,rfl⟩))];exact h4.keep hb⟩
 |a t cs=>obtain⟨g,vals,h1,h2,h3,h4,h5⟩:=h;exact⟨g,vals,h1,h2,h3,h4.keep hb,h5⟩
 |p op=>exact⟨h.1,GJ h.2 hb hp⟩
def mA(l:List Oper)(n:Nat):Bool:=BL .any l n&&decide ((dJ (l.take n)).Nodup)
theorem i9(hB:BL .any l n=true){i j:Nat}{oi oj:Oper}{t:Nat}(hi:i<n)(hoi:l[i]? =some oi)(hj:j<n)(hoj:l[j]? =some oj)(hd:oj.dst=some t)(ht:t∈oi.looksAt l.toArray):j<i/\Region.waitsFor .any l.toArray i j=true:=by
 obtain⟨_,_,_,_,h5⟩:=cJ hB;obtain⟨h6,h7⟩:=h5 i oi hi hoi;have hw:=h7 j oj hj hoj t hd ht;obtain⟨oi',hoi',e,he,hb,hon⟩:=Region.waitsFor_spec hw;have:oi'=oi:=Option.some.inj (hoi'.symm.trans (by grind))
 grind
theorem CQ:∀{l:List Oper} {ops:Array Oper},(∀(i j:Nat) oi oj t,l[i]? =some oi->l[j]? =some oj->oj.dst=some t->t∈oi.looksAt ops->j<i)->KN ops l
 |[],_,_=>trivial
 |o::l,ops,h=>by
  refine⟨λt ht hm=>?_,CQ λi j oi oj t h1 h2 h3 h4=>?_⟩
  ·unfold dJ at hm;obtain⟨oj,hoj,hd⟩:=List.mem_filterMap.1 hm;obtain⟨j,hj,rfl⟩:=List.mem_iff_getElem.1 hoj;have:=h 0 j o _ t rfl (List.getElem?_eq_getElem hj) hd ht;omega
  ·have:=h (i+1) (j+1) oi oj t (by assumption) (by assumption) h3 h4;omega
theorem As{L:Nat->Option Nat}{c:Nat}:∀{l:List Oper} {kds:List HK} {xs:List AV} {fs:List (List Nat)},kds.length=l.length->xs.length=l.length->fs.length=l.length->
 (∀(j:Nat) o d kd x f,l[j]? =some o->o.dst=some d->kds[j]? =some kd->xs[j]? =some x->fs[j]? =some f->Df P m E L c a w (a.tmps.getD d undef) f kd/\bc w (E.plus m w.heap.size) L c x (a.tmps.getD d undef))->EE P m E L c a w l kds xs fs
 |[],[],[],[],_,_,_,_=>trivial
 |o::l,kd::kds,x::xs,f::fs,h1,h2,h3,h=>by
  refine⟨λd hd=>h 0 o d kd x f rfl hd rfl rfl rfl,As (by grind) (by grind) (by grind) λj o d kd x f a1 a2 a3 a4 a5=>h (j+1) o d kd x f (by assumption) a2 (by assumption) (by assumption) (by assumption)⟩
 |[],_::_,_,_,h1,_,_,_=>by grind
 |[],_,_::_,_,_,h2,_,_=>by grind
 |[],_,_,_::_,_,_,h3,_=>by grind
 |_::_,[],_,_,h1,_,_,_=>by grind
 |_::_,_,[],_,_,h2,_,_=>by grind
 |_::_,_,_,[],_,_,h3,_=>by grind
theorem iV:∀{l:List Oper} {ops:Array Oper} {h q q':AS} {kds:List HK} {xs:List AV},iz P N pr ops l h q kds xs q'->kds.length=l.length/\xs.length=l.length
 |[],_,_,_,_,[],[],_=>⟨rfl,rfl⟩
 |o::l,_,_,_,_,kd::kds,x::xs,h=>by obtain⟨_,q1,_,h⟩:=h;obtain⟨h1,h2⟩:=iV h;grind
 |[],_,_,_,_,_::_,_,h=>h.elim
 |[],_,_,_,_,[],_::_,h=>h.elim
 |_::_,_,_,_,_,[],_,h=>h.elim
 |_::_,_,_,_,_,_::_,[],h=>h.elim
theorem GU{d1:List Nat}(h:aB w0 N (de s d1) a w E){d2:List Nat}(hs:∀t∈d1,t∈d2):aB w0 N (de s d2) a w E:=by
 refine h.weaken (s':=de s d2) (Nat.le_refl _) (Nat.le_refl _) (λ_ _=>.inl rfl) (λt=>?_)
 grind[de]
def dh(P:Program)(md:Region.Mode)(ops:Array Oper)(Q:Exit->Act->World->Prop)(J:Array Bool->Act->World->Prop):Nat->Array Bool->Act->World->Prop
 |0,listed,a,w=>J listed a w/\Region.ready md ops listed=[]/\Q .normal a w
 |fuel+1,listed,a,w=>J listed a w/\(Region.ready md ops listed=[]->Q .normal a w)/\∀i∈Region.ready md ops listed,wpOp P ops Q i (λa' w'=>dh P md ops Q J fuel (listed.setIfInBounds i true) a' w') a w
theorem yU{md:Region.Mode}{ops:Array Oper}{Q:Exit->Act->World->Prop}{J:Array Bool->Act->World->Prop}:∀(fuel:Nat) (listed:Array Bool) (a:Act) (w:World),dh P md ops Q J fuel listed a w->wpAny P md ops Q fuel listed a w
 |0,_,_,_,h=>h.2
 |fuel+1,_,_,_,h=>⟨h.2.1,λi hi=>wpOp_mono (λa' w' h'=>yU fuel _ a' w' h') (h.2.2 i hi)⟩
theorem qo{md:Region.Mode}{ops:Array Oper}{Q:Exit->Act->World->Prop}{J:Array Bool->Act->World->Prop}(hJt:∀(listed:Array Bool) a w,(∀j,j<n->listed.getD j false=true)->J listed a w):
 ∀(fuel:Nat) (listed:Array Bool) (a:Act) (w:World),(∀j,j<n->listed.getD j false=true)->wpAny P md ops Q fuel listed a w->dh P md ops Q J fuel listed a w
 |0,_,_,_,hl,h=>⟨hJt _ _ _ hl,h⟩
 |fuel+1,listed,_,_,hl,h=>⟨hJt _ _ _ hl,h.1,λi hi=>wpOp_mono (λa' w' h'=>qo hJt fuel _ a' w' (λj hj=>by
  by_cases e:i=j
  ·subst e
   have hlt:i<listed.size:=by
    grind
   simp[hlt]
  simp_all) h') (h.2 i hi)⟩
theorem xt(hB:BL .any l n=true)(hnd:(dJ (l.take n)).Nodup)(hh:iz P N pr l.toArray (l.take n) s s kds xs qF)(hw:w0.heap.size<=m)(hEm:∀i,i<s.n->∀b∈E.m i,b<m)(hEA:∀b,E.A b->b<m)
 (htail:lk P N l.toArray (l.drop n) Q qF) {J:Array Bool->Act->World->Prop} (hJt:∀(listed:Array Bool) a w,(∀j,j<n->listed.getD j false=true)->J listed a w)
 (a:Act) (w:World) (fs:Nat->List Nat) (hI:BT P w0 ws N m n s E l kds xs (cF n (l.length-n)) a w fs):dh P .any l.toArray (AQ w0 N Q) J (l.length-n) (cF n (l.length-n)) a w:=by
 obtain⟨hsel,hnl,hsink,hseq,hdep⟩:=cJ hB;obtain⟨hkl,hxl⟩:=iV hh;have htl:(l.take n).length=n:=by rw[List.length_take];omega
 rw[htl]at hkl hxl
 have hall:∀j,j<n->(cF n (l.length-n)).getD j false=true:=by
  simp_all[cF,Array.getElem?_append]
 rw[show dh P .any l.toArray (AQ w0 N Q) J (l.length-n)=dh P .any l.toArray (AQ w0 N Q) J (l.drop n).length from by simp];refine qo hJt _ _ _ _ (by assumption) (wpAny_of_seq (l.drop n) n _ _ w (λj=>by grind) (by grind) ?_)
 have hrep:aB w0 N (de s (dJ (l.take n))) a w E:=by
  refine GU hI.rep λt ht=>?_
  obtain⟨j,o,hj,_,ho,hd⟩:=fH.1 ht;exact List.mem_filterMap.2 ⟨o,List.mem_of_getElem? (i:=j) (by rw[List.getElem?_take,if_pos hj];exact ho),hd⟩
 have hfl:∀b,b∈((List.range n).map fs).flatten↔∃j,j<n/\b∈fs j:=by
  grind
 have hfin:=gg (E:=E) (a:=a) (w:=w) (s0:=s) (fs:=(List.range n).map fs) (Eq:=if pr then E.plus m w.heap.size else E) hw hh hnd ?_ ?_ ?_ ?_ (Nat.le_refl _) ?_ ?_ ?_ ?_
 ·obtain⟨E',hr'⟩:=hfin;exact htail w0 a w E' hr'
 ·grind[CQ,i9]
 ·refine As (by rw[hkl,htl]) (by rw[hxl,htl]) (by grind) λj o d kd x f h1 h2 h3 h4 h5=>?_
  rw[List.getElem?_take]at h1;split at h1
  ·rename_i hj;have:f=fs j:=by grind
   subst this;exact hI.fact j o d kd x hj (hall j hj) h1 h2 h3 h4
  grind
 ·cases pr with
  |true=>exact Gg hrep hw hEm
  |false=>grind
 ·intro i st _ hl;refine⟨hl,?_⟩;cases pr<;>rfl
 ·grind
 ·refine D8 (λf hf=>?_) ?_
  ·obtain⟨j,hj,rfl⟩:=List.mem_map.1 hf;have hj:=List.mem_range.1 hj;obtain⟨kd,x,_,_,h1,h2,⟨d,hd,_⟩,_⟩:=jz hh j l[j] (by rw[List.getElem?_take,if_pos hj];grind);exact EB (hI.fact j _ d kd x hj (hall j hj) (List.getElem?_eq_getElem (by omega)) hd h1 h2).1
  ·rw[List.pairwise_map]
   have hpw:(List.range n).Pairwise (· ≠ ·):=List.nodup_range
   refine List.Pairwise.imp_of_mem (fun{i j} hi hj hne=>?_) hpw;intro b hb1 hb2;exact hI.dis i j (List.mem_range.1 hi) (List.mem_range.1 hj) (hall i (List.mem_range.1 hi)) (hall j (List.mem_range.1 hj)) hne b hb1 hb2
 ·cases pr with
  |true=>grind
  |false=>
   right;intro b hb hbA;obtain⟨j,hj,hbj⟩:=(hfl b).1 hb;have h1:=hI.blk j hj (hall j hj) b hbj;have h2:=hEA b hbA;omega
 ·intro b hb;obtain⟨j,hj,hbj⟩:=(hfl b).1 hb;have h1:=hI.blk j hj (hall j hj) b hbj;refine⟨h1.2,λi hi=>⟨λhm=>?_,λhm=>?_⟩⟩
  ·have:b∈E.m i:=by cases pr<;>exact hm
   have:=hEm i hi b this;omega
  ·have:b∈E.o i:=by cases pr<;>exact hm
   have:=hEA b (hI.rep.A_o i hi b this);omega
theorem kB(hB:BL .any l n=true)(hnd:(dJ (l.take n)).Nodup)(hh:iz P N pr l.toArray (l.take n) s s kds xs qF)(hw:w0.heap.size<=m)(hEm:∀i,i<s.n->∀b∈E.m i,b<m)(hEA:∀b,E.A b->b<m)
 {J:Array Bool->Act->World->Prop} (hJ:∀listed a w fs,HeadInv .any l.toArray n listed->BT P w0 ws N m n s E l kds xs listed a w fs->J listed a w)
 (htail:∀a w fs,BT P w0 ws N m n s E l kds xs (cF n (l.length-n)) a w fs->dh P .any l.toArray (AQ w0 N Q) J (l.length-n) (cF n (l.length-n)) a w):
 ∀(f:Nat) (listed:Array Bool) (a:Act) (w:World) (fs:Nat->List Nat),HP n listed=f->HeadInv .any l.toArray n listed->BT P w0 ws N m n s E l kds xs listed a w fs->dh P .any l.toArray (AQ w0 N Q) J (f+(l.length-n)) listed a w:=by
 obtain⟨hsel,hnl,hsink,hseq,hdep⟩:=cJ hB;obtain⟨hkl,hxl⟩:=iV hh;have htl:(l.take n).length=n:=by rw[List.length_take];omega
 rw[htl]at hkl hxl;intro f
 induction f with
 |zero=>
  grind[Ek]
 |succ f ih=>
  intro listed a w fs hu inv hI
  have hex:∃i,i<n/\listed.getD i false=false:=by
   apply Classical.byContradiction
   grind[List.range,List.filter_eq_nil_iff,HP]
  have hsz:listed.size=l.length:=by rw[inv.size];simp
  obtain⟨i0,hi0,hun0⟩:=hex
  have hready:Region.ready .any l.toArray listed≠[]:=by
   have:∀k i,i<=k->i<n->listed.getD i false=false->∃j,j∈Region.ready .any l.toArray listed:=by
    intro k
    induction k with
    |zero=>
     intro i hik hin hun;obtain rfl:i=0:=by omega
     have hlt:0<l.length:=by omega
     refine⟨0,mem_ready.2 ⟨getD_in (by omega) hun,l[0],by grind,λe he hb=>?_⟩⟩;have:=(hdep 0 l[0] hin (List.getElem?_eq_getElem hlt)).1 e he hb
     omega
    |succ k ihk=>
     intro i hik hin hun;have hlt:i<l.length:=by omega
     by_cases hall:∀j,j<i->listed.getD j false=true
     ·exact⟨i,mem_ready.2 ⟨getD_in (by omega) hun,l[i],by grind,λe he hb=>hall _ ((hdep i l[i] hin (List.getElem?_eq_getElem hlt)).1 e he hb)⟩⟩
     grind
   obtain⟨j,hj⟩:=this i0 i0 (Nat.le_refl _) hi0 hun0
   grind
  rw[show f+1+(l.length-n)=(f+(l.length-n))+1 from by omega];refine⟨hJ _ _ _ _ inv hI,λh=>absurd h hready,λi hi=>?_⟩
  have hin:i<n:=by
   obtain⟨_,oi,hoi,_⟩:=mem_ready.1 hi
   have hil:i<l.length:=by
    have:=(Array.getElem?_eq_some_iff.1 hoi).1;assumption
   rcases hsink with rfl|⟨hlt,hs,hc⟩
   ·omega
   ·rcases Nat.lt_or_ge i n with h|h
    ·exact h
    ·exact absurd hi (tail_waits hs hc (by assumption) inv _ i0 rfl hi0 (getD_in (by omega) hun0) i h)
  obtain⟨hun,oi,hoi,hall⟩:=mem_ready.1 hi;have hoil:l[i]? =some oi:=by grind
  have hilt:i<l.length:=(List.getElem?_eq_some_iff.1 hoil).1;obtain⟨kd,x,qi,qi',hkd,hx,⟨d,hd,hdN⟩,hstp⟩:=jz hh i oi (by rw[List.getElem?_take,if_pos hin];omega);have htt:(l.take n).take i=l.take i:=by rw[List.take_take,Nat.min_eq_left (by omega)]
  rw[htt]at hstp
  have hlook:∀t∈oi.looksAt l.toArray,bc w (E.plus m w.heap.size) s.lv s.c ((lG s (l.take i) xs).sl t) (a.tmps.getD t undef):=by
   intro t ht;by_cases hex:∃j oj,j<n/\l[j]? =some oj/\oj.dst=some t
   ·obtain⟨j,oj,hj,hoj,hdj⟩:=hex;obtain⟨hji,hwt⟩:=i9 hB hin hoil hj hoj hdj ht
    have hlj:listed.getD j false=true:=by
     obtain⟨oi',hoi',e,he,hb,hon⟩:=Region.waitsFor_spec hwt;have:oi'=oi:=Option.some.inj (hoi'.symm.trans hoi)
     grind
    have hjx:j<xs.length:=by omega
    have hjk:j<kds.length:=by omega
    have hs:=(hI.fact j oj t _ _ hj hlj hoj hdj (List.getElem?_eq_getElem hjk) (List.getElem?_eq_getElem hjx)).2
    have hnd':(dJ (l.take i)).Nodup:=by
     have:l.take n=l.take i++(l.take n).drop i:=by rw[<-htt,List.take_append_drop]
     rw[this]at hnd;unfold dJ at hnd;rw[List.filterMap_append]at hnd;exact(List.nodup_append.1 hnd).1
    rw[u6 hnd' (by rw[List.getElem?_take,if_pos hji];omega) (List.getElem?_eq_getElem hjx) hdj];exact hs
   ·have hout:(lG s (l.take i) xs).sl t=s.sl t:=by
     refine oV λo ho hdo=>?_
     obtain⟨j,hj,rfl⟩:=List.mem_iff_getElem.1 ho;have hji:j<i:=by grind
     exact hex ⟨j,_,by omega,by rw[List.getElem?_eq_getElem (by omega)],by rw[List.getElem_take]at hdo;omega⟩
    rw[hout];have:=hI.rep.slot t;simp only[de]at this
    rw[if_neg (by
     simp only[List.contains_iff_mem];intro hm;obtain⟨j,o,hj,_,ho,hdo⟩:=fH.1 hm
     grind)]at this
    exact this.stay ⟨λb hb=>⟨.inl hb,rfl⟩,λi st _ h=>⟨h,rfl⟩,Nat.le_refl _⟩
  obtain⟨ha1,ha2,ha3⟩:=lj (l:=l.take i) (xs:=xs) (s:=s)
  have hrepH:aB w0 N {s with sl:=λt=>if(oi.looksAt l.toArray).contains t then(lG s (l.take i) xs).sl t else .und} a w (E.plus m w.heap.size):=by
   have hg:=Gg hI.rep hw hEm
   have:=Bg hg (sl':=λt=>if(oi.looksAt l.toArray).contains t then(lG s (l.take i) xs).sl t else .und) (λt=>by
    split
    ·rename_i ht;exact hlook t (by grind)
    ·trivial)
   exact this
  have hal:dZ (lG s (l.take i) xs) {s with sl:=λt=>if(oi.looksAt l.toArray).contains t then(lG s (l.take i) xs).sl t else .und} oi.op.operands.toList:=by
   refine⟨ha1.symm,ha2.symm,λt ht=>?_⟩;have:t∈oi.looksAt l.toArray:=List.mem_append_left _ (List.mem_filterMap.2 ⟨.tmp t,ht,rfl⟩)
   grind
  have hIA:∀b,E.A b->b<w.heap.size:=λb hb=>Nat.lt_of_lt_of_le (hEA b hb) hI.le
  have hnext:∀v w' f',Below w.heap.size w w'->(∀b∈f',w.heap.size<=b/\b<w'.heap.size)->Df P m E s.lv s.c a w' v f' kd->bc w' (E.plus m w'.heap.size) s.lv s.c x v->(Rj l n->w'.heap=w.heap)->
   dh P .any l.toArray (AQ w0 N Q) J (f+(l.length-n)) (listed.setIfInBounds i true) (a.put oi.dst v) w':=by
   intro v w' f' hb hf' hfa hsl hpw;have hlt:i<listed.size:=by omega
   have hcount:=qa (λk=>!listed.getD k false) (λk=>!(listed.setIfInBounds i true).getD k false)
    (λk hk=>by
     by_cases e:i=k
     ·grind
     simp_all)
    (List.range n) i (List.mem_range.2 hin) (by grind) (by simp[hlt]) List.nodup_range
    (λk hk hne=>by rw[getD_set_ne false (Ne.symm hne)];exact hk)
   have hset:∀j,(listed.setIfInBounds i true).getD j false=true->j=i\/listed.getD j false=true:=by
    intro j hj;by_cases e:i=j
    ·omega
    simp_all
   have hundne:∀j oj,j<n->listed.getD j false=true->l[j]? =some oj->oj.dst≠some d:=by
    intro j oj hj hlj hoj hdj;have hne:j≠i:=λe=>by grind
    have key:∀{l':List Oper} {p q:Nat} {op oq:Oper} {t:Nat},(dJ l').Nodup->l'[p]? =some op->l'[q]? =some oq->op.dst=some t->oq.dst=some t->p=q:=by
     intro l'
     induction l' with
     |nil=>grind
     |cons z l' ih=>
      intro p q op oq t hn h1 h2 h3 h4
      have hn':(dJ l').Nodup:=by
       unfold dJ at hn ⊢;rw[List.filterMap_cons]at hn;split at hn
       ·exact hn
       ·exact(List.nodup_cons.1 hn).2
      have hz:∀(y:Oper),z.dst=some t->y∈l'->y.dst≠some t:=by
       intro y hzt hy hyt;unfold dJ at hn;rw[List.filterMap_cons,hzt]at hn;exact(List.nodup_cons.1 hn).1 (List.mem_filterMap.2 ⟨y,hy,hyt⟩)
      cases p with
      |zero=>cases q with
       |zero=>rfl
       |succ q=>simp at h1 h2;subst h1;exact absurd h4 (hz oq h3 (List.mem_of_getElem? h2))
      |succ p=>cases q with
       |zero=>simp at h1 h2;subst h2;exact absurd h3 (hz op h4 (List.mem_of_getElem? h1))
       |succ q=>exact congrArg (· +1) (ih hn' (by assumption) (by assumption) h3 h4)
    exact hne (key hnd (by rw[List.getElem?_take,if_pos hj];omega) (by rw[List.getElem?_take,if_pos hin];omega) hdj hd)
   refine ih _ _ w' (λj=>if j=i then f' else fs j) ?_ (inv.set hi hin) ⟨?_,Nat.le_trans hI.le hb.size,?_,?_,?_,λhp=>(hpw hp).trans (hI.bl hp)⟩
   ·grind[HP]
   ·have h1:=(hI.rep.world' hb).put (d:=oi.dst) (x:=.und) (v:=v) trivial (λk hk=>by have e:=Option.some.inj (hd.symm.trans hk);rw[<-e];omega);refine h1.weaken (s':=de s (HO l n (listed.setIfInBounds i true))) (by rw[AS.put_n];exact Nat.le_refl _) (by rw[AS.put_c];exact Nat.le_refl _) (λj _=>.inl (by rw[AS.put_ob];rfl)) (λt=>?_);simp only[de];by_cases ht:t∈HO l n (listed.setIfInBounds i true)
    ·grind
    ·left;rw[if_neg (by grind)];have htd:oi.dst≠some t:=λe=>ht (fH.2 ⟨i,oi,hin,by simp[hlt],hoil,e⟩)
     rw[zR htd];simp only[de]
     rw[if_neg (by
      simp only[List.contains_iff_mem];intro hm;obtain⟨j,oj,hj,hlj,hoj,hdj⟩:=fH.1 hm;refine ht (fH.2 ⟨j,oj,hj,?_,hoj,hdj⟩);by_cases e:i=j
      ·grind
      simp_all)]
   ·intro j oj dj kdj xj hj hlj hoj hdj hkdj hxj;by_cases e:j=i
    ·subst e;have:oj=oi:=Option.some.inj (hoj.symm.trans hoil);subst this;rw[hd]at hdj;injection hdj with hdj;subst hdj;rw[hkd]at hkdj;injection hkdj with hkdj;subst hkdj;rw[hx]at hxj;injection hxj with hxj;subst hxj;rw[hd,Lr (by rw[hI.rep.size];omega),if_pos rfl];refine⟨?_,hsl⟩;refine Ax hfa (Below.refl _ _) ?_;intro y hy hyt;have hop:Operand.tmp d∈oj.op.operands.toList:=hyt▸Dn hstp y hy;have hlk:d∈oj.looksAt l.toArray:=List.mem_append_left _ (List.mem_filterMap.2 ⟨.tmp d,hop,rfl⟩);have:=(i9 hB hin hoil hin hoil hd hlk).1;omega
    ·have hlj':listed.getD j false=true:=(hset j hlj).resolve_left e;obtain⟨g1,g2⟩:=hI.fact j oj dj kdj xj hj hlj' hoj hdj hkdj hxj;have hne:dj≠d:=λe'=>hundne j oj hj hlj' hoj (by rw[hdj,e'])
     rw[hd,oN hne,if_neg e];refine⟨Ax g1 hb ?_,g2.stay (Av hb hIA)⟩;intro y hy hyt
     have hop:Operand.tmp d∈oj.op.operands.toList:=by
      obtain⟨kd',x',qj,qj',h1,h2,_,hst⟩:=jz hh j oj (by rw[List.getElem?_take,if_pos hj];omega);rw[hkdj]at h1;grind[Dn]
     have hlk:d∈oj.looksAt l.toArray:=List.mem_append_left _ (List.mem_filterMap.2 ⟨.tmp d,hop,rfl⟩);obtain⟨_,hwt⟩:=i9 hB hj hoj hin hoil hd hlk;obtain⟨oj',hoj',ed,he,hbd,hon⟩:=Region.waitsFor_spec hwt;have:oj'=oj:=Option.some.inj (hoj'.symm.trans (by grind));subst this;have:=inv.closed j oj' hoj' hlj' ed he hbd;rw[hon,getD_both hun]at this;grind
   ·intro j hj hlj b hbj;by_cases e:j=i
    ·rw[if_pos e]at hbj;have:=hf' b hbj;have:=hI.le;omega
    ·rw[if_neg e]at hbj;have h1:=hI.blk j hj ((hset j hlj).resolve_left e) b hbj;have:=hb.size;omega
   ·intro p q' hp hq hlp hlq hne b hbp hbq;by_cases e1:p=i
    ·by_cases e2:q'=i
     ·omega
     ·rw[if_pos e1]at hbp;rw[if_neg e2]at hbq;have h1:=hf' b hbp;have h2:=hI.blk q' hq ((hset q' hlq).resolve_left e2) b hbq;omega
    ·by_cases e2:q'=i
     ·rw[if_neg e1]at hbp;rw[if_pos e2]at hbq;have h1:=hf' b hbq;have h2:=hI.blk p hp ((hset p hlp).resolve_left e1) b hbp;omega
     ·rw[if_neg e1]at hbp;rw[if_neg e2]at hbq;exact hI.dis p q' hp hq ((hset p hlp).resolve_left e1) ((hset q' hlq).resolve_left e2) hne b hbp hbq
  have cH:uv P pr (lG s (l.take i) xs) qi oi kd x qi'->oi.wp P a w (λa' w'=>dh P .any l.toArray (AQ w0 N Q) J (f+(l.length-n)) (listed.setIfInBounds i true) a' w') (AQ w0 N Q):=by
   intro hr;have hk:=Ni hr hal hrepH hIA hI.le
   have hk2:oi.wp P a w (λa' w'=>S6 P m s.lv s.c oi a w E kd x a' w'/\(Rj l n->w'.heap=w.heap)) (λ_ _ _=>False):=by
    by_cases hp:Rj l n
    ·obtain⟨y,hy⟩:=zg hr (hp oi (List.mem_of_getElem? (i:=i) (by rw[List.getElem?_take,if_pos hin];omega)));obtain⟨v,hv,-⟩:=Gq (by rw[iU hal];exact hy) _ _ _ _ _ hrepH;unfold Oper.wp at hk ⊢;rw[hv,Oper.upon_value]at hk ⊢;exact⟨hk,λ_=>rfl⟩
    ·exact Oper.wp_mono (λa' w' h=>⟨h,λh'=>absurd h' hp⟩) hk
   refine Oper.wp_mono2 (λa' w' hp=>?_) hk2;obtain⟨⟨v,f',rfl,hb,hf',hfa,hsl⟩,hpw⟩:=hp
   grind
  unfold wpOp;simp only[hoi]
  cases hgd:oi.guard with
  |none=>
   rw[hgd]at hstp;rw[if_pos (by simp[Region.wanted,hgd])]
   exact .inl (cH hstp)
  |some gw=>
   obtain⟨g,want⟩:=gw;rw[hgd]at hstp;obtain⟨t,b,hgs,htN,hsb,hbb⟩:=hstp
   have hlk:t∈oi.looksAt l.toArray:=by
    unfold Oper.looksAt
    grind[List.mem_append_right,jF]
   have hy:yielded l.toArray a.tmps g=b:=CB (s:={s with sl:=λt=>if(oi.looksAt l.toArray).contains t then(lG s (l.take i) xs).sl t else .und}) hrepH hgs (by grind) htN;split at hbb
   ·rename_i hw;subst hw;rw[if_pos (by simp[Region.wanted,hgd,hy])]
    grind
   ·rename_i hw;rw[if_neg (by simp[Region.wanted,hgd,hy,hw])];obtain⟨rfl,rfl,-⟩:=hbb;exact hnext undef w [] (Below.refl _ _) (by simp) rfl ⟨[],rfl,rfl,λj b cs u h _=>by grind⟩ (λ_=>rfl)
theorem JL(n:Nat)(pr:Bool)(hB:mA l n=true)(hh:iz P N pr l.toArray (l.take n) s s kds xs qF)(htail:lk P N l.toArray (l.drop n) Q qF){w0:Cx}{a:Act}{w:World}{E:En}(hr:aB w0 N s a w E):
 wpAny P .any l.toArray (AQ w0 N Q) l.toArray.size (Array.replicate l.toArray.size false) a w:=by
 unfold mA at hB;rw[Bool.and_eq_true,decide_eq_true_eq]at hB;obtain⟨hB,hnd⟩:=hB;have hnl:=(cJ hB).2.1
 have hu:HP n (Array.replicate l.toArray.size false)=n:=by
  unfold HP
  have:(List.range n).filter (λi=>!(Array.replicate l.toArray.size false).getD i false)=List.range n:=by
   rw[List.filter_eq_self];intro i _;rw[getD_replicate_false];rfl
  rw[this];simp
 have hr':aB w0 N s a w E:=hr
 have h:=yU _ _ _ _<|kB (J:=λ_ _ _=>True) (m:=w.heap.size) (E:=E) hB hnd hh hr'.bel.size (λi hi b hb=>hr'.m_lt i hi b hb) hr'.A_lt (λ_ _ _ _ _ _=>trivial) (xt hB hnd hh hr'.bel.size (λi hi b hb=>hr'.m_lt i hi b hb) hr'.A_lt htail (λ_ _ _ _=>trivial)) n (Array.replicate l.toArray.size false) a w (λ_=>[]) hu
  ⟨by simp,λj oj _ hl=>(by rw[getD_replicate_false]at hl;cases hl),λt _ ht=>getD_in (by grind) (getD_replicate_false _ _)⟩
  ⟨by
   have:HO l n (Array.replicate l.toArray.size false)=[]:=by
    rw[List.eq_nil_iff_forall_not_mem];intro t ht;obtain⟨j,o,_,hl,_⟩:=fH.1 ht;rw[getD_replicate_false]at hl;cases hl
   rw[this];have e:de s []=s:=by rfl
   rw[e];omega,Nat.le_refl _,λj o d kd x _ hl=>(by rw[getD_replicate_false]at hl;cases hl),λj _ hl=>(by rw[getD_replicate_false]at hl;cases hl),λi j _ _ hl=>(by rw[getD_replicate_false]at hl;cases hl),λ_=>rfl⟩
 rw[show l.toArray.size=n+(l.length-n)from by grind];rw[show(Array.replicate l.toArray.size false)=Array.replicate (n+(l.length-n)) false from by grind]at h;exact h
end
end Go.Proofs.Ytgdbmcoamemmaaa
namespace Go.Proofs.Ytgdbmcoamemmaaa
open Go.RowKit
theorem QR(b:Bool)(cs:List AC):j6 false (.p b cs)=if cs.all db then .p b cs else .und:=rfl
theorem O7(xs:List (Bool×List AC)):j6 false (.tup xs)=.und:=rfl
theorem Pv:j6 false .und=.und:=rfl
theorem GH(x:AV):j6 true x=x:=rfl
theorem Ph(c t k:Nat)(es:List (List DV)):zD false c t k es=.row c t k es true:=rfl
theorem OJ(c t k:Nat)(es:List (List DV)):zD true c t k es=.dx c (.sl t k es):=rfl
def dS(N:Nat):Option Nat->Bool
 |some d=>decide (d<N)
 |none=>false
def Tl(K:AS->AS->Prop)(pr:Bool)(d:Option Nat)(h q:AS):Option AV->Prop
 |some y=>K (h.put d y) (q.put d (j6 pr y))
 |none=>False
def HC(P:Program)(pr:Bool)(o:Oper)(K:AS->AS->Prop)(h q:AS):Prop:=∃kd x q',uv P pr h q o kd x q'/\K (h.put o.dst x) q'
def HZ(K:AS->AS->Prop)(d:Option Nat)(h q:AS)(el k:Nat):Option (List (List AC))->Option (List (List AC))->Prop
 |some es,some esq=>K (h.put d (sw el k es)) ((q.push (.arr q.c el k esq)).put d (.p false [.own q.n q.c]))
 |_,_=>False
def QL(P:Program)(K:AS->AS->Prop)(pr:Bool)(d:Option Nat)(h q:AS)(len:Nat)(parts:List (Nat×Operand)):Option (TypeId×Nat)->Prop
 |some (el,k)=>(pr=false/\(aU P el).isSome=true/\0<k/\parts.length=len/\len*k<=16777216)/\HZ K d h q el k (vx h k parts 0) (vx q k parts 0)
 |none=>False
def PC(P:Program)(pr:Bool)(o:Oper)(K:AS->AS->Prop)(h q:AS)(args:List Operand)(ts:List TypeId):Callee->Prop
 |.builtin .len=>Tl K pr o.dst h q (uK P h (.builtin .len) args ts)
 |_=>HC P pr o K h q
def Uy(K:AS->AS->Prop)(pr:Bool)(d:Option Nat)(h q:AS)(t:TypeId):Option (List AC)->Prop
 |some cs=>pr=false/\K (h.put d .und) ((q.push (.var q.c t cs)).put d (.p false [.ptr q.n q.c 0]))
 |none=>False
def Ux(K:AS->AS->Prop)(pr:Bool)(d:Option Nat)(h q:AS):Option AV->Option AV->Prop
 |some y,some z=>K (h.put d y) (q.put d (if pr then y else z))
 |_,_=>False
def LZ(P:Program)(pr:Bool)(o:Oper)(K:AS->AS->Prop)(h q:AS):Op->Prop
 |.call c=>PC P pr o K h q c.args.toList c.argTypes.toList c.callee
 |.buildSlice t len parts=>QL P K pr o.dst h q len parts.toList (fL P t)
 |.build t parts=>Tl K pr o.dst h q (pK P h (.build t parts))
 |.alloc t=>Uy K pr o.dst h q t (aW P t)
 |.move x=>Ux K pr o.dst h q (some (h.ev x)) (some (q.ev x))
 |.extract x ix=>Ux K pr o.dst h q (J2 ix (h.ev x)) (J2 ix (q.ev x))
 |op=>Tl K pr o.dst h q (hV P h op)
def UA(P:Program)(pr:Bool)(o:Oper)(K:AS->AS->Prop)(h q:AS)(want:Bool):AV->Prop
 |.p false [.d (.sc (.bool b))]=>if b=want then LZ P pr o K h q o.op else K (h.put o.dst (.tup [])) (q.put o.dst (j6 pr (.tup [])))
 |.tup []=>K (h.put o.dst (.tup [])) (q.put o.dst (j6 pr (.tup [])))
 |_=>False
def Pi(P:Program)(N:Nat)(pr:Bool)(o:Oper)(K:AS->AS->Prop)(h q:AS)(want:Bool):Option Nat->Prop
 |some t=>t<N/\UA P pr o K h q want (h.sl t)
 |none=>False
def UY(P:Program)(N:Nat)(pr:Bool)(ops:Array Oper)(o:Oper)(K:AS->AS->Prop)(h q:AS):Option (Nat×Bool)->Prop
 |none=>LZ P pr o K h q o.op
 |some (g,want)=>Pi P N pr o K h q want (jF ops g)
def Uq(P:Program)(N:Nat)(pr:Bool)(ops:Array Oper):List Oper->(AS->Prop)->AS->AS->Prop
 |[],K,h,q=>K q
 |o::r,K,h,q=>dS N o.dst=true/\UY P N pr ops o (Uq P N pr ops r K) h q o.guard
section
variable {P:Program}{N:Nat}{pr:Bool}{s h q:AS}{o:Oper}{K:AS->AS->Prop}{ops:Array Oper}
end
attribute[go_sem] zo.eq_5 zo.eq_6 yI.eq_5 kX.eq_6 kX.eq_7 rJ.eq_4 rJ.eq_5 C8.eq_7 C8.eq_8 db.eq_7 db.eq_8 List.isEmpty_cons List.isEmpty_nil
attribute[go_sem] aw.eq_1 aw.eq_2 aw.eq_3 aw.eq_4 aw.eq_5 aw.eq_6 aw.eq_7 aw.eq_8 T7.eq_1 T7.eq_2 UI.eq_1 UI.eq_2
attribute[go_sem] Lt.eq_1 Lt.eq_2 Lt.eq_3 Lt.eq_4 Lt.eq_5 Lt.eq_6 Lt.eq_7 Lt.eq_8 kV.eq_1 kV.eq_2 Nc.eq_1 Nc.eq_2
attribute[go_sem] OI.eq_1 OI.eq_2 Jb.eq_1 Jb.eq_2 QY.eq_1 QY.eq_2 UU.eq_1 UU.eq_2 PQ.eq_1 PQ.eq_2 Us.eq_1 Us.eq_2
attribute[go_sem] Ur.eq_1 Ur.eq_2 kG.eq_1 kG.eq_2 UM.eq_1 UM.eq_2 kC.eq_1 kC.eq_2 QC.eq_1 QC.eq_2 Hw.eq_1 Hw.eq_2
attribute[go_sem] dB.eq_1 dB.eq_2 hV.eq_1 hV.eq_2 hV.eq_3 hV.eq_4 hV.eq_5 hV.eq_6 hV.eq_7 hV.eq_8 hV.eq_9 hV.eq_10
attribute[go_sem] hV.eq_11 hV.eq_12 hV.eq_13 hV.eq_14 hV.eq_15 RG.eq_1 RG.eq_2 zL.eq_1 zL.eq_2 zL.eq_3 zL.eq_4 C4.eq_1 C4.eq_2 Ng.eq_1 ND.eq_1
attribute[go_sem] ND.eq_2 ND.eq_3 Ct.eq_1 Ct.eq_2 Em xb.eq_1 xb.eq_2 xb.eq_3 xb.eq_4 xb.eq_5 xb.eq_6 dP.eq_1 dP.eq_2
attribute[go_sem] dP.eq_3 dP.eq_4 dP.eq_5 dP.eq_6 dP.eq_7 dP.eq_8 dP.eq_9 dP.eq_10 dP.eq_11 dP.eq_12 dP.eq_13 dP.eq_14
attribute[go_sem] dP.eq_15 dP.eq_16 dP.eq_17 sA.eq_1 sA.eq_2 sA.eq_3 sA.eq_4 sA.eq_5 sA.eq_6 sA.eq_7 sA.eq_8 Rp.eq_1
attribute[go_sem] Rp.eq_2 N8.eq_1 N8.eq_2 N8.eq_3 Lu.eq_1 Lu.eq_2 Ls N4.eq_1 N4.eq_2 N4.eq_3 Rw.eq_1 Rw.eq_2 J2.eq_1
attribute[go_sem] J2.eq_2 uK.eq_1 uK.eq_2 kX.eq_1 kX.eq_2 kX.eq_3 kX.eq_4 kX.eq_5 rJ.eq_1 rJ.eq_2 rJ.eq_3 mv.eq_1
attribute[go_sem] AS.evI.eq_1 AS.evI.eq_2 AS.ev.eq_1 AS.ev.eq_2 AS.ev.eq_3 Ub.eq_1 J5.eq_1 J5.eq_2 J5.eq_3 J5.eq_4 J5.eq_5 AS.own?.eq_1
attribute[go_sem] AS.put.eq_1 AS.put.eq_2 AS.pushL.eq_1 AS.pushL.eq_2 cP.eq_1 cP.eq_2 cP.eq_3 C8.eq_1 C8.eq_2 C8.eq_3 C8.eq_4 C8.eq_5
attribute[go_sem] C8.eq_6 iC.eq_1 iC.eq_2 vx.eq_1 vx.eq_2 Ob.st.eq_1 Ob.st.eq_2 Ob.st.eq_3 Ob.st.eq_4 Ob.st.eq_5 Ob.st.eq_6 E6.eq_1 E6.eq_2
attribute[go_sem] Rh.eq_1 Rh.eq_2 dy.eq_1 dy.eq_2 dy.eq_3 pT.eq_1 pT.eq_2 pT.eq_3 GB.eq_1 GB.eq_2 GB.eq_3 N9.eq_1
attribute[go_sem] N9.eq_2 jF nu AS.push H9 plug iA QR O7 Pv GH db.eq_1
attribute[go_sem] db.eq_2 db.eq_3 db.eq_4 db.eq_5 db.eq_6 Uq.eq_1 Uq.eq_2 UY.eq_1 UY.eq_2 Pi.eq_1 Pi.eq_2 UA.eq_1
attribute[go_sem] UA.eq_2 LZ.eq_1 LZ.eq_2 LZ.eq_3 LZ.eq_4 LZ.eq_5 LZ.eq_6 LZ.eq_7 Uy.eq_1 Uy.eq_2 Ux.eq_1 PC.eq_1 PC.eq_2 QL.eq_1 QL.eq_2 HZ.eq_1 HZ.eq_2 Tl.eq_1
attribute[go_sem] Tl.eq_2 dS.eq_1 dS.eq_2 pK.eq_1 pK.eq_2 sw MV.eq_1 MV.eq_2 dL.eq_1 dL.eq_2 dL.eq_3 kt
attribute[go_sem] R2 RM SQ.eq_1 N6.eq_1 N6.eq_2 N6.eq_3 gj.eq_1 gj.eq_2 gj.eq_3 FQ.eq_1 FQ.eq_2 FQ.eq_3 zo.eq_1 zo.eq_2
attribute[go_sem] zo.eq_3 zo.eq_4 se.eq_1 se.eq_2 se.eq_3 xy.eq_1 xy.eq_2 xy.eq_3 yI.eq_1 yI.eq_2 yI.eq_3 yI.eq_4
attribute[go_sem] iQ.eq_1 iQ.eq_2 iQ.eq_3 cS.eq_1 cS.eq_2 cS.eq_3 MH.eq_1 MH.eq_2 MH.eq_3 jQ.eq_1 jQ.eq_2 jQ.eq_3 Ph OJ
attribute[go_sem] mL AS.kill AS.frz
attribute[go_sem] decide_eq_true_eq List.getElem?_cons_zero List.getElem?_cons_succ List.getElem?_nil List.drop_succ_cons List.drop_zero List.take_succ_cons List.take_zero List.length_cons List.length_nil List.map_cons List.map_nil
attribute[go_sem] List.all_cons List.all_nil Bool.and_true Option.bind_some Option.isSome_some true_and and_true ne_eq List.nil_append List.cons_append List.append_nil Option.some.injEq
attribute[go_sem] List.getElem?_toArray Int.toNat_natCast Int.natCast_nonneg Nat.zero_add Bool.false_eq_true Bool.not_true Bool.not_false not_false_eq_true not_true_eq_false and_self List.drop_nil decide_true
attribute[go_sem] decide_false Bool.and_self Bool.true_and Nat.lt_add_one false_implies implies_true Nat.add_zero DV.sl.injEq exists_eq_left exists_eq_left' exists_eq Prod.mk.injEq
end Go.Proofs.Ytgdbmcoamemmaaa
namespace Go.Proofs.Ytgdbmcoamemmaaa
open Go.RowKit
def QX(w:World)(base:Nat):List Value->List DV->List (List Nat)->Prop
 |[],[],[]=>True
 |v::vs,d::ds,f::fs=>bj w base [v] [d] f/\QX w base vs ds fs
 |_,_,_=>False
structure AE(w w':World)(f:List Nat):Prop where
 os:w'.os=w.os
 tape:w'.tape=w.tape
 output:w'.output=w.output
 size:w.heap.size<=w'.heap.size
 block:∀b,b<w.heap.size->b∉f->w'.heap[b]? =w.heap[b]?
def FP(P:Program)(f:FuncId)(b:Bool)(ds:List DV)(k:Int)(ds':List DV)(k':Int):Prop:=
 a9 P f=true/\∀(w:World) (base:Nat) (v:Value) (vals:List Value) (fs:List (List Nat)),(if b then v=.agg vals.toArray else vals=[v])->QX w base vals ds fs->fs.flatten.Nodup->
  Calls P f #[v,.int .i64 k] w λe w'=>e=.returned (.int .i64 k')/\QX w' base vals ds' fs/\AE w w' fs.flatten
def IA(s:AS):List (Nat×Nat×DV)->AS
 |[]=>s
 |p::L=>IA {s with ob:=upd s.ob p.1 (.dx p.2.1 p.2.2)} L
section
variable {P:Program}{w0:Cx}{w w':World}{N:Nat}{s:AS}{a:Act}{E:En}{o:Oper}
end
attribute[go_sem] IA.eq_1 IA.eq_2
end Go.Proofs.Ytgdbmcoamemmaaa
namespace Go.Proofs.Ytgdbmcoamemmaaa
open Go.RowKit
def d8(Q:Exit->AS->Prop):Exit->AS->Prop
 |.normal,s=>Q .normal s
 |_,_=>False
def kE(md:Region.Mode)(ops:Array Oper)(listed:Array Bool):Prop:=∀k ok,ops[k]? =some ok->listed.getD k false=true->∀e∈ok.after,Region.binds md e=true->listed.getD e.on false=true
section
variable {P:Program}{md:Region.Mode}{Q:Exit->Act->World->Prop}{l:List Oper}
end
end Go.Proofs.Ytgdbmcoamemmaaa
namespace Go.Proofs.Ytgdbmcoamemmaaa
open Go.RowKit
def rg:Op->Bool
 |.move _|.extract _ _|.binOp _ _ _ _ _|.unOp _ _ _|.fieldAddr _ _ _|.indexAddr _ _ _=>true
 |.assign _|.slice _ _ _ _ none|.nilCheck _=>true
 |.call ⟨.builtin .max,_,_⟩|.call ⟨.builtin .min,_,_⟩|.call ⟨.builtin .len,_,_⟩=>true
 |_=>false
def Iw:Op->Bool
 |.load _ (.tmp _)=>true
 |_=>false
theorem LA{P:Program}{w0:Cx}{w:World}{N:Nat}{s:AS}{a:Act}{E:En}(h:aB w0 N s a w E){t:TypeId}{f:Nat}{y x:AV}{v:Value}(hx:Ng P s t f y=some x)(hy:bc w E s.lv s.c y v):∃u,∀w',(Instr.fieldAt t v f).run P w'=.ok u w':=by
 unfold Ng at hx;split at hx
 ·rename_i fo k ag hf;split at hx
  ·rename_i hk;split at hx
   ·rename_i i st off;split at hx
    ·rename_i hs;obtain⟨ob,ho⟩:=Option.isSome_iff_exists.1 hs;obtain⟨hi,ho,hl⟩:=am ho;obtain⟨g,e1,rfl⟩:=(aC hy).2 hl;exact⟨_,λw'=>nN P hf hk⟩
    grind
   ·rename_i i st k' j off;split at hx
    ·rename_i hs;obtain⟨ob,ho⟩:=Option.isSome_iff_exists.1 hs;obtain⟨hi,ho,hl⟩:=am ho;obtain⟨g,n,cp,e1,rfl⟩:=(aC hy).2 hl;exact⟨_,λw'=>nN P hf hk⟩
    grind
   ·rename_i cs;obtain⟨b,off,vals,rfl,_⟩:=aC hy;exact⟨_,λw'=>nN P hf hk⟩
   ·rename_i i st;split at hx
    ·rename_i ob id t' x' cs' ho;obtain⟨hi,ho,hl⟩:=am ho;have h1:=h.obj i hi;rw[ho]at h1;obtain⟨g,u',_,e2,_⟩:=h1;have e1:=(aC hy).2 hl;rw[e2]at e1;subst e1;exact⟨_,λw'=>nN P hf hk⟩
    grind
   grind
  grind
 grind
theorem KJ{P:Program}{w0:Cx}{w:World}{N:Nat}{s:AS}{a:Act}{E:En}(h:aB w0 N s a w E){t:TypeId}{c:AC}{i:Int}{ki:IntKind}{x:AV}{v:Value}(hx:qw P s t c i=some x)(hy:dK w E s.lv s.c c v):
 ∃u,∀w',(Instr.indexAt t v (.int ki i)).run P w'=.ok u w':=by
 unfold qw at hx;split at hx
 ·rename_i hi0;obtain⟨j,rfl⟩:=Int.eq_ofNat_of_zero_le hi0;simp only[Int.toNat_natCast]at hx;split at hx
  ·rename_i el k' t' k es ht;split at hx
   ·rename_i hk;subst hk;split at hx
    ·rename_i e he;injection hx with hx;subst hx;obtain⟨b,off,cp,vals,rfl,hj,hA,h0,h1,hr,hat⟩:=aH.elem hy he;exact⟨_,λw'=>kW P ht hj⟩
    grind
   grind
  ·rename_i el k' id st ht;split at hx
   ·rename_i st' t' k es dp ho;obtain⟨hi,ho,hl⟩:=am ho;split at hx
    ·rename_i hk;obtain⟨rfl,hj⟩:=hk;injection hx with hx;subst hx;obtain⟨g,n,cp,vals,e1,_,_,e2⟩:=lC h hi ho (List.getElem?_eq_getElem hj);subst e2;have:=hy.2 hl;subst this;rw[e1];exact⟨_,λw'=>kW P ht hj⟩
    grind
   ·rename_i st' t' k es ho;obtain⟨hi,ho,hl⟩:=am ho;split at hx
    ·rename_i hk;obtain⟨rfl,hj⟩:=hk;injection hx with hx;subst hx;obtain⟨g,n,cp,vals,e1,_,_,e2⟩:=w7 h hi ho (List.getElem?_eq_getElem hj);subst e2;have:=hy.2 hl;subst this;rw[e1];exact⟨_,λw'=>kW P ht hj⟩
    grind
   ·rename_i st' t' k es ho;obtain⟨hi,ho,hl⟩:=am ho;split at hx
    ·rename_i hk;subst hk;split at hx
     ·rename_i e he;injection hx with hx;subst hx;have:=hy.2 hl;subst this;obtain⟨b,off,cp,vals,e1,hj,hA,h0,h1,hr,hat⟩:=aH.elem (uj h hi ho) he;rw[e1];exact⟨_,λw'=>kW P ht hj⟩
     grind
    grind
   grind
  ·rename_i el k' id st k lo n ht;split at hx
   ·rename_i st' t' k2 es dp ho;obtain⟨hi,ho,hl⟩:=am ho;split at hx
    ·rename_i hk;obtain⟨rfl,rfl,hj⟩:=hk;injection hx with hx;subst hx;obtain⟨A,M,cp,B,e1,e2,rfl,e4,e5⟩:=hy.2 hl;have h1:=h.obj id hi;rw[ho]at h1;obtain⟨cells,_,h2,h3,_⟩:=h1;obtain⟨A',c',e6,e7,e8⟩:=bT h2
     have hpos:0<es.length:=by
      rw[e1]at e6;grind
     obtain⟨g,n',cp',vals,e9,_⟩:=lC h hi ho (List.getElem?_eq_getElem hpos);rw[e1]at e9;injection e9 with g1 g2 g3;subst g1;have hn:0<n:=by omega
     rw[e5 hn,Option.map_some,lE];exact⟨_,λw'=>kW P ht hj⟩
    grind
   grind
  grind
 grind
theorem rf{P:Program}{w0:Cx}{w:World}{N:Nat}{s:AS}{a:Act}{E:En}{o:Oper}{x:AV}(hf:rg o.op=true)(hx:hV P s o.op=some x)(h:aB w0 N s a w E):∃v,∀w',(execOp a.eval o).run P w'=.ok (.value v) w':=by
 cases ho:o.op with
 |move y=>exact⟨a.eval y,λw'=>by simp[execOp,ho]⟩
 |assign y=>exact⟨a.eval y,λw'=>by simp[execOp,ho]⟩
 |nilCheck y=>
  rw[ho]at hx;simp only[hV]at hx;have e:=aL h y;unfold Qi at hx;split at hx
  ·rename_i i st hy;split at hx
   ·rename_i ob id t' x' cs' hob;obtain⟨hi,hob,hl⟩:=am hob;rw[hy]at e;have h1:=h.obj i hi;rw[hob]at h1;obtain⟨g,u',_,e2,_⟩:=h1;have e1:=(aC e).2 hl;rw[e2]at e1;exact⟨a.eval y,λw'=>by simp[execOp,ho,e1]⟩
   grind
  ·rename_i i st off hy;split at hx
   ·rename_i hs;obtain⟨ob,hob⟩:=Option.isSome_iff_exists.1 hs;rw[hy]at e;obtain⟨g,_,e1⟩:=(aC e).2 (am hob).2.2;exact⟨a.eval y,λw'=>by simp[execOp,ho,e1]⟩
   grind
  ·rename_i i st k j off hy;split at hx
   ·rename_i hs;obtain⟨ob,hob⟩:=Option.isSome_iff_exists.1 hs;rw[hy]at e;obtain⟨g,n,cp,_,e1⟩:=(aC e).2 (am hob).2.2;exact⟨a.eval y,λw'=>by simp[execOp,ho,e1]⟩
   grind
  grind
 |extract y ix=>
  rw[ho]at hx;simp only[hV]at hx;have e:=aL h y;unfold J2 at hx;split at hx
  ·rename_i xs hxs;split at hx
   ·rename_i b cs hb;rw[hxs]at e;obtain⟨vs,e1,hl,hr⟩:=e;have hlt:ix<vs.length:=by rw[<-hl];grind
    exact⟨vs[ix],λw'=>by simp[execOp,ho,e1,Instr.extract,hlt]⟩
   grind
  grind
 |binOp op t y z ty=>
  rw[ho]at hx;simp only[hV]at hx;unfold Em at hx;split at hx
  ·rename_i v0 hx0;unfold Ct at hx0;split at hx0
   ·rename_i p q h3 h4;split at hx0
    ·rename_i v hb;have e1:=aL h y;have e2:=aL h z;rw[h3]at e1;rw[h4]at e2;have e1:=bU e1;have e2:=bU e2;refine⟨v,λw'=>?_⟩;obtain⟨h5,h6⟩:=F5 hb y z w';simp only[execOp,ho,e1,e2];rw[Sem.run_bind,h5];rfl
    grind
   grind
  ·obtain⟨r,r1,rfl,r3⟩:=IB hx (aL h y) (aL h z) y z;refine⟨r,λw'=>?_⟩;simp only[execOp,ho]
   rw[Sem.run_bind,r3 w'];rfl
 |unOp op t y=>
  rw[ho]at hx;simp only[hV]at hx;unfold Rp at hx;split at hx
  ·rename_i p h3;split at hx
   ·rename_i v hb;have e1:=aL h y;rw[h3]at e1;have e1:=bU e1;refine⟨v,λw'=>?_⟩;obtain⟨h5,h6⟩:=Iu (P:=P) hb w';simp[execOp,ho,e1,h5]
   grind
  grind
 |slice t y lo hi m=>
  rw[ho]at hf hx
  cases m with
  |some=>cases hf
  |none=>
   simp only[hV]at hx;split at hx
   ·rename_i l r h3 h4;obtain⟨u,h1,-⟩:=Gk h h3 h4 hx (aL h y);exact⟨u,λw'=>by simp[execOp,ho,h1]⟩
   grind
 |fieldAddr t y f=>
  rw[ho]at hx;simp only[hV]at hx;obtain⟨u,hu⟩:=LA h hx (aL h y)
  exact⟨u,λw'=>by simp[execOp,ho,hu w']⟩
 |indexAddr t y ix=>
  rw[ho]at hx;simp only[hV]at hx;split at hx
  ·rename_i c ki i h1 h2;have e1:=aL h y;have e2:=aL h ix;rw[h1]at e1;rw[h2]at e2;have e2:=bU e2;obtain⟨u,hu⟩:=KJ (ki:=ki) h hx (aC e1);exact⟨u,λw'=>by simp[execOp,ho,e2,hu w']⟩
  grind
 |call c=>
  obtain⟨ce,args,ts⟩:=c;rw[ho]at hf hx
  have key:∀(mx:Bool) (y z:Operand),NY mx (s.ev y) (s.ev z)=some x->∃(k:IntKind) (b c:Int),a.eval y=.int k b/\a.eval z=.int k c:=by
   intro mx y z hx;unfold NY at hx;split at hx
   ·rename_i k b k' c g1 g2;split at hx
    ·rename_i e;subst e;have e1:=aL h y;have e2:=aL h z;rw[g1]at e1;rw[g2]at e2
     grind[bU]
    grind
   grind
  cases ce with
  |builtin bt=>
   cases bt
   case len=>
    simp only[hV]at hx;unfold uK at hx;split at hx
    ·rename_i y t h1 h2 h3;obtain rfl:args=#[y]:=by grind
     obtain rfl:ts=#[t]:=by grind
     split at hx
     ·rename_i c h4;split at hx
      ·rename_i n h5;have e1:=aL h y;rw[h4]at e1;exact⟨.int .i64 (n:Int),λw'=>by simp[execOp,ho,resolve,invoke,builtin,CJ (ty:=o.type) h h5 (aC e1) w']⟩
      grind
     grind
    ·grind
    ·grind
    grind
   case max=>
    simp only[hV]at hx;unfold uK at hx;split at hx
    ·grind
    ·rename_i y z _ h2;obtain rfl:args=#[y,z]:=by grind
     obtain⟨k,b,c,e1,e2⟩:=key _ _ _ hx;exact⟨_,λw'=>by simp[execOp,ho,resolve,invoke,builtin,e1,e2,run_max_int2];rfl⟩
    ·grind
    grind
   case min=>
    simp only[hV]at hx;unfold uK at hx;split at hx
    ·grind
    ·grind
    ·rename_i y z _ h2;obtain rfl:args=#[y,z]:=by grind
     obtain⟨k,b,c,e1,e2⟩:=key _ _ _ hx;exact⟨_,λw'=>by simp[execOp,ho,resolve,invoke,builtin,e1,e2,run_min_int2];rfl⟩
    grind
   all_goals cases hf
  |value _=>cases hf
  |invoke _ _=>cases hf
 |_=>rw[ho]at hf;cases hf
def MR(i:Nat):Edge:=⟨i,.data⟩
def aM(l:List Oper)(n:Nat)(F:List Nat):List Oper:=match l[n]? with|some o=>l.set n {o with after:=o.after++(F.map MR).toArray}|none=>l
section
variable {P:Program}{md:Region.Mode}{Q:Exit->Act->World->Prop}{l:List Oper}{n:Nat}{F:List Nat}
theorem jA{k:Nat}(h:k≠n):(aM l n F)[k]? =l[k]?:=by
 grind[aM]
theorem tO{o:Oper}(h:l[n]? =some o):(aM l n F)[n]? =some {o with after:=o.after++(F.map MR).toArray}:=by
 grind[aM,List.getElem?_set_self,List.getElem?_eq_some_iff]
theorem uf:(aM l n F).length=l.length:=by
 grind[aM]
theorem Gw{k:Nat}{K:Act->World->Prop}{a:Act}{w:World}:wpOp P (aM l n F).toArray Q k K a w=wpOp P l.toArray Q k K a w:=by
 have hy:∀t,yielded (aM l n F).toArray t=yielded l.toArray t:=by
  intro t;funext g;unfold yielded
  grind[aM,tO,jA]
 unfold wpOp;by_cases h:k=n
 ·subst h
  cases ho:l[k]? with
  |none=>
   have:aM l k F=l:=by grind[aM]
   rw[this]
  |some o=>
   have h1:(aM l k F).toArray[k]? =some {o with after:=o.after++(F.map MR).toArray}:=by grind[tO]
   have h2:l.toArray[k]? =some o:=by grind
   rw[h1,h2];simp only[hy];rfl
 grind[aM,jA]
theorem gO{k:Nat}{listed:Array Bool}(hk:k∈Region.ready md l.toArray listed)(hF:k=n->∀i∈F,listed.getD i false=true):k∈Region.ready md (aM l n F).toArray listed:=by
 rw[mem_ready]at hk ⊢;obtain⟨h0,o,ho,hall⟩:=hk;refine⟨h0,?_⟩;by_cases h:k=n
 ·subst h;have ho':l[k]? =some o:=by grind
  refine⟨_,by simpa using tO (F:=F) ho',λe1 he1 hb=>?_⟩;simp only[Array.mem_append,List.mem_toArray,List.mem_map]at he1;rcases he1 with he1|⟨i,hi,rfl⟩
  ·grind
  ·exact hF rfl i hi
 grind[jA]
theorem zF{k:Nat}{listed:Array Bool}(hk:k∈Region.ready md (aM l n F).toArray listed):k∈Region.ready md l.toArray listed:=by
 rw[mem_ready]at hk ⊢
 grind[aM,MR,tO,jA]
def Na(md:Region.Mode)(l:List Oper)(n:Nat)(F:List Nat)(i:Nat)(e1:Edge):Bool:=
 (F.contains e1.on&&decide (e1.on<i))||(match l[n]? with
  |some o=>o.after.toList.any λe2=>Region.binds md e2&&(decide (e2.on=e1.on)||(match l[e2.on]? with|some o2=>o2.after.toList.any λe3=>Region.binds md e3&&decide (e3.on=e1.on)|none=>false))
  |none=>false)
def uE(l:List Oper)(n:Nat)(F:List Nat):Bool:=
 Region.noSelect l.toArray&&(decide (n<l.length)&&F.all λi=>decide (i<n)&&(match l[i]? with
  |some oi=>oi.guard.isNone&&((rg oi.op||Iw oi.op)&&((oi.after.toList.all λe1=>!Region.binds .any e1||Na .any l n F i e1)&&
   ((List.range l.length).all λk=>decide (k=i)||(match l[k]? with|some ok=>(ok.after.toList.any λe=>Region.binds .any e&&decide (e.on=i))||((oi.after.toList.any λe=>Region.binds .any e&&decide (e.on=k))||oi.apart l.toArray ok)|none=>true))))
  |none=>false))
def JF(P:Program)(l:List Oper)(F:List Nat)(m:Nat)(S:World->Prop)(listed:Array Bool)(a:Act)(w:World):Prop:=(listed.getD m false=false->S w)/\∀i oi,i∈F->l[i]? =some oi->i∈Region.ready .any l.toArray listed->∃v,∀w,(rg oi.op=true\/S w)->(execOp a.eval oi).run P w=.ok (.value v) w
def yF(P:Program)(md:Region.Mode)(ops:Array Oper)(Q:Exit->Act->World->Prop)(m:Nat)(S:World->Prop):Nat->Array Bool->Act->World->Prop
 |0,listed,a,w=>Region.ready md ops listed=[]/\Q .normal a w
 |fuel+1,listed,a,w=>(Region.ready md ops listed=[]->Q .normal a w)/\
  ∀i∈Region.ready md ops listed,wpOp P ops Q i (λa' w'=>((listed.setIfInBounds i true).getD m false=false->S w')/\yF P md ops Q m S fuel (listed.setIfInBounds i true) a' w') a w
theorem ml{ops:Array Oper}{m:Nat}{S:World->Prop}:∀(fuel:Nat) (listed:Array Bool) (a:Act) (w:World),yF P md ops Q m S fuel listed a w->wpAny P md ops Q fuel listed a w
 |0,_,_,_,h=>h
 |fuel+1,_,_,_,h=>⟨h.1,λi hi=>wpOp_mono (λa' w' h'=>ml fuel _ a' w' h'.2) (h.2 i hi)⟩
theorem q9{ops:Array Oper}{listed:Array Bool}{k:Nat}(hc:kE md ops listed)(hk:k∈Region.ready md ops listed):kE md ops (listed.setIfInBounds k true):=by
 intro k' ok' hok' hl e1 he1 hb;by_cases h:k'=k
 ·subst h;rw[mem_ready]at hk;obtain⟨_,o,ho,hall⟩:=hk;have:o=ok':=Option.some.inj (ho.symm.trans hok');subst this;exact getD_set_true (hall e1 he1 hb)
 ·rw[getD_set_ne false (Ne.symm h)]at hl;exact getD_set_true (hc k' ok' hok' hl e1 he1 hb)
theorem B0{ops:Array Oper}{m i:Nat}{S Si:World->Prop}{oi:Oper}{v:Value}(hi:ops[i]? =some oi)(hsel:∀(j:Nat) (o:Oper) cs b,ops[j]? =some o->o.op≠.select cs b)
 (hQ:∀c a w,Q (.panic c) (a.put oi.dst v) w->Q (.panic c) a w) (hmi:m≠i)
 (hc:∀listed w,kE md ops listed->listed.size=ops.size->listed.getD i false=false->(listed.getD m false=false->S w)->Si w):
 ∀(fuel:Nat) (listed:Array Bool) (a:Act) (w:World),kE md ops listed->listed.size=ops.size->
  (∀j oj,ops[j]? =some oj->j≠i->listed.getD j true=false->(∀e∈oj.after,Region.binds md e=true->e.on≠i)->oi.apart ops oj=true)->
  i∈Region.ready md ops listed->YieldsIf P ops Si oi v a->(listed.getD m false=false->S w)->
  yF P md ops Q m S fuel (listed.setIfInBounds i true) (a.put oi.dst v) w->yF P md ops Q m S (fuel+1) listed a w:=by
 have hun:∀(listed:Array Bool),i∈Region.ready md ops listed->listed.getD i false=false:=λlisted hr=>by
  have:=(mem_ready.1 hr).1;rcases Nat.lt_or_ge i listed.size with h|h
  ·simpa[h]using this
  ·simp[Array.getElem?_eq_none h]
 have g0:∀(listed:Array Bool),(listed.setIfInBounds i true).getD m false=listed.getD m false:=λlisted=>getD_set_ne false (Ne.symm hmi)
 intro fuel
 induction fuel with
 |zero=>
  intro listed a w hcl hsz _ hr hy hS H;refine⟨λh=>(by rw[h]at hr;cases hr),λj hj=>?_⟩;by_cases hji:j=i
  ·subst hji;exact hy.wpOp hi (hc _ _ hcl hsz (hun _ hr) hS) ⟨λh=>hS (by rw[g0]at h;exact h),H⟩
  ·have:=ready_mono hj hji;rw[H.1]at this
   cases this
 |succ fuel ih=>
  intro listed a w hcl hsz hfree hr hy hS H;refine⟨λh=>(by rw[h]at hr;cases hr),λj hj=>?_⟩;by_cases hji:j=i
  ·subst hji;exact hy.wpOp hi (hc _ _ hcl hsz (hun _ hr) hS) ⟨λh=>hS (by rw[g0]at h;exact h),H⟩
  ·have h1:=H.2 j (ready_mono hj hji);obtain⟨hjun,oj,hoj,hall⟩:=mem_ready.1 hj
   have hnot:∀e∈oj.after,Region.binds md e=true->e.on≠i:=λe he hb heq=>by
    have h1:=hall e he hb;rw[heq,hun _ hr]at h1;cases h1
   have h2:=wpOp_putIf hoj (hfree j oj hoj hji hjun hnot) (λcs b=>hsel i oi cs b hi) (λcs b=>hsel j oj cs b hoj) hQ hy h1;refine wpOp_mono (λa' w' h3=>?_) h2
   have h4:((listed.setIfInBounds j true).getD m false=false->S w'):=λh=>h3.2.1 (by
    rw[Array.setIfInBounds_comm _ _ (Ne.symm hji),g0];exact h)
   refine⟨h4,ih (listed.setIfInBounds j true) a' w' (q9 hcl hj) (by simpa using hsz) (λk ok hk hki hun hno=>?_) (ready_mono hr (Ne.symm hji)) h3.1 h4 ?_⟩
   ·refine hfree k ok hk hki ?_ hno;by_cases hjk:j=k
    ·subst hjk;exact hjun
    ·rw[getD_set_ne true hjk]at hun;exact hun
   ·rw[Array.setIfInBounds_comm _ _ hji];exact h3.2.2
def NL(l:List Oper)(m i:Nat):Bool:=match l[m]? with
 |some om=>om.after.toList.any λe=>Region.binds .any e&&(decide (e.on=i)||(match l[e.on]? with|some o2=>o2.after.toList.any λe2=>Region.binds .any e2&&decide (e2.on=i)|none=>false))
 |none=>true
theorem Px{m i:Nat}(h:NL l m i=true){listed:Array Bool}(hc:kE .any l.toArray listed)(hs:listed.size=l.length)(hi:listed.getD i false=false):listed.getD m false=false:=by
 cases hm:listed.getD m false with
 |false=>rfl
 |true=>
  unfold NL at h;split at h
  ·rename_i om hom;obtain⟨e,he,hb⟩:=List.any_eq_true.1 h;simp only[Bool.and_eq_true,Bool.or_eq_true,decide_eq_true_eq]at hb;have h1:=hc m om (by simpa using hom) hm e (by simpa using he) hb.1;rcases hb.2 with h2|h2
   ·rw[h2,hi]at h1;cases h1
   ·split at h2
    ·rename_i o2 ho2;obtain⟨e2,he2,hb2⟩:=List.any_eq_true.1 h2;simp only[Bool.and_eq_true,decide_eq_true_eq]at hb2;have h3:=hc e.on o2 (by simpa using ho2) h1 e2 (by simpa using he2) hb2.1;rw[hb2.2,hi]at h3;cases h3
    ·cases h2
  ·rename_i hom;have:l.length<=m:=List.getElem?_eq_none_iff.1 hom;rw[Array.getD_eq_getD_getElem?,Array.getElem?_eq_none (by omega)]at hm;cases hm
theorem IK{ops:Array Oper}{J:Array Bool->Act->World->Prop}{listed:Array Bool}{a:Act}{w:World}:∀{fuel:Nat},dh P md ops Q J fuel listed a w->J listed a w
 |0,h=>h.1
 |_+1,h=>h.1
theorem qT{S:World->Prop}{m:Nat}(hE:uE l n F=true)(hQ:∀e a w,e≠.normal->¬Q e a w)(hnm:n<=m)(hm:∀i∈F,∀oi,l[i]? =some oi->rg oi.op=true\/NL l m i=true):
 ∀(fuel:Nat) (listed:Array Bool) (a:Act) (w:World),kE .any l.toArray listed->listed.size=l.length->dh P .any (aM l n F).toArray Q (JF P l F m S) fuel listed a w->yF P .any l.toArray Q m S fuel listed a w:=by
 unfold uE at hE;simp only[Bool.and_eq_true,decide_eq_true_eq,List.all_eq_true]at hE;obtain⟨hsel,hn,hF⟩:=hE
 have hFi:∀i∈F,∃oi,l[i]? =some oi/\i<n/\oi.guard=none/\(∀e1∈oi.after,Region.binds .any e1=true->Na .any l n F i e1=true)/\
  ∀k ok,l[k]? =some ok->k≠i->(∀e∈ok.after,Region.binds .any e=true->e.on≠i)->(∃e∈oi.after,Region.binds .any e=true/\e.on=k)\/oi.apart l.toArray ok=true:=by
  intro i hi;obtain⟨h1,h2⟩:=hF i hi;split at h2
  ·rename_i oi hoi;simp only[Bool.and_eq_true,List.all_eq_true]at h2;obtain⟨g1,g2,g3,g4⟩:=h2;refine⟨oi,hoi,h1,by simp_all,λe1 he hb=>?_,λk ok hk hne hno=>?_⟩
   ·have:=g3 e1 (by grind)
    grind
   grind
  grind
 have key:∀listed,kE .any l.toArray listed->listed.size=l.length->n∈Region.ready .any l.toArray listed->∀(m i:Nat),i<=m->i∈F->listed.getD i false=false->∃i0∈F,i0∈Region.ready .any l.toArray listed:=by
  intro listed hc hs hr m;rw[mem_ready]at hr;obtain⟨h0,on,hon,hall⟩:=hr;have hon':l[n]? =some on:=by grind
  have dep:∀i oi e1,l[i]? =some oi->Na .any l n F i e1=true->listed.getD e1.on false=true\/(e1.on∈F/\e1.on<i):=by
   intro i oi e1 hoi hd;unfold Na at hd;simp only[Bool.or_eq_true,Bool.and_eq_true,decide_eq_true_eq,hon']at hd;rcases hd with⟨hd1,hd2⟩|hd
   ·grind
   ·left;obtain⟨e2,he2,hb⟩:=List.any_eq_true.1 hd;simp only[Bool.and_eq_true,Bool.or_eq_true,decide_eq_true_eq]at hb;have hl2:=hall e2 (by grind) hb.1;rcases hb.2 with h|h
    ·rw[<-h];omega
    ·split at h
     ·rename_i o2 ho2;obtain⟨e3,he3,hb3⟩:=List.any_eq_true.1 h;simp only[Bool.and_eq_true,decide_eq_true_eq]at hb3;rw[<-hb3.2];exact hc e2.on o2 (by grind) hl2 e3 (by grind) hb3.1
     grind
  induction m with
  |zero=>
   intro i him hi hun;obtain⟨oi,hoi,hin,hg,hdep,-⟩:=hFi i hi;refine⟨i,hi,mem_ready.2 ⟨getD_in (by rw[hs];omega) hun,oi,by grind,λe1 he1 hb=>?_⟩⟩
   grind
  |succ m ih=>
   intro i him hi hun;obtain⟨oi,hoi,hin,hg,hdep,-⟩:=hFi i hi;by_cases hall':∀e1∈oi.after,Region.binds .any e1=true->listed.getD e1.on false=true
   ·exact⟨i,hi,mem_ready.2 ⟨getD_in (by rw[hs];omega) hun,oi,by grind,hall'⟩⟩
   grind
 have hnF:∀i∈F,i≠n:=λi hi e=>by obtain⟨_,_,h,_⟩:=hFi i hi;omega
 intro fuel
 induction fuel with
 |zero=>
  rintro listed a w hc hs ⟨-,h1,h2⟩;refine⟨?_,h2⟩;rw[List.eq_nil_iff_forall_not_mem]at h1 ⊢;intro k hk;by_cases h:k=n
  ·subst h;by_cases hall:∀i∈F,listed.getD i false=true
   ·exact h1 k (gO hk λ_=>hall)
   ·simp only[Classical.not_forall]at hall;obtain⟨i,hi,hun⟩:=hall;obtain⟨i0,hi0,hr0⟩:=key listed hc hs hk i i (Nat.le_refl _) hi (by simpa using hun);exact h1 i0 (gO hr0 λe=>absurd e (hnF i0 hi0))
  ·exact h1 k (gO hk λe=>absurd e h)
 |succ fuel ih=>
  rintro listed a w hc hs ⟨⟨hS,hJ⟩,h1,h2⟩;by_cases hex:∃i,i∈F/\i∈Region.ready .any l.toArray listed
  ·obtain⟨i,hi,hr⟩:=hex;obtain⟨oi,hoi,hin,hg,-,hap⟩:=hFi i hi;have h3:=h2 i (gO hr λe=>absurd e (hnF i hi));rw[Gw]at h3;obtain⟨v,hv⟩:=hJ i oi hi hoi hr;have hSi:∀listed w,kE .any l.toArray listed->listed.size=l.toArray.size->listed.getD i false=false->(listed.getD m false=false->S w)->(rg oi.op=true\/S w):=λlisted w hc hs hu hg=>(hm i hi oi hoi).imp id λh=>hg (Px h hc (by simpa using hs) hu)
   have hSw:=hSi listed w hc (by simpa using hs) (by
    have:=(mem_ready.1 hr).1;have hlt:i<listed.size:=by rw[hs];exact(List.getElem?_eq_some_iff.1 hoi).1
    simpa[hlt]using this) hS
   have hwt:Region.wanted oi (yielded l.toArray a.tmps)=true:=by simp[Region.wanted,hg]
   have hk:dh P .any (aM l n F).toArray Q (JF P l F m S) fuel (listed.setIfInBounds i true) (a.put oi.dst v) w:=by
    unfold wpOp at h3;rw[show l.toArray[i]? =some oi from by simpa using hoi]at h3;simp only at h3;rw[if_pos hwt]at h3;rcases h3 with h3|⟨_,a',w',hq⟩
    ·unfold Oper.wp at h3;rw[hv w hSw,Oper.upon_value]at h3;exact h3
    ·exact absurd hq (hQ _ _ _ (by simp))
   refine B0 (Si:=λw=>rg oi.op=true\/S w) (by simpa using hoi) (Region.noSelect_spec hsel) (λc a w hq=>absurd hq (hQ _ _ _ (by simp))) (by omega) hSi fuel listed a w hc (by simpa using hs) (λk ok hok hne hunk hw=>by
    rcases hap k ok (by simpa using hok) hne hw with⟨e,he,hb,hk2⟩|h
    ·obtain⟨_,oi2,hoi2,hall2⟩:=mem_ready.1 hr;obtain rfl:oi2=oi:=Option.some.inj ((by simpa using hoi2:l[i]? =some oi2).symm.trans hoi);have h4:=hall2 e he hb;rw[hk2,getD_both hunk]at h4;cases h4
    ·exact h) hr (.inl ⟨hwt,hv⟩) hS ?_
   exact ih _ _ _ (q9 hc hr) (by simpa using hs) hk
  ·have hre:∀k,k∈Region.ready .any l.toArray listed->k∈Region.ready .any (aM l n F).toArray listed:=λk hk=>gO hk λh=>by
    subst h;intro i hi
    cases hli:listed.getD i false with
    |true=>rfl
    |false=>obtain⟨i0,h3,h4⟩:=key listed hc hs hk i i (Nat.le_refl _) hi hli;exact absurd ⟨i0,h3,h4⟩ hex
   refine⟨λh0=>h1 ?_,λk hk=>?_⟩
   ·rw[List.eq_nil_iff_forall_not_mem]at h0 ⊢;exact λk hk=>h0 k (zF hk)
   ·have h3:=h2 k (hre k hk);rw[Gw]at h3;exact wpOp_mono (λa' w' h=>⟨(IK h).1,ih _ _ _ (q9 hc hk) (by simpa using hs) h⟩) h3
end
end Go.Proofs.Ytgdbmcoamemmaaa
namespace Go.Proofs.Ytgdbmcoamemmaaa
open Go.RowKit
section
variable {P:Program}{w0:Cx}{ws w w':World}{N m n:Nat}{s h H q q' qF:AS}{a:Act}{E:En}{o:Oper}{pr:Bool}{l:List Oper}{kds:List HK}{xs:List AV}{Q:Exit->AS->Prop}{F:List Nat}
theorem xV(hB:BL .any l n=true)(hnd:(dJ (l.take n)).Nodup)(hh:iz P N pr l.toArray (l.take n) s s kds xs qF)(hw:w0.heap.size<=m)(hEm:∀i,i<s.n->∀b∈E.m i,b<m)
 {listed:Array Bool} {fs:Nat->List Nat} (inv:HeadInv .any l.toArray n listed) (hI:BT P w0 ws N m n s E l kds xs listed a w fs) {i:Nat} {oi:Oper} (hin:i<n) (hi:i∈Region.ready .any l.toArray listed) (hoil:l[i]? =some oi):
 aB w0 N {s with sl:=λt=>if(oi.looksAt l.toArray).contains t then(lG s (l.take i) xs).sl t else .und} a w (E.plus m w.heap.size)/\
 dZ (lG s (l.take i) xs) {s with sl:=λt=>if(oi.looksAt l.toArray).contains t then(lG s (l.take i) xs).sl t else .und} oi.op.operands.toList:=by
 obtain⟨hsel,hnl,hsink,hseq,hdep⟩:=cJ hB;obtain⟨hkl,hxl⟩:=iV hh;have htl:(l.take n).length=n:=by rw[List.length_take];omega
 rw[htl]at hkl hxl;obtain⟨hun,oi',hoi,hall⟩:=mem_ready.1 hi;obtain rfl:oi'=oi:=Option.some.inj ((by grind:l[i]? =some oi').symm.trans hoil);have htt:(l.take n).take i=l.take i:=by rw[List.take_take,Nat.min_eq_left (by omega)]
 have hlook:∀t∈oi'.looksAt l.toArray,bc w (E.plus m w.heap.size) s.lv s.c ((lG s (l.take i) xs).sl t) (a.tmps.getD t undef):=by
  intro t ht;by_cases hex:∃j oj,j<n/\l[j]? =some oj/\oj.dst=some t
  ·obtain⟨j,oj,hj,hoj,hdj⟩:=hex;obtain⟨hji,hwt⟩:=i9 hB hin hoil hj hoj hdj ht
   have hlj:listed.getD j false=true:=by
    obtain⟨oi2,hoi2,e,he,hb,hon⟩:=Region.waitsFor_spec hwt;have:oi2=oi':=Option.some.inj (hoi2.symm.trans hoi)
    grind
   have hjx:j<xs.length:=by omega
   have hjk:j<kds.length:=by omega
   have hs:=(hI.fact j oj t _ _ hj hlj hoj hdj (List.getElem?_eq_getElem hjk) (List.getElem?_eq_getElem hjx)).2
   have hnd':(dJ (l.take i)).Nodup:=by
    have:l.take n=l.take i++(l.take n).drop i:=by rw[<-htt,List.take_append_drop]
    rw[this]at hnd
    grind[dJ,List.nodup_append]
   rw[u6 hnd' (by rw[List.getElem?_take,if_pos hji];omega) (List.getElem?_eq_getElem hjx) hdj];exact hs
  ·have hout:(lG s (l.take i) xs).sl t=s.sl t:=by
    refine oV λo ho hdo=>?_
    obtain⟨j,hj,rfl⟩:=List.mem_iff_getElem.1 ho;have hji:j<i:=by grind
    exact hex ⟨j,_,by omega,by rw[List.getElem?_eq_getElem (by have:=(List.getElem?_eq_some_iff.1 hoil).1;omega)],by rw[List.getElem_take]at hdo;omega⟩
   rw[hout];have:=hI.rep.slot t;simp only[de]at this
   rw[if_neg (by
    grind[List.contains_iff_mem,fH])]at this
   exact this.stay ⟨λb hb=>⟨.inl hb,rfl⟩,λi st _ h=>⟨h,rfl⟩,Nat.le_refl _⟩
 obtain⟨ha1,ha2,ha3⟩:=lj (l:=l.take i) (xs:=xs) (s:=s);refine⟨?_,ha1.symm,ha2.symm,λt ht=>?_⟩
 ·have hg:=Gg hI.rep hw hEm
  have:=Bg hg (sl':=λt=>if(oi'.looksAt l.toArray).contains t then(lG s (l.take i) xs).sl t else .und) (λt=>by
   split
   ·rename_i ht;exact hlook t (by grind)
   ·trivial)
  exact this
 ·have:t∈oi'.looksAt l.toArray:=List.mem_append_left _ (List.mem_filterMap.2 ⟨.tmp t,ht,rfl⟩)
  grind
def QH(l:List Oper)(F:List Nat):Bool:=F.all λi=>match l[i]? with|some o=>rg o.op|none=>true
theorem Fj(n:Nat)(pr:Bool)(F:List Nat)(hE:uE l n F=true)(hNL:QH l F=true)(hB:mA (aM l n F) n=true)(hh:iz P N pr (aM l n F).toArray ((aM l n F).take n) s s kds xs qF)
 (htail:lk P N (aM l n F).toArray ((aM l n F).drop n) (d8 Q) qF) {w0:Cx} {a:Act} {w:World} {E:En} (hr:aB w0 N s a w E):
 wpAny P .any l.toArray (AQ w0 N (d8 Q)) l.toArray.size (Array.replicate l.toArray.size false) a w:=by
 have hsz:l.toArray.size=(aM l n F).length:=by simp[uf]
 have hF:∀i∈F,∃oi,l[i]? =some oi/\i<n/\oi.guard=none/\rg oi.op=true:=by
  unfold uE at hE;simp only[Bool.and_eq_true,decide_eq_true_eq,List.all_eq_true]at hE;intro i hi;obtain⟨h1,h2⟩:=hE.2.2 i hi;split at h2
  ·rename_i oi hoi;simp only[Bool.and_eq_true]at h2;unfold QH at hNL;have h3:=List.all_eq_true.1 hNL i hi;rw[hoi]at h3;simp_all
  grind
 refine ml _ _ _ _ (qT (S:=λ_=>True) (m:=l.length) hE (λe a w he hq=>?_) (by unfold uE at hE;simp only[Bool.and_eq_true,decide_eq_true_eq]at hE;omega) (λi hi oi hoi=>.inr (by simp[NL])) _ _ _ _ (λj oj _ hl=>(by rw[getD_replicate_false]at hl;cases hl)) (by simp) ?_)
 ·obtain⟨s',E',h1,_⟩:=hq;cases e<;>first|exact he rfl|exact h1
 unfold mA at hB;rw[Bool.and_eq_true,decide_eq_true_eq]at hB;obtain⟨hB,hnd⟩:=hB;have hnl:=(cJ hB).2.1;generalize hl':aM l n F=l' at*
 have hu:HP n (Array.replicate l.toArray.size false)=n:=by
  unfold HP
  have:(List.range n).filter (λi=>!(Array.replicate l.toArray.size false).getD i false)=List.range n:=by
   rw[List.filter_eq_self];intro i _;rw[getD_replicate_false];rfl
  rw[this];simp
 have hr':aB w0 N s a w E:=hr;have hEm:∀i,i<s.n->∀b∈E.m i,b<w.heap.size:=λi hi b hb=>hr'.m_lt i hi b hb
 have h:=kB (J:=JF P l F l.length (λ_=>True)) (m:=w.heap.size) (E:=E) hB hnd hh hr'.bel.size hEm hr'.A_lt ?_ (xt hB hnd hh hr'.bel.size hEm hr'.A_lt htail ?_) n (Array.replicate l.toArray.size false) a w (λ_=>[]) hu
  ⟨by grind,λj oj _ hl=>(by rw[getD_replicate_false]at hl;cases hl),λt _ ht=>getD_in (by rw[Array.size_replicate,hsz];assumption) (getD_replicate_false _ _)⟩
  ⟨by
   have:HO l' n (Array.replicate l.toArray.size false)=[]:=by
    rw[List.eq_nil_iff_forall_not_mem];intro t ht;obtain⟨j,o,_,hl,_⟩:=fH.1 ht;rw[getD_replicate_false]at hl;cases hl
   rw[this];have e:de s []=s:=by rfl
   rw[e];omega,Nat.le_refl _,λj o d kd x _ hl=>(by rw[getD_replicate_false]at hl;cases hl),λj _ hl=>(by rw[getD_replicate_false]at hl;cases hl),λi j _ _ hl=>(by rw[getD_replicate_false]at hl;cases hl),λ_=>rfl⟩
 ·rw[show l.toArray.size=n+(l'.length-n)from by rw[hsz];omega];rw[show(Array.replicate l.toArray.size false)=Array.replicate (n+(l'.length-n)) false from by grind]at h;exact h
 ·intro listed a w fs inv hI;refine⟨λ_=>trivial,λi oi hi hoi hrd=>?_⟩;obtain⟨oi',hoi',hin,hg,hfl⟩:=hF i hi;obtain rfl:oi'=oi:=Option.some.inj (hoi'.symm.trans hoi);have hne:i≠n:=by omega
  have hrd':i∈Region.ready .any l'.toArray listed:=by rw[<-hl'];grind[gO,absurd]
  have hoil:l'[i]? =some oi':=by rw[<-hl',jA hne];omega
  obtain⟨g1,g2⟩:=xV hB hnd hh hr'.bel.size hEm inv hI hin hrd' hoil;obtain⟨kd,x,qi,qi',hkd,hx,⟨d,hd,hdN⟩,hstp⟩:=jz hh i oi' (by rw[List.getElem?_take,if_pos hin];omega);have htt:(l'.take n).take i=l'.take i:=by rw[List.take_take,Nat.min_eq_left (by omega)]
  rw[htt,hg]at hstp
  have hv:∃y,hV P (lG s (l'.take i) xs) oi'.op=some y:=by
   rcases hstp with⟨y,h1,_⟩|⟨f,args,ts,ys,res,ho,_⟩|⟨t,len,parts,el,k,es,esq,ho,_⟩|⟨t,cs,ho,_⟩|⟨y,z,_,_,h1,_⟩|⟨_,_,_,_,_,_,_,_,_,_,_,ho,_⟩|⟨_,_,_,_,_,_,_,_,ho,_⟩|⟨_,_,_,_,_,ho,_⟩
   ·refine⟨y,?_⟩;unfold pK at h1;split at h1
    ·rename_i ho;rw[ho]at hfl;cases hfl
    omega
   ·rw[ho]at hfl;cases hfl
   ·rw[ho]at hfl;cases hfl
   ·rw[ho]at hfl;cases hfl
   ·refine⟨y,?_⟩;unfold pK at h1;split at h1
    ·rename_i ho;rw[ho]at hfl;cases hfl
    omega
   ·rw[ho]at hfl;cases hfl
   ·rw[ho]at hfl;cases hfl
   ·rw[ho]at hfl;cases hfl
  obtain⟨y,hy⟩:=hv;rw[<-tn g2]at hy;obtain⟨v,hv⟩:=rf hfl hy g1;simp_all
 ·intro listed a w hall;refine⟨λ_=>trivial,λi oi hi hoi hrd=>?_⟩;obtain⟨_,_,hin,_⟩:=hF i hi;have h0:=(mem_ready.1 hrd).1;have:=hall i hin;rw[getD_both h0]at this;grind
end
end Go.Proofs.Ytgdbmcoamemmaaa
namespace Go.Proofs.Ytgdbmcoamemmaaa
open Go.RowKit
def xR(l:List Oper)(F:List Nat):List (TypeId×Nat×Nat):=F.filterMap λi=>match l[i]? with
 |some o=>(match o.op,o.dst with|.load t (.tmp p),some d=>some (t,p,d)|_,_=>none)
 |none=>none
def Uk(L:Nat->Option Nat)(x:AC):Prop:=(∃v,x=.d (.sc v))\/x=.nil\/(∃j st,x=.own j st/\L j=some st)\/∃i st off,x=.ptr i st off/\L i=some st
def T2(L:Nat->Option Nat)(b:Bool)(xs:List AC):Prop:=(b=false->xs.length=1)/\∀x∈xs,Uk L x
def CF(P:Program)(FL:List (TypeId×Nat×Nat))(s:AS):Prop:=∀x∈FL,∃i st off ty cs b xs,s.sl x.2.1=.p false [.ptr i st off]/\s.own? i st=some (.var st ty cs)/\C4 P x.1 (cs.drop off)=some (.p b xs)/\s.sl x.2.2=.p b xs/\T2 s.lv b xs
def SF(P:Program)(FL:List (TypeId×Nat×Nat))(pv:Nat->Value)(w:World):Prop:=∀x∈FL,(Instr.loadAt x.1 (pv x.2.1)).run P w=.ok (pv x.2.2) w
def G5(E:En):AC->Value
 |.d (.sc v)=>v
 |.nil=>.slice none 0 0
 |.own j _=>E.v j
 |.ptr i _ off=>(match E.v i with|.pointer (some g)=>.pointer (some ⟨g.block,off,none⟩)|_=>undef)
 |_=>undef
def qr(E:En):AV->Value
 |.p false [x]=>G5 E x
 |.p true xs=>.agg (xs.map (G5 E)).toArray
 |_=>undef
theorem Gf{w:World}{E E':En}{L:Nat->Option Nat}{c:Nat}{x:AC}{u:Value}(hE:∀i st,L i=some st->E'.v i=E.v i)(h:dK w E' L c x u)(hx:Uk L x):u=G5 E x:=by
 rcases hx with⟨v,rfl⟩|rfl|⟨j,st,rfl,hl⟩|⟨i,st,off,rfl,hl⟩
 ·exact(aH.scOf h).1
 ·exact h
 ·rw[h.2 hl];exact hE _ _ hl
 ·obtain⟨g,e1,rfl⟩:=h.2 hl;rw[hE _ _ hl]at e1
  grind[G5]
theorem wN{w:World}{E E':En}{L:Nat->Option Nat}{c:Nat}{b:Bool}{xs:List AC}{v:Value}(hE:∀i st,L i=some st->E'.v i=E.v i)(hv:bc w E' L c (.p b xs) v)(hx:T2 L b xs):v=qr E (.p b xs):=by
 cases b with
 |false=>
  match xs,hx.1 rfl with
  |[x],_=>exact Gf hE (aC hv) (hx.2 x (List.mem_singleton.2 rfl))
 |true=>
  obtain⟨vals,rfl,h1,h2⟩:=lq hv;simp only[qr];congr 1
  have:vals=xs.map (G5 E):=by
   apply List.ext_getElem
   ·rw[List.length_map];omega
   ·intro k hk hk2;rw[List.getElem_map];exact Gf hE (h2 k _ _ (List.getElem?_eq_getElem (by omega)) (List.getElem?_eq_getElem hk)) (hx.2 _ (List.getElem_mem _))
  rw[this]
def tk(P:Program)(Q:Exit->Act->World->Prop)(I:Act->World->Prop):List Oper->Act->World->Prop
 |[],a,w=>Q .normal a w
 |o::r,a,w=>o.guard=none/\o.wp P a w (λa' w'=>I a' w'/\tk P Q I r a' w') (λ_ _ _=>False)
def Kf(P:Program)(N:Nat)(l:List Oper)(Q:Exit->AS->Prop)(C:AS->Prop)(s:AS):Prop:=∀w0 a w E,aB w0 N s a w E->tk P (AQ w0 N Q) (λa' w'=>∃s' E',C s'/\aB w0 N s' a' w' E') l a w
def um:Op->Bool
 |.call ⟨.value _,_,_⟩=>false
 |_=>true
section
variable {P:Program}{w0:Cx}{ws w w':World}{N m n:Nat}{s h H q q' qF:AS}{a:Act}{E:En}{o:Oper}{l:List Oper}{kds:List HK}{xs:List AV}{Q:Exit->AS->Prop}{F:List Nat}{FL:List (TypeId×Nat×Nat)}{pv:Nat->Value}
theorem Nf{K:Act->World->Prop}(h:o.wp P a w K (λ_ _ _=>False)):o.wp P a w (λa' w'=>K a' w'/\∀t,o.dst≠some t->a'.tmps.getD t undef=a.tmps.getD t undef) (λ_ _ _=>False):=by
 have kp:∀(a:Act) (v:Value) t,o.dst≠some t->(a.put o.dst v).tmps.getD t undef=a.tmps.getD t undef:=by
  intro a v t ht
  cases hd:o.dst with
  |none=>rfl
  |some d=>grind[oN]
 unfold Oper.wp at *;generalize (execOp a.eval o).run P w=r at*
 cases r with
 |ok x w'=>
  cases x with
  |value v=>exact⟨h,kp a v⟩
  |skip=>exact⟨h,kp a undef⟩
  |defer d=>exact⟨h,kp _ undef⟩
  |enter f args=>
   refine Calls.mono h λe w'' he=>?_
   grind
  |row r args=>exact Rows.mono h λv w'' he=>⟨he,kp a v⟩
  |_=>exact h
 |halt x w'=>cases x<;>exact h
theorem SH(hr:aB w0 N s a w E)(hC:CF P FL s)(hI:∀x∈FL,a.tmps.getD x.2.1 undef=pv x.2.1/\a.tmps.getD x.2.2 undef=pv x.2.2):SF P FL pv w:=by
 intro x hx;obtain⟨i,st,off,ty,cs,b,xs,h1,h2,h3,h4,h5⟩:=hC x hx;obtain⟨e1,e2⟩:=hI x hx;have hp:=hr.slot x.2.1;rw[h1]at hp;have hd:=hr.slot x.2.2;rw[h4]at hd;obtain⟨u,hu,hsl⟩:=A6 (P:=P) hr (t:=x.1) (y:=.p false [.ptr i st off]) (x:=.p b xs) (by grind[zL]) hp;have g1:=wN (E:=E) (λ_ _ _=>rfl) hsl h5;have g2:=wN (E:=E) (λ_ _ _=>rfl) hd h5;rw[<-e1,hu,<-e2,g1,g2]
theorem vu{ops:Array Oper}{Q:Exit->Act->World->Prop}{I:Act->World->Prop}{J:Array Bool->Act->World->Prop}(hJ:∀listed a w,(∀j,j<n->listed.getD j false=true)->I a w->J listed a w)
 :
 ∀(r:List Oper) (k:Nat) (listed:Array Bool) (a:Act) (w:World),(∀j,r[j]? =ops[k+j]?)->Region.seqB .any ops r.length k listed=true->(∀j,j<n->listed.getD j false=true)->I a w->
 tk P Q I r a w->dh P .any ops Q J r.length listed a w
 |[],_,listed,a,w,_,hB,hl,hI,h=>⟨hJ _ _ _ hl hI,by simpa[Region.seqB]using hB,h⟩
 |o::r,k,listed,a,w,hops,hB,hl,hI,h=>by
  have h0:ops[k]? =some o:=by simpa using(hops 0).symm
  simp only[List.length_cons,Region.seqB,Bool.and_eq_true,decide_eq_true_eq]at hB;refine⟨hJ _ _ _ hl hI,λh1=>(by rw[hB.1]at h1;cases h1),λi hi=>?_⟩;rw[hB.1]at hi;have hik:i=k:=by grind
  subst hik;obtain⟨hg,h⟩:=h;unfold wpOp;simp only[h0];rw[if_pos (by simp[Region.wanted,hg])];refine .inl (Oper.wp_mono2 (λa' w' hh=>?_) h);refine vu hJ r (i+1) _ a' w' (λj=>by have:=hops (j+1);grind) hB.2 (λj hj=>?_) hh.1 hh.2;by_cases e:i=j
  ·subst e
   have hlt:i<listed.size:=by
    grind
   simp[hlt]
  simp_all
theorem ym{Q:Exit->Act->World->Prop}(hC:∀w0 s a w E,aB w0 N s a w E->CF P FL s->(∀x∈FL,a.tmps.getD x.2.1 undef=pv x.2.1/\a.tmps.getD x.2.2 undef=pv x.2.2)->SF P FL pv w):
 ∀{r:List Oper} {a:Act} {w:World},(∀o∈r,∀x∈FL,o.dst≠some x.2.1/\o.dst≠some x.2.2)->(∀x∈FL,a.tmps.getD x.2.1 undef=pv x.2.1/\a.tmps.getD x.2.2 undef=pv x.2.2)->
 tk P Q (λa' w'=>∃s' E',CF P FL s'/\aB w0 N s' a' w' E') r a w->tk P Q (λ_ w'=>SF P FL pv w') r a w
 |[],_,_,_,_,h=>h
 |o::r,a,w,hd,hI,h=>by
  obtain⟨hg,h⟩:=h;refine⟨hg,Oper.wp_mono (λa' w' hh=>?_) (Nf h)⟩;obtain⟨⟨⟨s',E',h1,h2⟩,h3⟩,h4⟩:=hh
  have hI':∀x∈FL,a'.tmps.getD x.2.1 undef=pv x.2.1/\a'.tmps.getD x.2.2 undef=pv x.2.2:=by
   grind[List.mem_cons_self]
  exact⟨hC _ _ _ _ _ h2 h1 hI',ym hC (λo ho=>hd o (List.mem_cons_of_mem _ ho)) hI' h3⟩
theorem oy{ops:Array Oper}:∀{l:List Oper} {h q:AS} {kds:List HK} {xs:List AV},(∀o∈l,um o.op=true)->iz P N true ops l h h kds xs q->q=lG h l xs
 |[],h,q,kds,xs,_,hh=>by
  cases kds with
  |cons=>exact hh.elim
  |nil=>cases xs with
   |cons=>exact hh.elim
   |nil=>exact hh
 |o::l,h,q,[],xs,_,hh=>hh.elim
 |o::l,h,q,kd::kds,[],_,hh=>hh.elim
 |o::l,h,q,kd::kds,x::xs,hp,hh=>by
  obtain⟨_,q1,hst,hh⟩:=hh
  have key:uv P true h h o kd x q1->q1=h.put o.dst x:=by
   rintro(⟨y,_,rfl,rfl,e⟩|⟨fn,args,ts,ys,res,ho,_⟩|⟨_,_,_,_,_,_,_,_,hp0,_⟩|⟨_,_,_,hp0,_⟩|⟨_,_,_,hp0,_⟩|⟨_,_,_,_,_,_,_,_,_,_,_,_,hp0,_⟩|⟨_,_,_,_,_,_,_,_,_,hp0,_⟩|⟨_,_,_,_,_,_,hp0,_⟩)
   ·exact e
   ·have:=hp o (List.mem_cons_self ..);rw[ho]at this;cases this
   ·grind
   ·grind
   ·grind
   ·grind
   ·grind
   grind
  have hq1:q1=h.put o.dst x:=by
   cases hgd:o.guard with
   |none=>rw[hgd]at hst;exact key hst
   |some gw=>
    rw[hgd]at hst;obtain⟨t,b,_,_,_,hb⟩:=hst;split at hb
    ·grind
    ·obtain⟨_,rfl,e⟩:=hb;exact e
  subst hq1;rw[lG];exact oy (λo ho=>hp o (List.mem_cons_of_mem _ ho)) hh
theorem AF(hB:BL .any l n=true)(hnd:(dJ (l.take n)).Nodup){listed:Array Bool}{fs:Nat->List Nat}{i:Nat}{t:Nat}(hxl:xs.length=n)(hin:i<=n)(hlt:∀j oj,j<n->l[j]? =some oj->oj.dst=some t->j<i):(lG s (l.take i) xs).sl t=(lG s (l.take n) xs).sl t:=by
 have hnl:=(cJ hB).2.1;by_cases hex:∃j oj,j<n/\l[j]? =some oj/\oj.dst=some t
 ·obtain⟨j,oj,hj,hoj,hdj⟩:=hex;have hji:=hlt j oj hj hoj hdj
  have hnd':(dJ (l.take i)).Nodup:=by
   have htt:(l.take n).take i=l.take i:=by rw[List.take_take,Nat.min_eq_left hin]
   have:l.take n=l.take i++(l.take n).drop i:=by rw[<-htt,List.take_append_drop]
   rw[this]at hnd
   grind[dJ,List.nodup_append]
  have hx:=List.getElem?_eq_getElem (show j<xs.length by omega);rw[u6 hnd' (by rw[List.getElem?_take,if_pos hji];omega) hx hdj,u6 hnd (by rw[List.getElem?_take,if_pos hj];omega) hx hdj]
 ·have hout:∀k,k<=n->(lG s (l.take k) xs).sl t=s.sl t:=by
   intro k hk;refine oV λo ho hdo=>?_
   grind[List.mem_iff_getElem]
  rw[hout i hin,hout n (Nat.le_refl _)]
theorem Da(hB:BL .any l n=true)(hnd:(dJ (l.take n)).Nodup)(hxl:xs.length=n)(hkl:kds.length=n)(hw:w0.heap.size<=m)(hEm:∀i,i<s.n->∀b∈E.m i,b<m){listed:Array Bool}{fs:Nat->List Nat}(hall:∀j,j<n->listed.getD j false=true)
 (hI:BT P w0 ws N m n s E l kds xs listed a w fs):aB w0 N (lG s (l.take n) xs) a w (E.plus m w.heap.size):=by
 have hnl:=(cJ hB).2.1;have hg:=Gg hI.rep hw hEm;obtain⟨ha1,ha2,ha3⟩:=lj (l:=l.take n) (xs:=xs) (s:=s)
 have:=Bg hg (sl':=(lG s (l.take n) xs).sl) (λt=>by
  by_cases hex:∃j oj,j<n/\l[j]? =some oj/\oj.dst=some t
  ·obtain⟨j,oj,hj,hoj,hdj⟩:=hex;have hx:=List.getElem?_eq_getElem (show j<xs.length by omega);rw[u6 hnd (by rw[List.getElem?_take,if_pos hj];omega) hx hdj];exact(hI.fact j oj t _ _ hj (hall j hj) hoj hdj (List.getElem?_eq_getElem (by omega)) hx).2
  ·rw[oV (λo ho hdo=>by
    obtain⟨j,hj,rfl⟩:=List.mem_iff_getElem.1 ho;simp at hj
    exact hex ⟨j,_,by omega,by rw[List.getElem?_eq_getElem (by omega)],by rw[List.getElem_take]at hdo;omega⟩)]
   have:=hg.slot t;simp only[de]at this
   rw[if_neg (by
    grind[List.contains_iff_mem,fH])]at this
   exact this)
 have e:lG s (l.take n) xs={de s (HO l n listed)with sl:=(lG s (l.take n) xs).sl}:=by
  generalize lG s (l.take n) xs=r at *;obtain⟨r1,r2,r3,r4⟩:=r;simp only at ha1 ha2 ha3;subst ha1 ha2 ha3;rfl
 rw[e];omega
theorem Ea{M:Nat}{c:Nat}{L:Nat->Option Nat}{b:Bool}{xs:List AC}{v:Value}(hv:bc w (E.plus m M) L c (.p b xs) v)(hx:T2 L b xs):v=qr E (.p b xs):=wN (E:=E) (E':=E.plus m M) (λ_ _ _=>rfl) hv hx
theorem Fu{L:Nat->Option Nat}{i st off:Nat}(h:L i=some st):T2 L false [.ptr i st off]:=⟨λ_=>rfl,λx hx=>by rw[List.mem_singleton]at hx;exact hx▸.inr (.inr (.inr ⟨i,st,off,rfl,h⟩))⟩
theorem EO(n:Nat)(F:List Nat)(hE:uE l n F=true)(hB:mA (aM l n F) n=true)(hpl:∀o∈(aM l n F).take n,um o.op=true)(hh:iz P N true (aM l n F).toArray ((aM l n F).take n) s s kds xs qF)
 (hC:CF P (xR l F) qF) (hdt:∀o∈(aM l n F).drop n,∀x∈xR l F,o.dst≠some x.2.1/\o.dst≠some x.2.2)
 (htail:Kf P N ((aM l n F).drop n) (d8 Q) (CF P (xR l F)) qF) {w0:Cx} {a:Act} {w:World} {E:En} (hr:aB w0 N s a w E):
 wpAny P .any l.toArray (AQ w0 N (d8 Q)) l.toArray.size (Array.replicate l.toArray.size false) a w:=by
 have hsz:l.toArray.size=(aM l n F).length:=by simp[uf]
 have hF:∀i∈F,∃oi,l[i]? =some oi/\i<n/\oi.guard=none/\(rg oi.op=true\/Iw oi.op=true):=by
  have hE':=hE;unfold uE at hE';simp only[Bool.and_eq_true,decide_eq_true_eq,List.all_eq_true]at hE';intro i hi;obtain⟨h1,h2⟩:=hE'.2.2 i hi;split at h2
  ·simp_all
  grind
 have hqF:=oy hpl hh;generalize hFL:xR l F=FL at *;refine ml _ _ _ _ (qT (S:=SF P FL (λt=>qr E (qF.sl t))) (m:=l.length) hE (λe a w he hq=>?_) (by unfold uE at hE;simp only[Bool.and_eq_true,decide_eq_true_eq]at hE;omega) (λi hi oi hoi=>.inr (by simp[NL])) _ _ _ _ (λj oj _ hl=>(by rw[getD_replicate_false]at hl;cases hl)) (by simp) ?_)
 ·obtain⟨s',E',h1,_⟩:=hq;cases e<;>first|exact he rfl|exact h1
 unfold mA at hB;rw[Bool.and_eq_true,decide_eq_true_eq]at hB;obtain⟨hB,hnd⟩:=hB;have hnl:=(cJ hB).2.1;generalize hl':aM l n F=l' at*
 have hu:HP n (Array.replicate l.toArray.size false)=n:=by
  unfold HP
  have:(List.range n).filter (λi=>!(Array.replicate l.toArray.size false).getD i false)=List.range n:=by
   rw[List.filter_eq_self];intro i _;rw[getD_replicate_false];rfl
  rw[this];simp
 have hr':aB w0 N s a w E:=hr;have hEm:∀i,i<s.n->∀b∈E.m i,b<w.heap.size:=λi hi b hb=>hr'.m_lt i hi b hb
 obtain⟨hkl,hxl⟩:=iV hh;have htl:(l'.take n).length=n:=by rw[List.length_take];omega
 rw[htl]at hkl hxl;obtain⟨ha1,ha2,ha3⟩:=lj (l:=l'.take n) (xs:=xs) (s:=s);have hlvq:qF.lv=s.lv:=by rw[hqF];funext i;grind[AS.lv]
 have hownq:qF.own? =s.own?:=by rw[hqF];funext i st;grind[AS.own?]
 have hSat:∀listed a w fs,BT P w0 w N w.heap.size n s E l' kds xs listed a w fs->True:=λ_ _ _ _ _=>trivial
 have hS:∀(M:Nat) listed a w1 fs,BT P w0 w N M n s E l' kds xs listed a w1 fs->SF P FL (λt=>qr E (qF.sl t)) w1:=by
  intro M listed a w1 fs hI x hx;obtain⟨i,st,off,ty,cs,b,zs,h1,h2,h3,h4,h5⟩:=hC x hx;rw[hownq]at h2;rw[hlvq]at h5;obtain⟨hin,hob,hl⟩:=am h2;have hO:=hI.rep.obj i hin;have hob':(de s (HO l' n listed)).ob i=.var st ty cs:=hob;rw[hob']at hO;obtain⟨g,vals,q0,q1,_⟩:=hO;have hsl:bc w1 E s.lv s.c (.p false [.ptr i st off]) (.pointer (some ⟨g,off,none⟩)):=aJ ⟨q0,λ_=>⟨g,q1,rfl⟩⟩;obtain⟨u,hu,hus⟩:=A6 (P:=P) hI.rep (t:=x.1) (y:=.p false [.ptr i st off]) (x:=.p b zs) (by simp only[zL];rw[show(de s (HO l' n listed)).own? =s.own? from rfl,h2];exact h3) hsl;have g1:=wN (E:=E) (λ_ _ _=>rfl) hus h5
  grind[qr,G5]
 have h:=kB (J:=JF P l F l.length (SF P FL (λt=>qr E (qF.sl t)))) (Q:=d8 Q) (m:=w.heap.size) (E:=E) hB hnd hh hr'.bel.size hEm hr'.A_lt ?_ ?_ n (Array.replicate l.toArray.size false) a w (λ_=>[]) hu
  ⟨by grind,λj oj _ hl=>(by rw[getD_replicate_false]at hl;cases hl),λt _ ht=>getD_in (by rw[Array.size_replicate,hsz];assumption) (getD_replicate_false _ _)⟩
  ⟨by
   have:HO l' n (Array.replicate l.toArray.size false)=[]:=by
    rw[List.eq_nil_iff_forall_not_mem];intro t ht;obtain⟨j,o,_,hl,_⟩:=fH.1 ht;rw[getD_replicate_false]at hl;cases hl
   rw[this];have e:de s []=s:=by rfl
   rw[e];omega,Nat.le_refl _,λj o d kd x _ hl=>(by rw[getD_replicate_false]at hl;cases hl),λj _ hl=>(by rw[getD_replicate_false]at hl;cases hl),λi j _ _ hl=>(by rw[getD_replicate_false]at hl;cases hl),λ_=>rfl⟩
 ·rw[show l.toArray.size=n+(l'.length-n)from by rw[hsz];omega];rw[show(Array.replicate l.toArray.size false)=Array.replicate (n+(l'.length-n)) false from by grind]at h;exact h
 ·intro listed a w1 fs inv hI;refine⟨λ_=>hS _ _ _ _ _ hI,λi oi hi hoi hrd=>?_⟩;obtain⟨oi',hoi',hin,hg,hfl⟩:=hF i hi;obtain rfl:oi'=oi:=Option.some.inj (hoi'.symm.trans hoi);have hne:i≠n:=by omega
  have hrd':i∈Region.ready .any l'.toArray listed:=by rw[<-hl'];grind[gO,absurd]
  have hoil:l'[i]? =some oi':=by rw[<-hl',jA hne];omega
  obtain⟨g1,g2⟩:=xV hB hnd hh hr'.bel.size hEm inv hI hin hrd' hoil;obtain⟨kd,x,qi,qi',hkd,hx,⟨d,hd,hdN⟩,hstp⟩:=jz hh i oi' (by rw[List.getElem?_take,if_pos hin];omega);have htt:(l'.take n).take i=l'.take i:=by rw[List.take_take,Nat.min_eq_left (by omega)]
  rw[htt,hg]at hstp;rcases hfl with hfl|hfl
  ·have hv:∃y,hV P (lG s (l'.take i) xs) oi'.op=some y:=by
    have hb:∀y,pK P (lG s (l'.take i) xs) oi'.op=some y->hV P (lG s (l'.take i) xs) oi'.op=some y:=by
     intro y h1;unfold pK at h1;split at h1
     ·rename_i ho;rw[ho]at hfl;cases hfl
     omega
    rcases hstp with⟨y,h1,_⟩|⟨f,args,ts,ys,res,ho,_⟩|⟨t,len,parts,el,k,es,esq,ho,_⟩|⟨t,cs,ho,_⟩|⟨y,z,_,_,h1,_⟩|⟨_,_,_,_,_,_,_,_,_,_,_,ho,_⟩|⟨_,_,_,_,_,_,_,_,ho,_⟩|⟨_,_,_,_,_,ho,_⟩
    ·grind
    ·rw[ho]at hfl;cases hfl
    ·rw[ho]at hfl;grind
    ·rw[ho]at hfl;grind
    ·grind
    ·rw[ho]at hfl;grind
    ·rw[ho]at hfl;grind
    grind
   obtain⟨y,hy⟩:=hv;rw[<-tn g2]at hy;obtain⟨v,hv⟩:=rf hfl hy g1;exact⟨v,λw _=>hv w⟩
  ·unfold Iw at hfl;split at hfl
   ·rename_i t p hop
    have hmem:(t,p,d)∈FL:=by
     rw[<-hFL];exact List.mem_filterMap.2 ⟨i,hi,by rw[hoi];grind⟩
    have hlk:p∈oi'.looksAt l'.toArray:=List.mem_append_left _ (List.mem_filterMap.2 ⟨.tmp p,by rw[hop];simp[Op.operands],rfl⟩);obtain⟨i0,st,off,ty,cs,b,zs,h1,h2,h3,h4,h5⟩:=hC _ hmem;have hp:=g1.slot p;simp only at hp;rw[if_pos (by grind)]at hp;rw[AF (listed:=listed) (fs:=fs) hB hnd hxl (Nat.le_of_lt hin) (λj oj hj hoj hdj=>(i9 hB hin hoil hj hoj hdj hlk).1),<-hqF]at hp;have hl5:s.lv i0=some st:=by rw[hownq]at h2;exact(am h2).2.2
    have hpe:a.tmps.getD p undef=qr E (qF.sl p):=by rw[h1]at hp ⊢;exact Ea (c:=s.c) (L:=s.lv) hp (Fu hl5)
    refine⟨qr E (qF.sl d),λw' hSw=>?_⟩;have hSw:=hSw.resolve_left (by simp[hop,rg]);have:=hSw _ hmem;simp only at this;simp only[execOp,hop,Act.eval,hpe];rw[Sem.run_bind,this];rfl
   ·cases hfl
 ·intro a w1 fs hI
  have hall:∀j,j<n->(cF n (l'.length-n)).getD j false=true:=by
   intro j hj;simp[cF,Array.getElem?_append,hj]
  have hrep:=Da hB hnd hxl hkl hr'.bel.size hEm hall hI;rw[<-hqF]at hrep
  have hsl:∀x∈FL,a.tmps.getD x.2.1 undef=qr E (qF.sl x.2.1)/\a.tmps.getD x.2.2 undef=qr E (qF.sl x.2.2):=by
   intro x hx;obtain⟨i0,st,off,ty,cs,b,zs,h1,h2,h3,h4,h5⟩:=hC x hx;have q1:=hrep.slot x.2.1;have q2:=hrep.slot x.2.2;rw[h1]at q1;rw[h4]at q2;rw[h1,h4];exact⟨Ea q1 (Fu (am h2).2.2),Ea q2 h5⟩
  have hseq:=(cJ hB).2.2.2.1;rw[show dh P .any l'.toArray (AQ w0 N (d8 Q)) (JF P l F l.length (SF P FL (λt=>qr E (qF.sl t)))) (l'.length-n)=dh P .any l'.toArray (AQ w0 N (d8 Q)) (JF P l F l.length (SF P FL (λt=>qr E (qF.sl t)))) (l'.drop n).length from by simp];refine vu (n:=n) (I:=λ_ w'=>SF P FL (λt=>qr E (qF.sl t)) w') (λlisted a w hl hSw=>⟨λ_=>hSw,λi oi hi hoi hrd=>?_⟩) (l'.drop n) n _ a w1 (λj=>by simp[List.getElem?_drop]) (by simpa using hseq) (by simpa using hall) (hS _ _ _ _ _ hI) (ym (w0:=w0) (pv:=λt=>qr E (qF.sl t)) (λw0 s a w E h1 h2 h3=>SH h1 h2 h3) hdt hsl (htail w0 a w1 _ hrep));obtain⟨_,_,hin,_⟩:=hF i hi;have h0:=(mem_ready.1 hrd).1;have:=hl i hin;rw[getD_both h0]at this;cases this
end
end Go.Proofs.Ytgdbmcoamemmaaa
namespace Go.Proofs.Ytgdbmcoamemmaaa
open Go.RowKit
def UN(w:World)(g:List Nat)(res:List Rs)(e:Ending)(w':World):Prop:=
 ∃v,e=.returned v/\AE w w' g/\∃(us:List Value) (fs:List (List Nat)),(if res.length=1 then us=[v]else v=.tuple us.toArray)/\bR w' 0 (λ_=>False) us res fs/\fs.flatten.Nodup/\∀b∈fs.flatten,b∈g\/w.heap.size<=b
def IG(P:Program)(f:FuncId)(args:List (Bool×List DV))(res:List Rs):Prop:=
 a9 P f=true/\(∀r∈res,r.2.2=true)/\∃t k es rest,args=(false,[.sl t k es])::rest/\uN es.flatten/\
  ∀(w:World) (B:Nat->Prop) (v:Value) (vs:List Value) (g:List Nat),(∀b,B b->b<w.heap.size/\b∉g)->bj w 0 [v] [.sl t k es] g->eg w B vs rest->Calls P f (v::vs).toArray w (UN w g res)
section
variable {P:Program}{w0:Cx}{w w':World}{N:Nat}{s:AS}{a:Act}{E:En}{o:Oper}
theorem DZ{A:Nat->Prop}:∀{rs:List Rs} {vs:List Value} {fs:List (List Nat)},vs.length=rs.length->fs.length=rs.length->
 (∀(j:Nat) u r f,vs[j]? =some u->rs[j]? =some r->fs[j]? =some f->r.2.2=true/\∃vals:List Value,(if r.1 then u=.agg vals.toArray else vals=[u])/\bj w 0 vals r.2.1 f)->bR w 0 A vs rs fs
 |[],[],[],_,_,_=>trivial
 |r::rs,v::vs,f::fs,h1,h2,h3=>by
  refine⟨?_,DZ (by grind) (by grind) λj u r f k1 k2 k3=>h3 (j+1) u r f (by assumption) (by assumption) (by assumption)⟩;obtain⟨q1,vals,q2,q3⟩:=h3 0 v r f rfl rfl rfl
  exact⟨vals,q2,by rw[if_pos q1];exact q3⟩
 |[],_::_,_,h1,_,_=>by grind
 |_::_,[],_,h1,_,_=>by grind
 |[],[],_::_,_,h2,_=>by grind
 |_::_,_::_,[],_,h2,_=>by grind
theorem Ex{rvs:List ResultVar}:∀{res:List Rs},(∀r∈res,r.2.2=true)->dy P s rvs res s\/pT P s rvs res->dy P s rvs res s:=by
 intro res hd h;rcases h with h|h
 ·exact h
 ·cases rvs with
  |nil=>cases res with
   |nil=>trivial
   |cons=>exact h.elim
  |cons rv rvs=>cases res with
   |nil=>exact h.elim
   |cons r rs=>
    obtain⟨b,ds,dp⟩:=r;have h1:dp=true:=hd _ (List.mem_cons_self ..);rw[h1]at h;cases h.1
end
end Go.Proofs.Ytgdbmcoamemmaaa
namespace Go.Proofs.Ytgdbmcoamemmaaa
open Go.RowKit
def ju(vals:List Value):List Nat:=vals.flatMap λu=>u.ownBlock.toList
def Fo(b:Bool)(v:Value):List Value:=if b then(match v with|.agg a=>a.toList|_=>[])else[v]
theorem od{b:Bool}{v:Value}{vals:List Value}(h:if b then v=.agg vals.toArray else vals=[v]):Fo b v=vals:=by
 unfold Fo
 grind
def cN:List Rs->List Value->List Nat
 |(b,_,true)::rs,v::vs=>ju (Fo b v)++cN rs vs
 |(_,_,false)::rs,_::vs=>cN rs vs
 |_,_=>[]
def Sr(w:World)(g f:List Nat)(res:List Rs)(e:Ending)(w':World):Prop:=
 ∃v,e=.returned v/\AE w w' g/\∃(us:List Value) (fs:List (List Nat)),(if res.length=1 then us=[v]else v=.tuple us.toArray)/\bR w' 0 (λ_=>False) us res fs/\fs.flatten.Nodup/\(∀b∈fs.flatten,b∈f\/w.heap.size<=b)/\∀b∈cN res us,b∈g\/w.heap.size<=b
def fI(P:Program)(f:FuncId)(args:List Rs)(res:List Rs):Prop:=
 a9 P f=true/\(∀r∈res,r.2.2=true)/\
  ∀(w:World) (B:Nat->Prop) (vs:List Value) (fs:List (List Nat)),(∀b,B b->b<w.heap.size/\b∉cN args vs)->bR w 0 B vs args fs->fs.flatten.Nodup->(∀b∈fs.flatten,b∈cN args vs\/B b)->
   Calls P f vs.toArray w (Sr w (cN args vs) fs.flatten res)
def F4(args:List Rs):AS:={ (iA []).pushL (cS false args 0)with sl:=λt=>match(iQ args 0 0)[t]? with|some (b,cs)=>.p b cs|none=>.und}
section
variable {P:Program}{w0:Cx}{w w':World}{N:Nat}{s:AS}{a:Act}{E:En}{o:Oper}
theorem Fn{F:Nat->Prop}{E1 E2:En}{cs:List AC}{vals:List Value}{l:List Ob}{s1:AS}(h:ay w E1 s1.lv s1.c cs vals)(m1:aB w0 N (s1.pushL l) a w E2)(hst:iN l s1.c)(m3:pn s1.n (s1.pushL l).n F E1 E2):ay w E2 (s1.pushL l).lv (s1.pushL l).c cs vals:=by
 obtain⟨q1,q2,q3,q4⟩:=iO l s1;refine h.stay ⟨λb hb=>⟨m3.A b hb,rfl⟩,λi st hst' hl=>?_,by omega⟩
 have hin:i<s1.n:=by
  unfold AS.lv at hl
  grind[uS]
 refine⟨?_,(m3.same i hin).1⟩;simp_all[AS.lv,if_pos]
def ze(w:World)(E:En)(L:Nat->Option Nat)(c:Nat):List Rs->List (Bool×List AC)->List Value->Prop
 |(_,_,true)::rs,x::xs,v::vs=>dM w E L c x.1 x.2 v/\ze w E L c rs xs vs
 |(_,_,false)::rs,_::xs,_::vs=>ze w E L c rs xs vs
 |[],[],[]=>True
 |_,_,_=>False
theorem A2{b0:Nat}{A0:Nat->Prop}:∀(rs:List Rs) {vs:List Value} {fs:List (List Nat)} {s:AS} {E:En},aB w0 N s a w E->bR w b0 A0 vs rs fs->(∀b∈fs.flatten,w0.ow b/\(w0.B b\/w0.fr b))->(∀b∈cN rs vs,w0.fr b)->fs.flatten.Nodup->(∀b∈fs.flatten,(b∈cN rs vs->¬E.A b)/\∀j,j<s.n->b∉E.m j/\b∉E.o j)->
 ∃E',aB w0 N (s.pushL (cS false rs s.c)) a w E'/\ze w E' (s.pushL (cS false rs s.c)).lv (s.pushL (cS false rs s.c)).c rs (iQ rs s.n s.c) vs/\pn s.n (s.pushL (cS false rs s.c)).n (· ∈fs.flatten) E E'/\∀b∈fs.flatten,b∈cN rs vs\/E'.A b
 |[],vs,fs,s,E,h,hq,hO,hT,hnd,hf=>by
  cases vs with
  |cons=>exact hq.elim
  |nil=>cases fs with
   |cons=>exact hq.elim
   |nil=>exact⟨E,h,trivial,pn.refl,λb hb=>by cases hb⟩
 |(b,ds,dp)::rs,vs,fs,s,E,h,hq,hO,hT,hnd,hf=>by
  cases vs with
  |nil=>exact hq.elim
  |cons v vs=>cases fs with
   |nil=>exact hq.elim
   |cons f fs=>
    obtain⟨⟨vals,hv,hd⟩,hq⟩:=hq;rw[List.flatten_cons]at hnd hf hO;have hnd':=List.nodup_append.1 hnd
    cases dp with
    |true=>
     have hd:bj w b0 vals ds f:=hd;have htop:cN ((b,ds,true)::rs) (v::vs)=ju vals++cN rs vs:=by grind[cN,od]
     rw[htop]at hT hf ⊢;obtain⟨E1,k1,k2,k3,k4⟩:=K7 (X:=false) hd (λb hb=>hO b (List.mem_append_left _ hb)) (λu hu b hb=>hT b (List.mem_append_left _ (List.mem_flatMap.2 ⟨u,hu,hb⟩))) (λe=>by cases e) h (λb hb=>⟨λe=>(hf b (List.mem_append_left _ hb)).1 (e.elim (λe=>by cases e) λ⟨u,hu,h2⟩=>List.mem_append_left _ (List.mem_flatMap.2 ⟨u,hu,h2⟩)),(hf b (List.mem_append_left _ hb)).2⟩);obtain⟨p1,p2,p3,p4⟩:=iO (jQ false ds s.c) s
     have hfs:∀b∈fs.flatten,(b∈cN rs vs->¬E1.A b)/\∀j,j<(s.pushL (jQ false ds s.c)).n->b∉E1.m j/\b∉E1.o j:=by
      intro b hb;obtain⟨q1,q2⟩:=hf b (List.mem_append_right _ hb);have hbf:b∉f:=λhbf=>hnd'.2.2 b hbf b hb rfl
      refine⟨λht hA1=>?_,λj hj=>?_⟩
      ·rcases k3.A' b hA1 with h1|h1
       ·grind
       grind
      ·by_cases hjn:j<s.n
       ·obtain⟨_,e2,e3⟩:=k3.same j hjn;rw[e2,e3];grind
       ·exact⟨λhm=>hbf (k3.new j (by omega) hj b (.inl hm)),λhm=>hbf (k3.new j (by omega) hj b (.inr hm))⟩
     obtain⟨E2,m1,m2,m3,m4⟩:=A2 rs k1 hq (λb hb=>hO b (List.mem_append_right _ hb)) (λb hb=>hT b (List.mem_append_right _ hb)) hnd'.2.1 hfs
     have e:s.pushL (cS false ((b,ds,true)::rs) s.c)=(s.pushL (jQ false ds s.c)).pushL (cS false rs (s.pushL (jQ false ds s.c)).c):=by
      rw[p2,cS,uR]
     rw[e];refine⟨E2,m1,?_,?_,λx hx=>?_⟩
     ·grind[iQ,ze,mu,Fn,tN]
     ·refine(k3.trans (H:=(· ∈(f::fs).flatten)) m3 (by omega) (λb hb=>?_) (λb hb=>?_))
      ·rw[List.flatten_cons];grind
      grind
     ·rw[List.flatten_cons]at hx;rcases List.mem_append.1 hx with hx|hx
      ·rcases k4 rfl x hx with⟨u,hu,hb⟩|hA
       ·exact .inl (List.mem_append_left _ (List.mem_flatMap.2 ⟨u,hu,hb⟩))
       ·exact .inr (m3.A x hA)
      grind
    |false=>
     have hd:f=[]/\aH w A0 vals ds:=hd;obtain⟨rfl,hr⟩:=hd;obtain⟨E2,m1,m2,m3,m4⟩:=A2 rs h hq (λb hb=>hO b (List.mem_append_right _ hb)) hT hnd'.2.1 (λb hb=>hf b (List.mem_append_right _ hb));refine⟨E2,m1,m2,?_,?_⟩
     ·rw[List.flatten_cons,List.nil_append];exact m3
     assumption
theorem I0{vs:List Value}{B A:Nat->Prop}{fr:Nat->Prop}{hfr:∀b,w.heap.size<=b->fr b}{cu:Option (Nat×Value)}{ow:Nat->Prop}{how:∀b,fr b->ow b}(hA:∀b,A b->B b)(hB:∀b,B b->b<w.heap.size)(hN:vs.length<=N):
 aB ⟨w,B,fr,hfr,cu,ow,how⟩ N (iA []) {tmps:=vs.toArray++Array.replicate (N-vs.toArray.size) undef,defers:=[]} w ⟨λ_=>undef,λ_=>[],λ_=>[],A⟩:=
 ⟨by grind,rfl,⟨rfl,rfl,rfl,Nat.le_refl _,λ_ _=>rfl⟩,λi hi=>by grind[iA],λt=>by simp only[iA,List.getElem?_nil];trivial,λb hb=>hB b (hA b hb),λb hb i hi=>by grind,λi hi=>by grind,λi j hi=>by grind,
  λi j hi=>by grind,λi hi=>by grind,λb hb=>.inl (hA b hb),λi hi=>by grind,λi hi=>by grind⟩
theorem Ae{b0:Nat}{A0:Nat->Prop}:∀{rs:List Rs} {vs:List Value} {fs:List (List Nat)},bR w b0 A0 vs rs fs->vs.length=rs.length
 |[],[],_,_=>rfl
 |[],_::_,_,h=>h.elim
 |_::_,[],_,h=>h.elim
 |_::_,_::_,[],h=>h.elim
 |_::rs,_::vs,_::fs,h=>by simp[Ae h.2]
theorem ms{L:Nat->Option Nat}{c b0:Nat}{A0:Nat->Prop}:∀{rs:List Rs} {vs:List Value} {fs:List (List Nat)} {n' c':Nat},ze w E L c rs (iQ rs n' c') vs->bR w b0 A0 vs rs fs->(∀b,A0 b->E.A b)->my w E L c (iQ rs n' c') vs
 |[],[],_,_,_,_,_,_=>trivial
 |[],_::_,_,_,_,_,h,_=>h.elim
 |_::_,[],_,_,_,_,h,_=>h.elim
 |_::_,_::_,[],_,_,_,h,_=>h.elim
 |(b,ds,true)::rs,v::vs,f::fs,n',c',hp,hq,hA=>⟨hp.1,ms hp.2 hq.2 hA⟩
 |(b,ds,false)::rs,v::vs,f::fs,n',c',hp,hq,hA=>by
  obtain⟨vals,hv,hd⟩:=hq.1;have hd:f=[]/\aH w A0 vals ds:=hd;exact⟨mu hv (ay.ofRep (hd.2.mono hA)),ms hp hq.2 hA⟩
theorem AD{L:Nat->Option Nat}{c:Nat}:∀{xs:List (Bool×List AC)} {vs:List Value} {t:Nat} {b:Bool} {cs:List AC},my w E L c xs vs->xs[t]? =some (b,cs)->∃v,vs[t]? =some v/\dM w E L c b cs v
 |[],_,t,b,cs,_,h=>by grind
 |_::_,[],_,_,_,h,_=>h.elim
 |x::xs,v::vs,0,b,cs,h,hx=>by
  simp at hx;subst hx
  exact⟨v,rfl,h.1⟩
 |x::xs,v::vs,t+1,b,cs,h,hx=>by
  obtain⟨u,h1,h2⟩:=AD h.2 (by simpa using hx)
  grind
theorem yJ:∀{rs:List Rs} {vs:List Value} {fs:List (List Nat)} {b:Nat},vs.length=rs.length->fs.length=rs.length->b∈cN rs vs->∃(j:Nat) (u:Value) (r:Rs) (f:List Nat),vs[j]? =some u/\rs[j]? =some r/\fs[j]? =some f/\b∈ju (Fo r.1 u)
 |[],_,_,b,_,_,h=>by grind[cN]
 |_::_,[],_,b,h1,_,_=>by grind
 |_::_,_::_,[],b,_,h2,_=>by grind
 |(bb,ds,true)::rs,v::vs,f::fs,b,h1,h2,h=>by
  simp only[cN]at h;rcases List.mem_append.1 h with h|h
  ·exact⟨0,v,_,f,rfl,rfl,rfl,h⟩
  ·obtain⟨j,u,r,f',k1,k2,k3,k4⟩:=yJ (rs:=rs) (vs:=vs) (fs:=fs) (by grind) (by grind) h
   exact⟨j+1,u,r,f',by assumption,by assumption,by assumption,k4⟩
 |(bb,ds,false)::rs,v::vs,f::fs,b,h1,h2,h=>by
  obtain⟨j,u,r,f',k1,k2,k3,k4⟩:=yJ (rs:=rs) (vs:=vs) (fs:=fs) (by grind) (by grind) h;exact⟨j+1,u,r,f',by assumption,by assumption,by assumption,k4⟩
theorem ER{f:FuncId}{fn:Func}{c:Code}{args:List Rs}{res:List Rs}(hf:P.funcs[f]? =some fn)(hb:fn.body=some c)(hc:a9 P f=true)(hN:args.length<=fn.ntmps)
 (hdp:∀r∈res,r.2.2=true) (h:sW P fn.ntmps c (GB P fn.results.toList res) (F4 args)):fI P f args res:=by
 refine⟨hc,hdp,λw B vs fs hB hq hnd hin=>?_⟩;refine calls_of_wp hf hb ?_;have hlen:=Ae hq
 have htop:∀b∈cN args vs,b∈fs.flatten:=by
  clear hB hin hnd h
  induction args generalizing vs fs with
  |nil=>grind[cN]
  |cons r rs ih=>
   cases vs with
   |nil=>grind
   |cons v vs=>cases fs with
    |nil=>exact hq.elim
    |cons f fs=>
     obtain⟨bb,ds,dp⟩:=r;intro b hb;rw[List.flatten_cons];have ih:=ih (vs:=vs) (fs:=fs) (by grind) hq.2 (by grind)
     cases dp with
     |false=>exact List.mem_append_right _ (ih b hb)
     |true=>
      obtain⟨vals,hv,hd⟩:=hq.1;simp only[cN,od hv]at hb;rcases List.mem_append.1 hb with hb|hb
      ·obtain⟨u,hu,hb⟩:=List.mem_flatMap.1 hb
       grind[List.mem_append_left,xO]
      grind
 have h0:=I0 (w:=w) (vs:=vs) (N:=fn.ntmps) (B:=B) (A:=λb=>B b/\b∉fs.flatten) (fr:=λb=>b∈cN args vs\/w.heap.size<=b) (hfr:=λ_ h=>.inr h) (cu:=none) (ow:=λb=>b∈fs.flatten\/w.heap.size<=b) (how:=λb h=>h.imp (htop b) id)
  (λb hb=>hb.1) (λb hb=>(hB b hb).1) (by omega)
 obtain⟨E',k1,k2,k3,k4⟩:=A2 args h0 hq (λb hb=>⟨.inl hb,(hin b hb).symm.imp id .inl⟩) (λb hb=>.inl hb) hnd (λb hb=>⟨λ_ hA=>hA.2 hb,λj hj=>by grind⟩)
 have hAll:=ms k2 hq (λb hb=>by
  by_cases hbf:b∈fs.flatten
  ·grind
  ·exact k3.A b ⟨hb,hbf⟩)
 have h1:aB ⟨w,B,λb=>b∈cN args vs\/w.heap.size<=b,λ_ h=>.inr h,none,λb=>b∈fs.flatten\/w.heap.size<=b,λb h=>h.imp (htop b) id⟩ fn.ntmps (F4 args) {tmps:=vs.toArray++Array.replicate (fn.ntmps-vs.toArray.size) undef,defers:=[]} w E':=by
  refine⟨k1.size,k1.defers,k1.bel,k1.obj,λt=>?_,k1.A_lt,k1.A_m,k1.A_o,k1.mm,k1.oo,k1.m_lt,k1.anc,k1.mF,k1.oF⟩;show bc w E' _ _ (match(iQ args 0 0)[t]? with|some (b,cs)=>.p b cs|none=>.und) _;split
  ·rename_i b cs hx;obtain⟨v,hv,hp⟩:=AD hAll hx;have hlt:t<vs.length:=(List.getElem?_eq_some_iff.1 hv).1
   have hgd:(vs.toArray++Array.replicate (fn.ntmps-vs.toArray.size) undef).getD t undef=v:=by
    have:vs[t]=v:=(List.getElem?_eq_some_iff.1 hv).2;simp[Array.getElem?_append,hlt,this]
   show dM _ _ _ _ b cs _;rw[hgd];exact hp
  ·trivial
 refine Code.wp_mono (λe a' w' he=>?_) (h _ _ w _ h1);obtain⟨s,E,hq',hr⟩:=he
 have key:dy P s fn.results.toList res s\/pT P s fn.results.toList res->a'.defers=[]/\∃v,(results fn a'.tmps).run P w'=.ok v w'/\Sr w (cN args vs) fs.flatten res (.returned v) w':=by
  intro hq';obtain⟨us,fs',r1,r2,r3,r4,r5,r6⟩:=nW hr (Ex hdp hq') hr fh.refl;have r6':=λ(j:Nat) (u:Value) (r:Rs) (f:List Nat) (k1:us[j]? =some u) (k2:res[j]? =some r) (k3:fs'[j]? =some f)=>(by grind:r.2.2=true/\∃vals:List Value,(if r.1 then u=.agg vals.toArray else vals=[u])/\bj w' 0 vals r.2.1 f)
  obtain⟨v,q1,q2⟩:=gF r1;refine⟨hr.defers,v,q1,v,rfl,⟨hr.bel.os,hr.bel.tape,hr.bel.output,hr.bel.size,λb hb hn=>hr.bel.block b (λhf=>hf.elim hn (λhf=>by have:w.heap.size<=b:=hf;omega))⟩,us,fs',by rw[r2]at q2;exact q2,DZ r2 r3 r6',r4,λb hb=>?_,λb hb=>?_⟩
  ·obtain⟨j,hj,h1⟩:=r5 b hb;exact h1.elim (λh2=>(hr.mF j hj b h2).imp (htop b) id) (hr.oF j hj b)
  ·obtain⟨j,u,r,f,k1,k2,k3,k4⟩:=yJ r2 r3 hb;obtain⟨-,vals,q2,-,q4⟩:=r6 j u r f k1 k2 k3;rw[od q2]at k4;obtain⟨x,hx,hb2⟩:=List.mem_flatMap.1 k4;obtain⟨j2,hj2,h1⟩:=q4 x hx b hb2;exact hr.mF j2 hj2 b h1
 cases e with
 |normal=>exact key hq'
 |ret=>exact key hq'
 |_=>exact hq'.elim
end
end Go.Proofs.Ytgdbmcoamemmaaa
namespace Go.Proofs.Ytgdbmcoamemmaaa
open Go.RowKit
section
variable {P:Program}{w0:Cx}{w w':World}{N:Nat}{s:AS}{a:Act}{E:En}{o:Oper}
theorem aB.wrote(h:aB w0 N s a w E){g:List Nat}(hw:AE w w' g)(hg:∀b∈g,¬E.A b/\w0.fr b/\∀j,j<s.n->b∉E.m j):aB w0 N s a w' E:=by
 have hstay:fh w E s.lv s.c w' E s.lv s.c:=⟨λb hb=>⟨hb,hw.block b (h.A_lt b hb) λhbg=>(hg b hbg).1 hb⟩,λi st _ hl=>⟨hl,rfl⟩,Nat.le_refl _⟩
 exact⟨h.size,h.defers,⟨hw.os.trans h.bel.os,hw.tape.trans h.bel.tape,hw.output.trans h.bel.output,Nat.le_trans h.bel.size hw.size,λb hb=>(hw.block b (Nat.lt_of_lt_of_le (Cx.lt hb) h.bel.size) (λhbm=>hb (hg b hbm).2.1)).trans (h.bel.block b hb)⟩,
  λi hi=>(h.obj i hi).stay hstay rfl rfl rfl (λb hbm=>hw.block b (h.m_lt i hi b hbm) λhbg=>(hg b hbg).2.2 i hi hbm) (λb hbo=>h.A_o i hi b hbo),
  λt=>(h.slot t).stay hstay,λb hb=>Nat.lt_of_lt_of_le (h.A_lt b hb) hw.size,h.A_m,h.A_o,h.mm,h.oo,λi hi b hbm=>Nat.lt_of_lt_of_le (h.m_lt i hi b hbm) hw.size,h.anc,h.mF,h.oF⟩
theorem yL{b0:Nat}{A0:Nat->Prop}:∀{rs:List Rs} {vs:List Value} {fs:List (List Nat)},bR w b0 A0 vs rs fs->∀b∈cN rs vs,b∈fs.flatten
 |[],[],_,_=>by grind[cN]
 |[],_::_,_,h=>h.elim
 |_::_,[],_,h=>h.elim
 |_::_,_::_,[],h=>h.elim
 |(b',ds,true)::rs,v::vs,f::fs,h=>by
  intro b hb;obtain⟨vals,hv,hd⟩:=h.1;rw[List.flatten_cons];simp only[cN,od hv]at hb;rcases List.mem_append.1 hb with hb|hb
  ·obtain⟨u,hu,hb⟩:=List.mem_flatMap.1 hb
   grind[List.mem_append_left,xO]
  ·exact List.mem_append_right _ (yL h.2 b hb)
 |(b',ds,false)::rs,v::vs,f::fs,h=>by
  intro b hb;rw[List.flatten_cons];exact List.mem_append_right _ (yL h.2 b hb)
structure RB(w0:Cx)(N:Nat)(s s':AS)(a:Act)(w:World)(E:En)(us:List Value)(ds:List DV)(E':En)(f:List Nat):Prop where
 rep:aB w0 N s' a w E'
 own:bj w 0 us ds f
 A':E'.A=E.A
 v:E'.v=E.v
 m':∀i,∀b∈E'.m i,b∈E.m i
 o':∀i,∀b∈E'.o i,b∈E.o i
 from_:∀b∈f,∃j,j<s.n/\(b∈E.m j\/b∈E.o j)
 nm:∀b∈f,∀j,j<s.n->b∉E'.m j/\b∉E'.o j
 top:∀b∈f,b∈ju us\/E.A b
 tm:∀b∈ju us,∃j,j<s.n/\b∈E.m j
def rC(s s':AS)(xs:List AC)(ds:List DV):Prop:=
 s'.n=s.n/\s'.c=s.c/\s'.sl=s.sl/\(∀i st,s'.lv i=some st->s.lv i=some st)/\
  ∀w0 N a w E us,aB w0 N s a w E->ay w E s.lv s.c xs us->∃E' f,RB w0 N s s' a w E us ds E' f
theorem JE:rC s s [] []:=
 ⟨rfl,rfl,rfl,λ_ _ h=>h,λw0 N a w E us h hc=>⟨E,[],h,by rw[hc.nil'];exact .nil,rfl,rfl,λ_ _ h=>h,λ_ _ h=>h,by simp,by simp,by simp,by rw[hc.nil'];simp[ju]⟩⟩
theorem Ly{s':AS}{v:Value}{xs:List AC}{ds:List DV}(h:rC s s' xs ds):rC s s' (.d (.sc v)::xs) (.sc v::ds):=by
 obtain⟨h1,h2,h3,h4,h5⟩:=h;refine⟨h1,h2,h3,h4,λw0 N a w E us hr hc=>?_⟩;obtain⟨u,us,rfl,c1,c2⟩:=hc.cons';obtain⟨E',f,hg⟩:=h5 w0 N a w E us hr c2;obtain⟨rfl,hs⟩:=aH.scOf c1
 have e:ju (u::us)=ju us:=by
  cases u<;>simp[Sc,ju,Value.ownBlock]at hs ⊢
 exact⟨E',f,hg.rep,.sc hs hg.own,hg.A',hg.v,hg.m',hg.o',hg.from_,hg.nm,by rw[e];exact hg.top,by rw[e];exact hg.tm⟩
theorem GD{s':AS}{t k:Nat}{xs:List AC}{ds:List DV}(hk:0<k)(h:rC s s' xs ds):rC s s' (.nil::xs) (.sl t k []::ds):=by
 obtain⟨h1,h2,h3,h4,h5⟩:=h;refine⟨h1,h2,h3,h4,λw0 N a w E us hr hc=>?_⟩;obtain⟨u,us,rfl,c1,c2⟩:=hc.cons';obtain⟨E',f,hg⟩:=h5 w0 N a w E us hr c2;obtain rfl:u=.slice none 0 0:=c1;have e:ju (.slice none 0 0::us)=ju us:=by rfl
 refine⟨E',f,hg.rep,?_,hg.A',hg.v,hg.m',hg.o',hg.from_,hg.nm,by rw[e];exact hg.top,by rw[e];exact hg.tm⟩;have:=bj.sl (v:=.slice none 0 0) (t:=t) (k:=k) (es:=[]) (cells:=[]) (g:=[]) (World.ownsRow_nil _ _ _ _) hk (by simp) .nil hg.own (by simpa[Value.ownBlock]using hg.own.nodup)
 assumption
theorem Iy{s':AS}{i st t k:Nat}{es:List (List DV)}{xs:List AC}{ds:List DV}(hi:s.own? i st=some (.row st t k es true))(h:rC (s.kill i) s' xs ds):rC s s' (.own i st::xs) (.sl t k es::ds):=by
 obtain⟨h1,h2,h3,h4,h5⟩:=h;refine⟨h1,h2,h3,λj st hl=>s7 j st (h4 j st hl),λw0 N a w E us hr hc=>?_⟩;obtain⟨u,us,rfl,c1,c2⟩:=hc.cons';obtain⟨hin,hob,hlv⟩:=am hi;have hu:u=E.v i:=c1.2 hlv;subst hu;have hO:=hr.obj i hin;rw[hob]at hO;obtain⟨cells,hst,g1,g2,g3,g4,g5⟩:=hO;simp only[if_pos]at g5
 have hown:bj w 0 [E.v i] [.sl t k es] (E.m i++E.o i):=by
  have:=bj.sl (vs:=[]) (ds:=[]) (f:=[]) g1 g2 g3 g5 .nil (by
   rw[List.append_nil,<-g4];refine List.nodup_append.2 ⟨?_,g5.nodup,λb hb b' hb' e=>?_⟩
   ·rw[g4];cases (E.v i).ownBlock<;>simp
   ·subst e;exact hr.A_m b (hr.A_o i hin b hb') i hin hb)
  rwa [List.append_nil,<-g4]at this
 have k1:=Ba hr hin
 have ev:upd E.v i (E.v i)=E.v:=by
  funext j;grind[ae,aE]
 have c2':ay w ⟨upd E.v i (E.v i),upd E.m i [],upd E.o i [],E.A⟩ (s.kill i).lv (s.kill i).c xs us:=
  c2.stay ⟨λb hb=>⟨hb,rfl⟩,λj st _ hl=>⟨s7 j st hl,by simp_all⟩,Nat.le_refl _⟩
 obtain⟨E2,f,hg⟩:=h5 w0 N a w _ us k1 c2'
 have dm:∀j,∀b∈upd E.m i [] j,j≠i/\b∈E.m j:=by
  grind[ae,aE]
 have dO:∀j,∀b∈upd E.o i [] j,j≠i/\b∈E.o j:=by
  grind[ae,aE]
 have dis:∀b∈E.m i++E.o i,∀j,j<s.n->b∉upd E.m i [] j/\b∉upd E.o i [] j:=by
  intro b hb j hj;rcases List.mem_append.1 hb with hb|hb
  ·exact⟨λh=>by obtain⟨e,h⟩:=dm j b h;exact hr.mm i j hin hj (Ne.symm e) b hb h,λh=>by obtain⟨e,h⟩:=dO j b h;exact hr.A_m b (hr.A_o j hj b h) i hin hb⟩
  ·exact⟨λh=>by obtain⟨e,h⟩:=dm j b h;exact hr.A_m b (hr.A_o i hin b hb) j hj h,λh=>by obtain⟨e,h⟩:=dO j b h;exact hr.oo i j hin hj (Ne.symm e) b hb h⟩
 have e:ju (E.v i::us)=E.m i++ju us:=by grind[ju]
 refine⟨E2,(E.m i++E.o i)++f,hg.rep,hown.app hg.own (λb hb hbf=>?_),hg.A',hg.v.trans ev,λj b hb=>(dm j b (hg.m' j b hb)).2,λj b hb=>(dO j b (hg.o' j b hb)).2,?_,?_,?_,?_⟩
 ·obtain⟨j,hj,hbj⟩:=hg.from_ b hbf;exact hbj.elim (dis b hb j hj).1 (dis b hb j hj).2
 ·intro b hb;rcases List.mem_append.1 hb with hb|hb
  ·grind
  ·obtain⟨j,hj,hbj⟩:=hg.from_ b hb;exact⟨j,hj,hbj.imp (λh=>(dm j b h).2) (λh=>(dO j b h).2)⟩
 ·intro b hb j hj;rcases List.mem_append.1 hb with hb|hb
  ·exact⟨λh=>(dis b hb j hj).1 (hg.m' j b h),λh=>(dis b hb j hj).2 (hg.o' j b h)⟩
  ·exact hg.nm b hb j hj
 ·intro b hb;rw[e];rcases List.mem_append.1 hb with hb|hb
  ·rcases List.mem_append.1 hb with hb|hb
   ·grind
   ·exact .inr (hr.A_o i hin b hb)
  ·exact(hg.top b hb).imp (λh=>List.mem_append_right _ h) id
 ·intro b hb;rw[e]at hb;rcases List.mem_append.1 hb with hb|hb
  ·grind
  ·obtain⟨j,hj,h⟩:=hg.tm b hb;exact⟨j,hj,(dm j b h).2⟩
def tx(s0 sF:AS):List Operand->List Rs->AS->Prop
 |x::xs,(b,ds,true)::rs,s=>match s0.ev x with
  |.p b' cs=>b'=b/\∃s1,rC s s1 cs ds/\tx s0 sF xs rs s1
  |_=>False
 |x::xs,(b,ds,false)::rs,s=>match s0.ev x with
  |.p b' cs=>b'=b/\FQ sF cs ds/\tx s0 sF xs rs s
  |_=>False
 |[],[],s=>s=sF
 |_,_,_=>False
structure SD(w0:Cx)(N:Nat)(s0:AS)(E0:En)(s sF:AS)(a:Act)(w:World)(E:En)(vs:List Value)(rs:List Rs)(E':En)(fs:List (List Nat)):Prop where
 rep:aB w0 N sF a w E'
 q:bR w 0 (AM sF E') vs rs fs
 nd:fs.flatten.Nodup
 n:sF.n=s.n
 c:sF.c=s.c
 A':E'.A=E.A
 stay:fh w E0 s0.lv s0.c w E' sF.lv sF.c
 m':∀i,∀b∈E'.m i,b∈E.m i
 o':∀i,∀b∈E'.o i,b∈E.o i
 from_:∀b∈fs.flatten,∃j,j<s.n/\(b∈E.m j\/b∈E.o j)
 nm:∀b∈fs.flatten,∀j,j<s.n->b∉E'.m j/\b∉E'.o j
 top:∀b∈fs.flatten,b∈cN rs vs\/E.A b
 tm:∀b∈cN rs vs,∃j,j<s.n/\b∈E.m j
theorem xk{s0 sF:AS}{E0:En}(h0:aB w0 N s0 a w E0):∀{xs:List Operand} {rs:List Rs} {s:AS} {E:En},tx s0 sF xs rs s->aB w0 N s a w E->fh w E0 s0.lv s0.c w E s.lv s.c->
 ∃E' fs,SD w0 N s0 E0 s sF a w E (xs.map a.eval) rs E' fs
 |[],[],s,E,ht,h,hst=>by
  have ht:s=sF:=ht;subst ht
  exact⟨E,[],h,trivial,by simp,rfl,rfl,rfl,hst,λ_ _ h=>h,λ_ _ h=>h,by simp,by simp,by simp,by simp[cN]⟩
 |[],_::_,_,_,ht,_,_=>ht.elim
 |x::xs,[],_,_,ht,_,_=>ht.elim
 |x::xs,(b,ds,true)::rs,s,E,ht,h,hst=>by
  simp only[tx]at ht;split at ht
  ·rename_i b' cs he;obtain⟨rfl,s1,⟨t1,t2,t3,t4,t5⟩,ht⟩:=ht;have hev:=aL h0 x;rw[he]at hev;obtain⟨vals,hp,hcell⟩:=gv hev;obtain⟨E1,f,hg⟩:=t5 w0 N a w E vals h (hcell.stay hst)
   have hst':fh w E0 s0.lv s0.c w E1 s1.lv s1.c:=by
    refine⟨λb hb=>⟨by rw[hg.A'];exact(hst.A b hb).1,rfl⟩,λi st hlt hl=>?_,by rw[t2];exact hst.c⟩;obtain⟨k1,k2⟩:=hst.L i st hlt (t4 i st hl);exact⟨k1,by rw[hg.v];exact k2⟩
   obtain⟨E2,fs,r⟩:=xk h0 ht hg.rep hst';have etop:cN ((b',ds,true)::rs) (a.eval x::xs.map a.eval)=ju vals++cN rs (xs.map a.eval):=by grind[cN,od]
   refine⟨E2,f::fs,r.rep,⟨⟨vals,hp,hg.own⟩,r.q⟩,?_,r.n.trans t1,r.c.trans t2,r.A'.trans hg.A',r.stay,λi b hb=>hg.m' i b (r.m' i b hb),λi b hb=>hg.o' i b (r.o' i b hb),?_,?_,?_,?_⟩
   ·rw[List.flatten_cons];refine List.nodup_append.2 ⟨hg.own.nodup,r.nd,λy hy z hz e=>?_⟩;subst e;obtain⟨j,hj,hbj⟩:=r.from_ y hz;rw[t1]at hj;exact hbj.elim (hg.nm y hy j hj).1 (hg.nm y hy j hj).2
   ·intro y hy;rw[List.flatten_cons]at hy;rcases List.mem_append.1 hy with hy|hy
    ·exact hg.from_ y hy
    ·obtain⟨j,hj,hbj⟩:=r.from_ y hy;exact⟨j,by rw[t1]at hj;exact hj,hbj.imp (hg.m' j y) (hg.o' j y)⟩
   ·intro y hy j hj;rw[List.flatten_cons]at hy;rcases List.mem_append.1 hy with hy|hy
    ·exact⟨λh=>(hg.nm y hy j hj).1 (r.m' j y h),λh=>(hg.nm y hy j hj).2 (r.o' j y h)⟩
    ·exact r.nm y hy j (by rw[t1];exact hj)
   ·intro y hy;rw[List.flatten_cons]at hy;rw[List.map_cons,etop];rcases List.mem_append.1 hy with hy|hy
    ·exact(hg.top y hy).imp (λh=>List.mem_append_left _ h) id
    ·exact(r.top y hy).imp (λh=>List.mem_append_right _ h) (λh=>by rw[<-hg.A'];exact h)
   ·intro y hy;rw[List.map_cons,etop]at hy;rcases List.mem_append.1 hy with hy|hy
    ·exact hg.tm y hy
    ·obtain⟨j,hj,hb⟩:=r.tm y hy;exact⟨j,by rw[t1]at hj;exact hj,hg.m' j y hb⟩
  grind
 |x::xs,(b,ds,false)::rs,s,E,ht,h,hst=>by
  simp only[tx]at ht;split at ht
  ·rename_i b' cs he;obtain⟨rfl,hrd,ht⟩:=ht;have hev:=aL h0 x;rw[he]at hev;obtain⟨vals,hp,hcell⟩:=gv hev;obtain⟨E2,fs,r⟩:=xk h0 ht h hst
   exact⟨E2,[]::fs,r.rep,⟨⟨vals,hp,rfl,Ey r.rep (hcell.stay r.stay) hrd⟩,r.q⟩,by rw[List.flatten_cons];exact r.nd,r.n,r.c,r.A',r.stay,r.m',r.o',by rw[List.flatten_cons];exact r.from_,by rw[List.flatten_cons];exact r.nm,
    by rw[List.flatten_cons];exact r.top,r.tm⟩
  grind
theorem IQ{f:FuncId}{args:Array Operand}{ts:Array TypeId}{rs res:List Rs}{sF:AS}(ho:o.op=.call ⟨.value (.func f),args,ts⟩)(hd:dB N o.dst=true)(hm:fI P f rs res)(ht:tx s sF args.toList rs s):
 fF P N o s ((sF.pushL (cS false res sF.c)).put o.dst (mL res sF.n sF.c)):=by
 intro w0 a w E h;obtain⟨hc,hdp,hm⟩:=hm;obtain⟨E1,fs,r⟩:=xk h ht h fh.refl;have hts:=yL r.q
 have hB:∀b,AM sF E1 b->b<w.heap.size/\b∉cN rs (args.toList.map a.eval):=by
  intro b hb;refine⟨?_,λhbt=>?_⟩
  ·rcases hb with hb|⟨j,hj,hjd,hb⟩
   ·exact r.rep.A_lt b hb
   ·exact r.rep.m_lt j hj b hb
  ·rcases hb with hb|⟨j,hj,hjd,hb⟩
   ·obtain⟨j,hj,h1⟩:=r.tm b hbt;exact h.A_m b (by rw[<-r.A'];exact hb) j hj h1
   ·exact(r.nm b (hts b hbt) j (by rw[<-r.n];exact hj)).1 hb
 unfold Oper.wp;rw[lh ho hc,Oper.upon_enter];refine(hm w _ _ fs hB r.q r.nd (λb hb=>(r.top b hb).imp id λh=>.inl (by rw[r.A'];exact h))).mono ?_;rintro e w' ⟨v,rfl,hw,us,fs',hv,hq,hnd,hfg,htg⟩;simp only
 have htf:∀b∈cN rs (args.toList.map a.eval),¬E1.A b/\w0.fr b/\∀j,j<sF.n->b∉E1.m j:=by
  intro b hb;obtain⟨j,hj,h1⟩:=r.tm b hb;exact⟨λhA=>h.A_m b (by rw[<-r.A'];exact hA) j hj h1,h.mF j hj b h1,λj hj=>(r.nm b (hts b hb) j (by rw[<-r.n];exact hj)).1⟩
 have hrep:=r.rep.wrote hw htf
 obtain⟨E2,q1,q2,q3,-⟩:=A2 res hrep hq (λb hb=>by
  rcases hfg b hb with h6|h6
  ·obtain⟨j,hj,h1⟩:=r.from_ b h6;refine⟨h1.elim (λh2=>w0.how _ (h.mF j hj b h2)) (h.oF j hj b),?_⟩;rcases r.top b h6 with h7|h7
   ·grind
   ·exact h.anc b h7
  ·have:=w0.hfr b (Nat.le_trans h.bel.size h6);exact⟨w0.how _ this,.inr this⟩) (λb hb=>(htg b hb).elim (λh6=>(htf b h6).2.1) λh6=>w0.hfr b (Nat.le_trans h.bel.size h6)) hnd (λb hb=>by
  refine⟨λhbt hA=>?_,λj hj=>?_⟩
  ·rcases htg b hbt with h6|h6
   ·grind
   ·have:=r.rep.A_lt b hA;omega
  ·rcases hfg b hb with h6|h6
   ·exact r.nm b h6 j (by rw[<-r.n];exact hj)
   ·refine⟨λhm=>?_,λhm=>?_⟩
    ·have:=r.rep.m_lt j hj b hm;omega
    ·have:=r.rep.A_lt b (r.rep.A_o j hj b hm);omega)
 exact⟨E2,q1.put (tu (ms q2 hq (λ_ h=>h.elim)) hv) (fU hd)⟩
def Fh:List Bool->List (Bool×List DV)->List Rs
 |g::gs,(b,ds)::ys=>(b,ds,g)::Fh gs ys
 |_,_=>[]
def za:Nat->Nat->List Bool
 |0,_=>[]
 |n+1,b=>(b % 2==1)::za n (b / 2)
end
end Go.Proofs.Ytgdbmcoamemmaaa
namespace Go.Proofs.Ytgdbmcoamemmaaa
open Go.RowKit
abbrev VC:=Bool×DV
def TQ(w:World)(A:Nat->Prop)(v:Value)(d:DV):Prop:=∃t k es cells,d=.sl t k es/\w.ownsRow 0 t k v es.length cells/\0<k/\(∀e∈es,e.length=k)/\aH w A cells es.flatten
def AW(w:World)(A:Nat->Prop):List VC->List Value->List Nat->Prop
 |(false,d)::cs,v::vs,f=>aH w A [v] [d]/\AW w A cs vs f
 |(true,d)::cs,v::vs,f=>∃f',f=v.ownBlock.toList++f'/\TQ w A v d/\AW w A cs vs f'
 |[],[],f=>f=[]
 |_,_,_=>False
def Vh(w w':World)(B:Nat->Prop)(g:Nat)(f f':List Nat)(b:Nat):Prop:=B b\/((b∈f\/w.heap.size<=b)/\b<w'.heap.size/\b≠g/\b∉f')
def Tm(w:World)(B:Nat->Prop)(g:Nat)(f:List Nat)(T:TypeId)(cs':List VC)(res:List (Bool×List DV))(e:Ending)(w':World):Prop:=
 ∃v,e=.returned v/\AE w w' (g::f)/\∃(vals':List Value) (f':List Nat) (us:List Value),lZ w' g T vals'.toArray/\f'.Nodup/\g∉f'/\(∀b∈f',b∈f\/w.heap.size<=b)/\AW w' (Vh w w' B g f f') cs' vals' f'/\
  (if res.length=1 then us=[v]else v=.tuple us.toArray)/\eg w' (Vh w w' B g f f') us res
def Qt(P:Program)(fn:FuncId)(T:TypeId)(cs:List VC)(args:List (Bool×List DV))(cs':List VC)(res:List (Bool×List DV)):Prop:=
 a9 P fn=true/\∀(w:World) (B:Nat->Prop) (g:Nat) (vals:List Value) (f:List Nat) (vs:List Value),(∀b,B b->b<w.heap.size/\b≠g/\b∉f)->g∉f->f.Nodup->lZ w g T vals.toArray->AW w B cs vals f->eg w B vs args->
  Calls P fn (.pointer (some ⟨g,0,none⟩)::vs).toArray w (Tm w B g f T cs' res)
section
variable {P:Program}{w0:Cx}{w w':World}{N:Nat}{s:AS}{a:Act}{E:En}{o:Oper}
def D3(pv:Bool)(st:Nat)(T:TypeId)(cs:List AC):Ob:=if pv then .pvr st T cs else .var st T cs
theorem xG{pv:Bool}{st:Nat}{T:TypeId}{cs:List AC}:(D3 pv st T cs).st=some st:=by cases pv<;>rfl
theorem AJ{cu:Option (Nat×Value)}{L:Nat->Option Nat}{c i st:Nat}{pv:Bool}{T:TypeId}{cs:List AC}(h:MQ cu w 0 E L c i (D3 pv st T cs)):
 ∃g vals,st<c/\E.v i=.pointer (some ⟨g,0,none⟩)/\E.m i=[g]/\E.o i=[]/\lZ w g T (vals:List Value).toArray/\ay w E L c cs vals/\(pv=true->∃u,cu=some (g,u)):=by
 cases pv with
 |true=>obtain⟨g,vals,h1,h2,h3,h4,h5,h6,h7⟩:=h;grind
 |false=>obtain⟨g,vals,h1,h2,h3,h4,_,h5,h6⟩:=h;grind
theorem Il{cu:Option (Nat×Value)}{L:Nat->Option Nat}{c i st g:Nat}{pv:Bool}{T:TypeId}{cs:List AC}{vals:List Value}(h1:st<c)(h2:E.v i=.pointer (some ⟨g,0,none⟩))(h3:E.m i=[g])(h4:E.o i=[])(h5:lZ w g T vals.toArray)(h6:ay w E L c cs vals)
 (h7:pv=true->∃u,cu=some (g,u)):MQ cu w 0 E L c i (D3 pv st T cs):=by
 cases pv with
 |true=>exact⟨g,vals,h1,h2,h3,h4,h5,h6,h7 rfl⟩
 |false=>exact⟨g,vals,h1,h2,h3,h4,Nat.zero_le _,h5,h6⟩
end
end Go.Proofs.Ytgdbmcoamemmaaa
namespace Go.Proofs.Ytgdbmcoamemmaaa
open Go.RowKit
section
variable {P:Program}{w0:Cx}{w w':World}{N:Nat}{s s':AS}{a:Act}{E:En}{o:Oper}
def AU(s:AS)(k:Nat)(c:AC)(news:List (List DV)):Prop:=
 ∀w0 N a w E v,aB w0 N s a w E->dK w E s.lv s.c c v->∃(A:Option Addr) (cp:Nat) (us:List Value) (S:Nat->Prop),v=.slice A news.length cp/\Rd w S k A news.length cp us/\aH w E.A us news.flatten/\∀e∈news,e.length=k
theorem OS{t k:Nat}{es:List (List DV)}:AU s k (.d (.sl t k es)) es:=by
 intro w0 N a w E v h hc;obtain⟨A,cp,us,e1,e2,e3,e4⟩:=A7 (show aH w E.A [v] [.sl t k es]from hc)
 grind
theorem zS{k:Nat}{c:AC}(h:c=.nil\/c=.emp):AU s k c []:=by
 intro w0 N a w E v hr hc
 have:∃A,v=.slice A 0 0:=by
  rcases h with rfl|rfl
  ·exact⟨none,hc⟩
  ·exact hc
 obtain⟨A,rfl⟩:=this;exact⟨A,0,[],λ_=>True,rfl,⟨by simp,Nat.le_refl _,Nat.zero_le _,λh=>absurd h (by simp)⟩,.nil,by simp⟩
theorem By(h:aB w0 N s a w E){i st t k:Nat}{es:List (List DV)}{dp:Bool}(hi:s.own? i st=some (.row st t k es dp)):∃cells,w.ownsRow 0 t k (E.v i) es.length cells/\0<k/\(∀e∈es,e.length=k)/\aH w E.A cells es.flatten:=by
 obtain⟨hin,hob,hlv⟩:=am hi;have hO:=h.obj i hin;rw[hob]at hO;obtain⟨cells,hst,h1,h2,h3,h4,h5⟩:=hO;refine⟨cells,h1,h2,h3,?_⟩
 cases dp with
 |true=>simp only[if_pos]at h5;exact h5.rep.mono λb hb=>h.A_o i hin b hb
 |false=>grind
theorem KE{i st t k:Nat}{es:List (List DV)}{dp:Bool}(hi:s.own? i st=some (.row st t k es dp)):AU s k (.own i st) es:=by
 intro w0 N a w E v h hc;obtain⟨cells,h1,h2,h3,h4⟩:=By h hi;obtain rfl:v=E.v i:=hc.2 (am hi).2.2;obtain⟨A,cp,e1,_,_⟩:=bT h1;rw[e1]at h1;exact⟨A,cp,cells,λ_=>True,e1,(Rd.of_own h1).mono λ_ _=>trivial,h4,h3⟩
theorem K9{i st t k:Nat}{es:List (List DV)}(hi:s.own? i st=some (.frz st (.sl t k es))):AU s k (.own i st) es:=by
 intro w0 N a w E v h hc;obtain⟨hin,hob,hlv⟩:=am hi;obtain rfl:v=E.v i:=hc.2 hlv;obtain⟨A,cp,us,e1,e2,e3,e4⟩:=A7 ((uj h hin hob).mono λ_ h=>h)
 grind
theorem K5{i st t k lo n:Nat}{es:List (List DV)}{dp:Bool}(hi:s.own? i st=some (.row st t k es dp)):AU s k (.sub i st k lo n) ((es.drop lo).take n):=by
 intro w0 N a w E v h hc;obtain⟨cells,h1,h2,h3,h4⟩:=By h hi;obtain⟨A,M,cp,B,e2,e3,e4,e5,e6⟩:=hc.2 (am hi).2.2;obtain⟨A',cp',e7,h8,h9⟩:=bT h1;rw[e2]at e7;injection e7 with e7 e8 e9;subst e7 e8 e9;rw[e2]at h1;have hrd:=Rd.of_own h1;have hl:((es.drop lo).take n).length=n:=by rw[List.length_take,List.length_drop];omega
 have hf:((es.drop lo).take n).flatten=(es.flatten.drop (lo*k)).take (n*k):=li h3;refine⟨B,cp-lo,(cells.drop (lo*k)).take (n*k),λ_=>True,by rw[hl];exact e4,?_,by rw[hf];exact(h4.drop _).take _,λe he=>h3 e (List.mem_of_mem_drop (List.mem_of_mem_take he))⟩;rw[hl];refine⟨by rw[List.length_take,List.length_drop,hrd.1,Nat.min_eq_left];rw[<-Nat.sub_mul];exact Nat.mul_le_mul_right _ (by omega),by omega,by omega,λhn=>?_⟩;obtain⟨g,cap',hv,hb,hlt⟩:=h1.form (by omega);injection hv with e7 e8 e9;subst e7;have hadd:∀(b off j:Nat),(⟨b,off,none⟩:Addr).add j=⟨b,off+j,none⟩:=by intro b off j;unfold Addr.add;split<;>simp_all
 refine⟨⟨g,0+lo*k,none⟩,by rw[e6 hn];grind,trivial,λj u hu=>?_⟩;rw[List.getElem?_take]at hu;split at hu
 ·rw[List.getElem?_drop]at hu;have:=h1.cells (g:=g) rfl _ _ hu;rw[hadd]at this ⊢;rw[Nat.add_assoc];omega
 grind
def AS.cutS(s:AS)(i t k n:Nat)(es:List (List DV)):AS:={s with ob:=upd s.ob i (.row s.c t k (es.take n) false),c:=s.c+1}
theorem NE(h:aB w0 N s a w E){i st t k n N0 cp:Nat}{A:Option Addr}{es:List (List DV)}{dp:Bool}(hi:s.own? i st=some (.row st t k es dp))(hE:E.v i=.slice A N0 cp)(hn:n<=es.length):
 ∃E',aB w0 N (s.cutS i t k n es) a w E'/\E'.v i=.slice A n cp/\∀j,j≠i->E'.v j=E.v j:=by
 obtain⟨cells,q1,q2,q3,q4⟩:=By h hi;obtain⟨hin,hob,hlv⟩:=am hi;have hO:=h.obj i hin;rw[hob]at hO;obtain⟨_,hst,_,_,_,h4,_⟩:=hO;obtain⟨A',c',e6,_,_⟩:=bT q1;rw[hE]at e6;injection e6 with g1 g2 g3;subst g2 g3;rw[hE]at q1;have h1':=Bi q1 hn
 have hft:(es.take n).flatten=es.flatten.take (n*k):=by
  have:=li (l:=0) (m:=n) q3
  grind
 refine⟨_,h.change (i:=i) (n':=s.n) (X:=.row s.c t k (es.take n) false) (v':=.slice A n cp) (m':=E.m i) (o':=[]) (A':=E.A) (c':=s.c+1) (w':=w) (Nat.le_refl _) (λj hj _=>hj) hin
  h.bel (Nat.le_refl _) (λ_ _ _=>rfl) (by omega) (.inr λst he=>by grind[Ob.st]) (λ_ hb=>hb) (λ_ hb=>.inl hb)
  (λb hb=>⟨h.A_lt b hb,h.A_m b hb i hin,λj hj _=>h.A_m b hb j hj⟩)
  (λb hb=>⟨h.m_lt i hin b hb,λj hj hne=>h.mm i j hin hj (Ne.symm hne) b hb⟩) (by simp) (by
   rintro s'' rfl E' rfl hstay;refine⟨cells.take (n*k),by omega,?_,q2,λe he=>q3 e (List.mem_of_mem_take he),?_,?_⟩
   ·grind[ae,List.length_take,Nat.min_eq_left]
   ·simp only[ae];rw[h4,hE];cases A<;>rfl
   ·simp only[Bool.false_eq_true,if_false,ae]
    rw[hft];exact⟨trivial,q4.take _⟩) (h.mF i hin) (by simp),by grind[ae],λj hj=>by grind[aE]⟩
def AS.cutC(s:AS)(i st j:Nat)(pv:Bool)(T:TypeId)(acs:List AC)(r t k n:Nat)(es:List (List DV)):AS:={s.cutS r t k n es with ob:=upd (s.cutS r t k n es).ob i (D3 pv st T (acs.set j (.own r s.c)))}
theorem No(h:aB w0 N s a w E){i st j r sr t k n:Nat}{pv:Bool}{T:TypeId}{acs:List AC}{es:List (List DV)}{dp:Bool}(hi:s.own? i st=some (D3 pv st T acs))(hj:acs[j]? =some (.sub r sr k 0 n))(hr:s.own? r sr=some (.row sr t k es dp))(hn:n<=es.length):
 ∃E',aB w0 N (s.cutC i st j pv T acs r t k n es) a w E':=by
 obtain⟨hin,hob,hlv⟩:=am hi;obtain⟨rin,rob,rlv⟩:=am hr;have hne:i≠r:=λe=>by subst e;rw[hob]at rob;cases pv<;>cases rob
 have h0:=h.obj i hin;rw[hob]at h0;obtain⟨g,vals,q0,q1,q2,q3,q4,q5,q6⟩:=AJ h0;have hjl:j<vals.length:=by rw[<-q5.1];grind
 have hu:=q5.2 j _ _ hj (List.getElem?_eq_getElem hjl);obtain⟨A,M,cp,B,e2,e3,e4,e5,e6⟩:=hu.2 rlv;obtain rfl:=e5 rfl;obtain⟨E1,h1,hv,hvo⟩:=NE h hr e2 hn;have hin':i<(s.cutS r t k n es).n:=hin;have hob':(s.cutS r t k n es).ob i=D3 pv st T acs:=by simp_all[AS.cutS,aE]
 have hO:=h1.obj i hin';rw[hob']at hO;obtain⟨g',vals',p0,p1,p2,p3,p4,p5,p6⟩:=AJ hO;have hg:g'=g:=by rw[hvo i hne,q1]at p1;grind
 subst hg
 have hvals:vals'=vals:=by
  have h4:(some (Obj.cells vals'.toArray T):Option Obj)=some (Obj.cells vals.toArray T):=p4.symm.trans q4
  grind
 subst hvals
 refine⟨_,h1.change (i:=i) (n':=(s.cutS r t k n es).n) (X:=D3 pv st T (acs.set j (.own r s.c))) (v':=E1.v i) (m':=E1.m i) (o':=[]) (A':=E1.A) (c':=(s.cutS r t k n es).c) (w':=w) (Nat.le_refl _) (λj hj _=>hj) hin'
  h1.bel (Nat.le_refl _) (λ_ _ _=>rfl) (Nat.le_refl _) (.inl ⟨hin',by rw[hob',xG,xG],rfl⟩) (λ_ hb=>hb) (λ_ hb=>.inl hb)
  (λb hb=>⟨h1.A_lt b hb,h1.A_m b hb i hin',λj hj _=>h1.A_m b hb j hj⟩)
  (λb hb=>⟨h1.m_lt i hin' b hb,λj hj hne=>h1.mm i j hin' hj (Ne.symm hne) b hb⟩) (by simp) (by
   rintro s'' rfl E' rfl hstay;refine Il (vals:=vals') p0 (by grind[ae]) (by grind[ae]) (by grind[ae]) p4 ?_ p6;have q5':=p5.stay hstay;refine⟨by simpa using q5'.1,λp x u hp hu=>?_⟩;rw[List.getElem?_set]at hp;split at hp
   ·rename_i e;subst e;split at hp
    ·injection hp with hp;subst hp;refine⟨by simp[AS.cutS],λ_=>?_⟩;simp_all[upd,aE,Ne.symm,List.getElem?_eq_getElem]
    grind
   ·exact q5'.2 _ _ _ hp hu) (h1.mF i hin') (by simp)⟩
def AS.datD(s:AS)(i st j:Nat)(pv:Bool)(T:TypeId)(acs:List AC)(d:DV):AS:={s with ob:=upd s.ob i (D3 pv st T (acs.set j (.d d)))}
theorem Gt(h:aB w0 N s a w E){i st j:Nat}{pv:Bool}{T:TypeId}{acs:List AC}{c:AC}{d:DV}(hi:s.own? i st=some (D3 pv st T acs))(hj:acs[j]? =some c)(hc:∀u,dK w E s.lv s.c c u->aH w E.A [u] [d]):∃E',aB w0 N (s.datD i st j pv T acs d) a w E':=by
 obtain⟨hin,hob,hlv⟩:=am hi;have hO:=h.obj i hin;rw[hob]at hO;obtain⟨g,vals,q0,q1,q2,q3,q4,q5,q6⟩:=AJ hO
 refine⟨_,h.change (i:=i) (n':=s.n) (X:=D3 pv st T (acs.set j (.d d))) (v':=E.v i) (m':=E.m i) (o':=[]) (A':=E.A) (c':=s.c) (w':=w) (Nat.le_refl _) (λj hj _=>hj) hin
  h.bel (Nat.le_refl _) (λ_ _ _=>rfl) (Nat.le_refl _) (.inl ⟨hin,by rw[hob,xG,xG],rfl⟩) (λ_ hb=>hb) (λ_ hb=>.inl hb)
  (λb hb=>⟨h.A_lt b hb,h.A_m b hb i hin,λj hj _=>h.A_m b hb j hj⟩)
  (λb hb=>⟨h.m_lt i hin b hb,λj hj hne=>h.mm i j hin hj (Ne.symm hne) b hb⟩) (by simp) (by
   rintro s'' rfl E' rfl hstay;refine Il (vals:=vals) q0 (by simp only[ae];exact q1) (by simp only[ae];exact q2) (by simp only[ae]) q4 ?_ q6;have q5':=q5.stay hstay;refine⟨by simpa using q5'.1,λp x u hp hu=>?_⟩;rw[List.getElem?_set]at hp;split at hp
   ·rename_i e;subst e;split at hp
    ·injection hp with hp;subst hp;exact hc u (q5.2 _ _ _ hj hu)
    ·cases hp
   ·exact q5'.2 _ _ _ hp hu) (h.mF i hin) (by simp)⟩
def AS.nilD(s:AS)(i st el k j:Nat)(pv:Bool)(T:TypeId)(acs:List AC):AS:=s.datD i st j pv T acs (.sl el k [])
theorem Mh(h:aB w0 N s a w E){i st el k j:Nat}{pv:Bool}{T:TypeId}{acs:List AC}(hk:0<k)(hi:s.own? i st=some (D3 pv st T acs))(hj:acs[j]? =some .nil):∃E',aB w0 N (s.nilD i st el k j pv T acs) a w E':=
 Gt h hi hj λu hu=>by
  obtain rfl:u=.slice none 0 0:=hu;have h0:=bj.sl (w:=w) (base:=0) (v:=.slice none 0 0) (t:=el) (k:=k) (es:=[]) (cells:=[]) (g:=[]) (vs:=[]) (ds:=[]) (f:=[]) (World.ownsRow_nil _ _ _ _) hk (by simp) .nil .nil (by simp[Value.ownBlock]);exact h0.rep.mono λb hb=>by simp[Value.ownBlock]at hb
theorem NC(h:aB w0 N s a w E){i st j i2 st2:Nat}{pv:Bool}{T:TypeId}{acs:List AC}{d:DV}(hi:s.own? i st=some (D3 pv st T acs))(hj:acs[j]? =some (.own i2 st2))(h2:s.own? i2 st2=some (.frz st2 d)):∃E',aB w0 N (s.datD i st j pv T acs d) a w E':=
 Gt h hi hj λu hu=>by
  obtain⟨hin,hob,hlv⟩:=am h2;have hO:=h.obj i2 hin;rw[hob]at hO;obtain rfl:u=E.v i2:=hu.2 hlv;exact hO.2.2.2
theorem MD{X Y:Operand}{t el:TypeId}{k by_:Nat}{zs:List Value}{c:AC}
 (ho:o.op=.call ⟨.builtin .append,#[X,Y],#[t,t]⟩) (hd:∀q,o.dst=some q->q<N) (ht:fL P t=some (el,k)) (hz:aU P el=some zs) (hzl:zs.length=k)
 (hX:s.ev X=.p false [.emp]) (hY:s.ev Y=.p false [c]) (hsrc:AU s k c []):fF P N o s (s.put o.dst (.p false [.emp])):=by
 intro w0 a w E h;have e1:=aL h X;have e2:=aL h Y;rw[hX]at e1;rw[hY]at e2;obtain⟨A,cp,us,S,eY,hrd,hrep,hun⟩:=hsrc w0 N a w E _ h (aC e2);obtain⟨A0,eX⟩:=aC e1;obtain⟨hu,hsz⟩:=m6 ht;unfold aU at hz;unfold dV at hsz
 cases hi:P.info? el with
 |none=>grind
 |some ie=>
  simp[hi]at hsz;unfold Oper.wp;have cH:=mX (P:=P) (w:=w) t o.type el ie k hu hi hsz A0 A cp
  have hrun':(execOp a.eval o).run P w=.ok (.value (.slice A0 0 0)) w:=by
   simp only[execOp,ho,resolve,invoke,builtin,Sem.run_bind,Sem.run_pure,Result.andThen_ok,List.map_toArray,List.map_cons,List.map_nil,eX,eY,List.length_nil,cH]
  rw[hrun',Oper.upon_value];exact⟨_,h.put (x:=.p false [.emp]) (aJ ⟨A0,rfl⟩) hd⟩
theorem Nm{X Y:Operand}{t el:TypeId}{k by_:Nat}{news:List (List DV)}{zs:List Value}{c:AC}
 (ho:o.op=.call ⟨.builtin .append,#[X,Y],#[t,t]⟩) (hd:∀q,o.dst=some q->q<N) (ht:fL P t=some (el,k)) (hz:aU P el=some zs) (hzl:zs.length=k) (hk:0<k) (hby:fT P el=some by_)
 (hX:s.ev X=.p false [.emp]) (hY:s.ev Y=.p false [c]) (hsrc:AU s k c news) (hne:0<news.length)
 (h63:news.length<=maxLen) (hbytes:news.length*by_<=140737488355328):
 fF P N o s ((s.push (.row s.c el k news false)).put o.dst (.p false [.own s.n s.c])):=by
 intro w0 a w E h;have e1:=aL h X;have e2:=aL h Y;rw[hX]at e1;rw[hY]at e2;obtain⟨A,cp,us,S,eY,hrd,hrep,hun⟩:=hsrc w0 N a w E _ h (aC e2);obtain⟨A0,eX⟩:=aC e1;obtain⟨hu,hsz⟩:=m6 ht;unfold aU at hz;unfold dV at hsz;unfold fT at hby
 cases hi:P.info? el with
 |none=>grind
 |some ie=>
  simp[hi]at hsz hby
  cases hzz:ie.zero with
  |none=>grind
  |some z=>
   simp[hi,hzz]at hz;have hzc:z.cells.size=k:=by rw[<-hzl,<-hz];simp
   unfold Oper.wp;obtain⟨v',w',cH,hown,hb⟩:=og (P:=P) (w:=w) t o.type el ie z k by_ hu hi hzz hsz hby hzc hk A0 S A news.length cp us hrd hrep.one h63 hbytes hne
   have hrun':(execOp a.eval o).run P w=.ok (.value v') w':=by
    simp only[execOp,ho,resolve,invoke,builtin,Sem.run_bind,Sem.run_pure,Result.andThen_ok,List.map_toArray,List.map_cons,List.map_nil,eX,eY,cH]
   rw[hrun',Oper.upon_value];have h0:=h.world hb (A':=E.A) (λ_ h=>h) (λb hb=>.inl hb);have hm:∀b∈v'.ownBlock.toList,w.heap.size<=b/\b<w'.heap.size:=λb hbm=>tj hown (by grind)
   have h1:=h0.pushOb (X:=.row s.c el k news false) (v':=v') (m':=v'.ownBlock.toList) (o':=[]) (w':=w') rfl (Below.refl _ _) (λb hbm=>
    ⟨(hm b hbm).2,λhA=>by have:=h.A_lt b hA;have:=hm b hbm;omega,λj hj hmj=>by have:=h.m_lt j hj b hmj;have:=hm b hbm;omega⟩) (by simp) (by simp) (by
    rintro E' rfl hstay;refine⟨us,by omega,by simp only[ae];grind[n9],hk,hun,by grind[ae],?_⟩;simp only[Bool.false_eq_true,if_false,ae]
    exact⟨trivial,(hrep.keep λb hbA=>hb.block b (h.A_lt b hbA)).mono λb hb=>.inl hb⟩) (λb hbm=>w0.hfr b (Nat.le_trans h.bel.size (hm b hbm).1))
   exact⟨_,h1.put (x:=.p false [.own s.n s.c]) (aJ ⟨by simp[AS.push],λ_=>by grind[ae]⟩) hd⟩
end
end Go.Proofs.Ytgdbmcoamemmaaa
namespace Go.Proofs.Ytgdbmcoamemmaaa
open Go.RowKit
def iP(t:TypeId)(x:DV)(cs:List DV):DV:=.sl t 0 [[x],cs]
theorem aH.flat{w w':World}{A B:Nat->Prop}{vs:List Value}{ds:List DV}(h:aH w A vs ds)(hf:uN ds):aH w' B vs ds:=by
 induction h with
 |nil=>exact .nil
 |sc h1 _ ih=>exact .sc h1 (ih λd hd=>hf d (List.mem_cons_of_mem _ hd))
 |sl0=>obtain⟨v,hv⟩:=hf _ (List.mem_cons_self ..);cases hv
 |sl=>obtain⟨v,hv⟩:=hf _ (List.mem_cons_self ..);cases hv
theorem CW.mono{w:World}{A B:Nat->Prop}{g:Nat}{u:Value}{t:TypeId}{x:DV}{cs:List DV}(h:CW w A g u t x cs)(hA:∀b,A b->B b):CW w B g u t x cs:=by
 obtain⟨vals,h1,h2,h3,h4⟩:=h;exact⟨vals,h1,h2.mono hA,h3.mono hA,h4⟩
def TG(w:World)(B:Nat->Prop)(g:Nat)(u:Value)(t:TypeId)(x:DV)(res:List Rs)(cs':List DV)(e:Ending)(w':World):Prop:=
 ∃v,e=.returned v/\AE w w' [g]/\(∃(us:List Value) (fs:List (List Nat)),(if res.length=1 then us=[v]else v=.tuple us.toArray)/\bR w' w.heap.size (λ_=>False) us res fs/\fs.flatten.Nodup)/\CW w' B g u t x cs'
def cG(P:Program)(f:FuncId)(t:TypeId)(x:DV)(cs:List DV)(args:List (Bool×List DV))(res:List Rs)(cs':List DV):Prop:=
 a9 P f=true/\(∀r∈res,r.2.2=true)/\∀(w:World) (B:Nat->Prop) (g:Nat) (u:Value) (vs:List Value),(∀b,B b->b<w.heap.size/\b≠g)->g<w.heap.size->CW w B g u t x cs->eg w B vs args->
  Calls P f (.pointer (some ⟨g,0,none⟩)::vs).toArray w (TG w B g u t x res cs')
def oM(P:Program)(f:FuncId)(args:List (Bool×List DV))(t:TypeId)(x:DV)(cs':List DV):Prop:=
 a9 P f=true/\∀(w:World) (B:Nat->Prop) (vs:List Value),(∀b,B b->b<w.heap.size)->eg w B vs args->
  Calls P f vs.toArray w λe w'=>∃g u,e=.returned (.pointer (some ⟨g,0,none⟩))/\w.heap.size<=g/\g<w'.heap.size/\Below w.heap.size w w'/\CW w' (λb=>B b\/(w.heap.size<=b/\b<w'.heap.size/\b≠g)) g u t x cs'
def CO(t:TypeId)(x:DV)(cs:List DV)(rest:List (Bool×List DV)):AS:=((iA ((true,[])::rest)).push (.cur 0 true t x cs)).put (some 0) (.p false [.own 0 0])
def qb(P:Program)(s0:AS)(K:AS->Prop):List ResultVar->List Rs->AS->Prop
 |[],[],s=>K s
 |rv::rvs,(b,ds,dp)::rs,s=>dp=true/\Rh (λcs=>∃s',iM s s' cs ds/\qb P s0 K rvs rs s') b (E6 P s0 rv)
 |_,_,_=>False
def MA(t:TypeId)(cs':List DV)(s:AS):Prop:=∃i st x,s.own? i st=some (.cur st true t x cs')
def NQ(P:Program)(rvs:List ResultVar)(rs:List Rs)(t:TypeId)(cs':List DV):Exit->AS->Prop
 |.normal,s=>qb P s (MA t cs') rvs rs s
 |.ret,s=>qb P s (MA t cs') rvs rs s
 |_,_=>False
section
variable {P:Program}{w0:Cx}{w w':World}{N:Nat}{s:AS}{a:Act}{E:En}{o:Oper}
theorem CD{s0:AS}{E0:En}{K:AS->Prop}(h0:aB w0 N s0 a w E0):∀{rvs:List ResultVar} {rs:List Rs} {s:AS} {E:En},qb P s0 K rvs rs s->aB w0 N s a w E->fh w E0 s0.lv s0.c w E s.lv s.c->
 ∃(vs:List Value) (fs:List (List Nat)) (s':AS) (E':En),oP P w a.tmps rvs vs/\vs.length=rs.length/\fs.length=rs.length/\fs.flatten.Nodup/\(∀b∈fs.flatten,∃j,j<s.n/\(b∈E.m j\/b∈E.o j))/\
  (∀(j:Nat) u r f,vs[j]? =some u->rs[j]? =some r->fs[j]? =some f->r.2.2=true/\∃vals:List Value,(if r.1 then u=.agg vals.toArray else vals=[u])/\bj w 0 vals r.2.1 f)/\
  K s'/\aB w0 N s' a w E'/\(∀b∈fs.flatten,E'.A b)/\∀b,E.A b->E'.A b
 |[],[],s,E,hk,h,_=>⟨[],[],s,E,trivial,rfl,rfl,List.nodup_nil,by simp,λj u r f h1=>by grind,hk,h,by simp,λ_ h=>h⟩
 |rv::rvs,(b,ds,dp)::rs,s,E,hd,h,hst=>by
  obtain⟨hdp,hd⟩:=hd;obtain⟨cs,hcs,s',hg,hd⟩:=B6 hd;obtain⟨v,hv1,hv2⟩:=Gb h0 hcs;obtain⟨vals,hp,hcell⟩:=gv (show dM w E0 s0.lv s0.c b cs v from hv2);obtain⟨g1,g2,g3,g4,g5⟩:=hg;obtain⟨E',f,hgp⟩:=g5 w0 N a w E vals h (hcell.stay hst)
  have hst':fh w E0 s0.lv s0.c w E' s'.lv s'.c:=by
   refine⟨λb hb=>⟨hgp.A' b (hst.A b hb).1,rfl⟩,λi st hlt hl=>?_,by rw[g2];exact hst.c⟩;obtain⟨k1,k2⟩:=hst.L i st hlt (g4 i st hl);exact⟨k1,by rw[hgp.v];exact k2⟩
  obtain⟨vs,fs,s2,E2,r1,r2,r3,r4,r5,r6,r7,r8,r9,r10⟩:=CD h0 hd hgp.rep hst';refine⟨v::vs,f::fs,s2,E2,⟨hv1,r1⟩,by grind,by grind,?_,?_,?_,r7,r8,?_,λb hb=>r10 b (hgp.A' b hb)⟩
  ·rw[List.flatten_cons];refine List.nodup_append.2 ⟨hgp.own.nodup,r4,λx hx y hy e=>?_⟩;subst e;obtain⟨j,hj,hbj⟩:=r5 x hy;rcases hbj with hbj|hbj
   ·exact hgp.rep.A_m x (hgp.A x hx) j hj hbj
   ·exact hgp.o x hx j hj hbj
  ·intro x hx;rw[List.flatten_cons]at hx;rcases List.mem_append.1 hx with hx|hx
   ·exact hgp.from_ x hx
   ·obtain⟨j,hj,hbj⟩:=r5 x hx;exact⟨j,by rw[g1]at hj;exact hj,hbj.imp (hgp.m' j x) (hgp.o' j x)⟩
  ·intro j u r f' k1 k2 k3
   cases j with
   |zero=>simp at k1 k2 k3;subst k1 k2 k3;exact⟨hdp,vals,hp,hgp.own⟩
   |succ j=>grind
  ·intro x hx;rw[List.flatten_cons]at hx;rcases List.mem_append.1 hx with hx|hx
   ·exact r10 x (hgp.A x hx)
   grind
 |[],_::_,_,_,hd,_,_=>hd.elim
 |_::_,[],_,_,hd,_,_=>hd.elim
theorem zM{A:Nat->Prop}{b0:Nat}:∀{rs:List Rs} {vs:List Value} {fs:List (List Nat)},vs.length=rs.length->fs.length=rs.length->
 (∀(j:Nat) u r f,vs[j]? =some u->rs[j]? =some r->fs[j]? =some f->r.2.2=true/\∃vals:List Value,(if r.1 then u=.agg vals.toArray else vals=[u])/\bj w 0 vals r.2.1 f)->(∀b∈fs.flatten,b0<=b)->bR w b0 A vs rs fs
 |[],[],[],_,_,_,_=>trivial
 |r::rs,v::vs,f::fs,h1,h2,h3,h4=>by
  refine⟨?_,zM (by grind) (by grind) (λj u r f k1 k2 k3=>h3 (j+1) u r f (by assumption) (by assumption) (by assumption)) (λb hb=>h4 b (by grind))⟩;obtain⟨q1,vals,q2,q3⟩:=h3 0 v r f rfl rfl rfl
  exact⟨vals,q2,by rw[if_pos q1];exact q3.hi λb hb=>h4 b (by grind)⟩
 |[],_::_,_,h1,_,_,_=>by grind
 |_::_,[],_,h1,_,_,_=>by grind
 |[],[],_::_,_,h2,_,_=>by grind
 |_::_,_::_,[],_,h2,_,_=>by grind
theorem Ez{f:FuncId}{fn:Func}{c:Code}{t:TypeId}{x:DV}{cs cs':List DV}{rest:List (Bool×List DV)}{res:List Rs}(hf:P.funcs[f]? =some fn)(hb:fn.body=some c)(hc:a9 P f=true)(hN:rest.length+1<=fn.ntmps)
 (hdp:∀r∈res,r.2.2=true) (h:sW P fn.ntmps c (NQ P fn.results.toList res t cs') (CO t x cs rest)):cG P f t x cs rest res cs':=by
 refine⟨hc,hdp,λw B g u vs hB hgl hcur ha=>?_⟩;refine calls_of_wp hf hb ?_;have hlen:vs.length+1<=fn.ntmps:=by rw[ha.1];exact hN
 have h0:=A3 (w:=w) (N:=fn.ntmps) (fr:=λb=>b=g\/w.heap.size<=b) (hfr:=λ_ h=>.inr h) (how:=λ_ h=>h) (cu:=some (g,u)) (λb hb=>(hB b hb).1) (eg.cons (x:=(true,[])) (v:=.agg #[]) ⟨[],rfl,.nil⟩ ha) (by assumption)
 have k1:=h0.pushOb (X:=.cur 0 true t x cs) (v':=.pointer (some ⟨g,0,none⟩)) (m':=[g]) (o':=[]) rfl (Below.refl _ _) (λb hb=>by
  grind) (by simp) (by simp) (by
  rintro E' rfl hstay;refine⟨g,u,by omega,?_,?_,?_,λ_=>rfl,hcur.mono λb hb=>.inl hb⟩
  ·rfl
  ·rfl
  rfl) (λb hb=>by grind)
 have h1:=k1.put (d:=some 0) (x:=.p false [.own 0 0]) (v:=.pointer (some ⟨g,0,none⟩)) (aJ ⟨by exact Nat.lt_succ_self _,λ_=>by rfl⟩) (λq hq=>by grind)
 have ha':Act.put {tmps:=(Value.agg #[]::vs).toArray++Array.replicate (fn.ntmps-(Value.agg #[]::vs).toArray.size) undef,defers:=[]} (some 0) (.pointer (some ⟨g,0,none⟩))={tmps:=(.pointer (some ⟨g,0,none⟩)::vs).toArray++Array.replicate (fn.ntmps-(Value.pointer (some ⟨g,0,none⟩)::vs).toArray.size) undef,defers:=[]}:=by
  simp only[Act.put]
  grind
 rw[ha']at h1;refine Code.wp_mono (λe a' w' he=>?_) (h _ _ w _ h1);obtain⟨s,E,hq,hr⟩:=he
 have key:qb P s (MA t cs') fn.results.toList res s->a'.defers=[]/\∃v,(results fn a'.tmps).run P w'=.ok v w'/\TG w B g u t x res cs' (.returned v) w':=by
  intro hq;obtain⟨us,fs,s',E',r1,r2,r3,r4,r5,r6,⟨i,st,x',r7⟩,r8,r9,-⟩:=CD hr hq hr fh.refl;obtain⟨v,k1,k2⟩:=gF r1;obtain⟨hin,hob,-⟩:=am r7;have hO:=r8.obj i hin;rw[hob]at hO;obtain⟨g',u',_,_,em,_,hid,vals,c1,c2,c3,c4⟩:=hO;have hgu:some (g,u)=some (g',u'):=hid rfl;injection hgu with hgu;injection hgu with e1 e2;subst e1 e2;have hkeep:∀b,B b->w'.heap[b]? =w.heap[b]?:=λb hb=>hr.bel.block b (λhf=>hf.elim (λe=>(hB b hb).2 e) (λhf=>by have h1:w.heap.size<=b:=hf;have:=(hB b hb).1;omega))
  refine⟨hr.defers,v,k1,v,rfl,⟨hr.bel.os,hr.bel.tape,hr.bel.output,hr.bel.size,λb hb hn=>hr.bel.block b (λhf=>hf.elim (λe=>hn (by simp[e])) (λhf=>by have:w.heap.size<=b:=hf;omega))⟩,⟨us,fs,by rw[r2]at k2;exact k2,zM r2 r3 r6 (λb hb=>?_),r4⟩,vals,c1,?_,c3.flat c4,c4⟩
  ·obtain⟨j,hj,h1⟩:=r5 b hb;have hfr:b=g\/w.heap.size<=b:=h1.elim (hr.mF j hj b) (hr.oF j hj b);rcases hfr with e|h2
   ·subst e;exact absurd (by rw[em];simp) (r8.A_m b (r9 b hb) i hin)
   omega
  ·obtain⟨vals0,_,d2,_,_⟩:=hcur;exact d2.keep hkeep
 cases e with
 |normal=>exact key hq
 |ret=>exact key hq
 |_=>exact hq.elim
def kZ(P:Program)(N:Nat)(o:Oper)(s s':AS)(X:Option Nat):Prop:=
 ∀w0 a w E,aB w0 N s a w E->o.wp P a w (λa' w'=>(∃E',aB w0 N s' a' w' E')/\(∃v,a'=a.put o.dst v)/\w.heap.size<=w'.heap.size/\
  ∀b,b<w.heap.size->(∀x,X=some x->∀g,a.tmps.getD x undef=.pointer (some ⟨g,0,none⟩)->b≠g)->w'.heap[b]? =w.heap[b]?) (λ_ _ _=>False)
theorem kZ.step{s':AS}{X:Option Nat}(h:kZ P N o s s' X):fF P N o s s':=λw0 a w E hr=>Oper.wp_mono (λ_ _ h=>h.1) (h w0 a w E hr)
theorem fS.toK{x:AV}{news:List Ob}(h:fS P o s x news)(hd:∀k,o.dst=some k->k<N):kZ P N o s ((s.pushL news).put o.dst x) none:=by
 intro w0 a w E hr;refine Oper.wp_mono (λa' w' hp=>?_) (h w0 N a w E hr);obtain⟨v,E',rfl,hb,_,h1,h2⟩:=hp;exact⟨⟨E',h1.put h2 hd⟩,⟨v,rfl⟩,hb.size,λb hlt _=>hb.block b hlt⟩
theorem H5{f:FuncId}{X:Nat}{xs:List Operand}{args:Array Operand}{ts:Array TypeId}{i st:Nat}{id:Bool}{t:TypeId}{x:DV}{cs cs':List DV}{ys:List (Bool×List DV)}{res:List Rs}{B:Bool}(ho:o.op=.call ⟨.value (.func f),args,ts⟩)(hargs:args.toList=.tmp X::xs)(hd:dB N o.dst=true)
 (hm:cG P f t x cs ys res cs') (hX:s.ev (.tmp X)=.p false [.own i st]) (hi:s.own? i st=some (.cur st id t x cs)) (har:gj (s.kill i) xs ys):
 kZ P N o s ((AS.pushL {s with ob:=upd s.ob i (.cur st id t x cs')} (cS B res s.c)).put o.dst (mL res s.n s.c)) (some X):=by
 intro w0 a w E h;obtain⟨hc,hdp,hm⟩:=hm;obtain⟨hin,hob,hlv⟩:=am hi;have hO:=h.obj i hin;rw[hob]at hO;obtain⟨g,u,hst,ev,em,eo,hid,vals,c1,c2,c3,c4⟩:=hO;have hk:=Ba h hin;have hgm:g∈E.m i:=by rw[em];simp
 have hB:∀b,AM (s.kill i) ⟨upd E.v i (E.v i),upd E.m i [],upd E.o i [],E.A⟩ b->b<w.heap.size/\b≠g:=by
  intro b hb;rcases hb with hb|⟨j,hj,hjd,hb⟩
  ·exact⟨h.A_lt b hb,λe=>h.A_m b hb i hin (by rw[em,e];simp)⟩
  ·by_cases e:j=i
   ·grind[ae]
   ·simp only[aE _ _ e]at hb;exact⟨h.m_lt j hj b hb,λe'=>h.mm j i hj hin e b hb (by rw[em,e'];simp)⟩
 have hu:a.eval (.tmp X)=.pointer (some ⟨g,0,none⟩):=by
  have:=aL h (.tmp X);rw[hX]at this;rw[(aC this).2 hlv,ev]
 unfold Oper.wp;rw[lh ho hc,Oper.upon_enter,hargs,List.map_cons,hu];refine(hm w _ g u _ hB (h.m_lt i hin g hgm) ⟨vals,c1,c2.mono λb hb=>Or.inl hb,c3.flat c4,c4⟩ (oY hk har)).mono ?_;rintro e w' ⟨v,rfl,hw,⟨us,fs,hv,hq,hnd⟩,vals',d1,d2,d3,d4⟩;simp only;have hsame:∀b,b<w.heap.size->b≠g->w'.heap[b]? =w.heap[b]?:=λb hb hn=>hw.block b hb (by grind)
 have hrep:aB w0 N {s with ob:=upd s.ob i (.cur st id t x cs')} a w' ⟨upd E.v i (E.v i),upd E.m i (E.m i),upd E.o i [],E.A⟩:=
  h.change (i:=i) (n':=s.n) (X:=.cur st id t x cs') (v':=E.v i) (m':=E.m i) (o':=[]) (A':=E.A) (c':=s.c) (Nat.le_refl _) (λj hj _=>hj) hin
   ⟨hw.os.trans h.bel.os,hw.tape.trans h.bel.tape,hw.output.trans h.bel.output,Nat.le_trans h.bel.size hw.size,λb hb=>(hsame b (Nat.lt_of_lt_of_le (Cx.lt hb) h.bel.size) (λe=>hb (h.mF i hin b (by rw[em,e];simp)))).trans (h.bel.block b hb)⟩
   hw.size (λb hb hbm=>hsame b hb (λe=>hbm hin (by rw[em,e];simp))) (Nat.le_refl _) (.inl ⟨hin,by rw[hob];rfl,rfl⟩) (λ_ hb=>hb) (λ_ hb=>.inl hb)
   (λb hb=>⟨Nat.lt_of_lt_of_le (h.A_lt b hb) hw.size,h.A_m b hb i hin,λj hj _=>h.A_m b hb j hj⟩) (λb hb=>⟨Nat.lt_of_lt_of_le (h.m_lt i hin b hb) hw.size,λj hj hne=>h.mm i j hin hj (Ne.symm hne) b hb⟩) (by simp) (by
    rintro s' rfl E' rfl hstay;refine⟨g,u,hst,by grind[ae],by grind[ae],by grind[ae],hid,vals',d1,?_,d3.flat d4,d4⟩
    exact c2.keep λb hb=>hsame b (h.A_lt b hb) (λe=>h.A_m b hb i hin (by rw[em,e];simp))) (h.mF i hin)
 obtain⟨E2,q1,q2,q3⟩:=B1 (X:=B) (b0:=w.heap.size) h.bel.size res hrep (A0:=λ_=>False) (λ_ h=>h.elim) hq hnd (λb hb=>by
  have hge:=xr hq b hb;refine⟨λhA=>by have:=h.A_lt b hA;omega,λj hj=>?_⟩;by_cases e:j=i
  ·subst e;simp only[ae];exact⟨λhm=>by have:=h.m_lt j hin b hm;omega,by simp⟩
  ·simp only[aE _ _ e]
   exact⟨λhm=>by have:=h.m_lt j hj b hm;omega,λhm=>by have:=h.A_lt b (h.A_o j hj b hm);omega⟩)
 exact⟨⟨E2,q1.put (tu q2 hv) (fU hd)⟩,⟨v,rfl⟩,hw.size,λb hb hn=>hsame b hb (hn X rfl g hu)⟩
theorem IU{f:FuncId}{args:Array Operand}{ts:Array TypeId}{t:TypeId}{x:DV}{cs':List DV}{ys:List (Bool×List DV)}(ho:o.op=.call ⟨.value (.func f),args,ts⟩)(hd:dB N o.dst=true)(hm:oM P f ys t x cs')(har:gq s args.toList ys):
 fF P N o s ((s.push (.cur s.c false t x cs')).put o.dst (.p false [.own s.n s.c])):=by
 intro w0 a w E h;unfold Oper.wp;rw[lh ho hm.1,Oper.upon_enter];refine(hm.2 w E.A _ h.A_lt (l9 h har)).mono ?_;rintro e w' ⟨g,u,rfl,hg1,hg2,hb,hcur⟩;simp only;have h0:=h.world hb (A':=λb=>E.A b\/(w.heap.size<=b/\b<w'.heap.size/\b≠g)) (λb hb=>.inl hb) (λb hb=>hb.imp id λhb=>⟨hb.1,hb.2.1⟩)
 have h1:=h0.pushOb (X:=.cur s.c false t x cs') (v':=.pointer (some ⟨g,0,none⟩)) (m':=[g]) (o':=[]) rfl (Below.refl _ _) (λb hbm=>by
  simp at hbm;subst hbm;exact⟨hg2,λhA=>hA.elim (λhA=>by have:=h.A_lt _ hA;omega) (λhA=>hA.2.2 rfl),λj hj hm=>by have:=h.m_lt j hj _ hm;omega⟩) (by simp) (by simp) (by
  rintro E' rfl hstay;refine⟨g,u,by omega,?_,?_,?_,λh=>by grind,hcur.mono λb hb=>.inl hb⟩
  ·grind[ae]
  ·grind[ae]
  grind[ae]) (λb hbm=>by simp at hbm;subst hbm;exact w0.hfr _ (Nat.le_trans h.bel.size hg1))
 exact⟨_,h1.put (aJ ⟨by exact Nat.lt_succ_self _,λ_=>(ae _ _ _).symm⟩) (fU hd)⟩
theorem Ao{L:Nat->Option Nat}{c:Nat}:∀{ds:List DV} {us:List Value},ay w E L c (ds.map .d) us->aH w E.A us ds
 |[],us,h=>by rw[ay.nil' h];exact .nil
 |d::ds,us,h=>by
  obtain⟨u',us',rfl,d1,d2⟩:=ay.cons' h;exact aH.cons d1 (Ao d2)
def N3(P:Program)(rv:ResultVar)(t:TypeId)(x:DV)(cs':List DV):Exit->AS->Prop
 |.normal,s=>∃i st,E6 P s rv=some (.p false [.ptr i st 0])/\s.own? i st=some (.var st t (.d x::cs'.map .d))
 |.ret,s=>∃i st,E6 P s rv=some (.p false [.ptr i st 0])/\s.own? i st=some (.var st t (.d x::cs'.map .d))
 |_,_=>False
theorem EW{f:FuncId}{fn:Func}{c:Code}{rv:ResultVar}{t:TypeId}{x:DV}{cs':List DV}{args:List (Bool×List DV)}(hf:P.funcs[f]? =some fn)(hb:fn.body=some c)(hc:a9 P f=true)(hN:args.length<=fn.ntmps)(hrv:fn.results.toList=[rv])(hfl:uN cs')
 (h:sW P fn.ntmps c (N3 P rv t x cs') (iA args)):oM P f args t x cs':=by
 refine⟨hc,λw B vs hB ha=>?_⟩;refine calls_of_wp hf hb ?_;refine Code.wp_mono (λe a' w' he=>?_) (h (TV w B) _ w _ (A3 hB ha (by rw[ha.1];exact hN)));obtain⟨s,E,hq,hr⟩:=he
 have key:(∃i st,E6 P s rv=some (.p false [.ptr i st 0])/\s.own? i st=some (.var st t (.d x::cs'.map .d)))->a'.defers=[]/\∃v,(results fn a'.tmps).run P w'=.ok v w'/\∃g u,Ending.returned v=.returned (.pointer (some ⟨g,0,none⟩))/\w.heap.size<=g/\g<w'.heap.size/\Below w.heap.size w w'/\CW w' (λb=>B b\/(w.heap.size<=b/\b<w'.heap.size/\b≠g)) g u t x cs':=by
  rintro⟨i,st,h1,h2⟩;obtain⟨v,hv1,hv2⟩:=Gb hr h1;have hrt:oP P w' a'.tmps fn.results.toList [v]:=by rw[hrv];exact⟨hv1,trivial⟩
  obtain⟨v',k1,k2⟩:=gF hrt;rw[if_pos (by rfl)]at k2;injection k2 with k2 _;subst k2;obtain⟨hin,hob,hlv⟩:=am h2;have hO:=hr.obj i hin;rw[hob]at hO;obtain⟨g,vals,_,ev,em,_,_,hB2,hcs⟩:=hO;obtain⟨g',e1,e2⟩:=(aC hv2).2 hlv;rw[ev]at e1;injection e1 with e1;injection e1 with e1;injection e1 with e1;subst e1;obtain⟨u,us,rfl,c1,c2⟩:=hcs.cons';have hgm:g∈E.m i:=by rw[em];simp
  have hA:∀b,E.A b->B b\/(w.heap.size<=b/\b<w'.heap.size/\b≠g):=λb hb=>(hr.anc b hb).imp id λh=>⟨h,hr.A_lt b hb,λe=>hr.A_m b hb i hin (by rw[em,e];simp)⟩
  have hrep:aH w' E.A us cs':=Ao c2;exact⟨hr.defers,v,k1,g,u,by rw[e2],hr.mF i hin g hgm,hr.m_lt i hin g hgm,hr.bel.below0,us,hB2,aH.mono c1 hA,hrep.mono hA,hfl⟩
 cases e with
 |normal=>exact key hq
 |ret=>exact key hq
 |_=>exact hq.elim
end
inductive ib(P:Program):Nat->List (Bool×List DV)->List Rs->Prop
 |n {f ys res}:aI P f ys res->ib P f ys res
 |p {f ys res}:IG P f ys res->ib P (1000000+f) ys res
 |c {f t x cs ys res cs'}:cG P f t x cs ys res cs'->ib P (2000000+f) ((false,[iP t x cs])::ys) (res++[(false,[iP t x cs'],true)])
 |w {f ys t x cs'}:oM P f ys t x cs'->ib P (3000000+f) ys [(false,[iP t x cs'],true)]
 |g {f bits ys res}:bits<1000->fI P f (Fh (za ys.length bits) ys) res->ib P ((4+bits)*1000000+f) ys res
 |v {f bits T cs ys cs' res}:bits<64->Qt P f T ((za cs.length bits).zip cs) ys ((za cs.length bits).zip cs') res->ib P ((1000000+(T*64+bits))*1000000+f) ((true,cs)::ys) ((true,cs',true)::res.map λr=>(r.1,r.2,true))
theorem ib.plain{P:Program}{f:Nat}{ys:List (Bool×List DV)}{res:List Rs}(h:ib P f ys res)(hf:f<1000000):aI P f ys res:=by
 cases h with
 |n h=>exact h
 |p h=>omega
 |c h=>omega
 |w h=>omega
 |g _ h=>omega
 |v _ h=>omega
end Go.Proofs.Ytgdbmcoamemmaaa
namespace Go.Proofs.Ytgdbmcoamemmaaa
open Go.RowKit
section
variable {P:Program}{md:Region.Mode}{Q:Exit->Act->World->Prop}{l l':List Oper}{σ:Nat->Nat}{n:Nat}
end
end Go.Proofs.Ytgdbmcoamemmaaa
namespace Go.Proofs.Ytgdbmcoamemmaaa
open Go.RowKit
def Se{α:Type}(es:List α)(a m b m':Nat):List α:=plug a ((es.drop b).take (min m' m)) es
section
variable {P:Program}{w0:Cx}{w w':World}{N:Nat}{s:AS}{a:Act}{E:En}{o:Oper}
end
end Go.Proofs.Ytgdbmcoamemmaaa
