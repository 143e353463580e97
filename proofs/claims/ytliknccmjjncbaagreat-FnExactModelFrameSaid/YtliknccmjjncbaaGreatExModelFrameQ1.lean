/- Proved: for every input the law 'FnExactModelFrame' returns true and its arguments read behind the call as before: part 1 of its proof. No condition. -/
import Derived.WalkKit
import Derived.Lib.Hide
import Derived.WalkSpells
import Derived.Laws.OwnMore
import Derived.Deep.AppendLies
import Derived.Deep.Draws
import Derived.Maps.AppendAt
import Derived.RegionTactic
import Derived.OwnWalk
import Derived.Below
import Derived.Laws.AppendOwnNone
import Derived.Deep.QuietTactic
import Derived.BigQuiet
import Derived.StillTailTactics
import Derived.Laws.Cells
import Derived.Laws.IdiomCopy
import Derived.ChangeKeysEq
import Derived.Laws.BytesArg
import Derived.Laws.StructEq
import Derived.Laws.Tables
import Derived.Great.BuildSlice
import Derived.StillTail
import Derived.ArgAppend
import Derived.OrdersHeld
import Derived.Test.YtliknccmjjncbaaGreatExModelFrameQ0
set_option linter.unusedVariables false
set_option linter.unusedSimpArgs false
namespace Go.Proofs.YtliknccmjjncbaaGreat
open Go.RowKit
section
variable {P:Program}{N:Nat}{s:AS}{w0:Cx}{w w':World}{a:Act}{E:En}
theorem JL{args:List (Bool×List DV)}{vs:List Value}{B fr:Nat->Prop}{hfr:∀b,w.heap.size<=b->fr b}{cu:Option (Nat×Value)}{ow:Nat->Prop}{how:∀b,fr b->ow b}(hB:∀b,B b->b<w.heap.size)(ha:dg w B vs args)(hN:vs.length<=N):
 aH ⟨w,B,fr,hfr,cu,ow,how⟩ N (lF args) {tmps:=vs.toArray++Array.replicate (N-vs.toArray.size) undef,defers:=[]} w ⟨λ_=>undef,λ_=>[],λ_=>[],B⟩:=by
 refine⟨by grind,rfl,⟨rfl,rfl,rfl,Nat.le_refl _,λ_ _=>rfl⟩,λi hi=>by grind[lF],λt=>?_,hB,λb hb i hi=>by grind,λi hi=>by grind,λi j hi=>by grind,λi j hi=>by grind,λi hi=>by grind,λb hb=>.inl hb,λi hi=>by grind,λi hi=>by grind⟩;simp only[lF];split
 ·rename_i b ds hx;have hlt:t<vs.length:=by rw[ha.1];grind
  have hv:(vs.toArray++Array.replicate (N-vs.toArray.size) undef).getD t undef=vs[t]:=by
   simp[Array.getElem?_append,hlt]
  rw[hv];have:=ha.2 t _ _ (List.getElem?_eq_getElem hlt) hx;unfold EJ at this;show cM _ _ _ _ b _ _
  grind[cM,aD.ofRep]
 ·trivial
def Dd(tmps:Array Value):ResultVar->Sem Value
 |.tmp t=>pure (tmps.getD t undef)
 |.cell a t=>do loadVar t (<-asAddr (tmps.getD a undef))
theorem SB(h:aH w0 N s a w E){rv:ResultVar}{x:AV}(hx:O8 P s rv=some x):∃v,(Dd a.tmps rv).run P w=.ok v w/\bi w E s.lv s.c x v:=by
 cases rv with
 |tmp t=>simp only[O8]at hx;injection hx with hx;subst hx;exact⟨_,rfl,h.slot t⟩
 |cell t ty=>
  obtain⟨u,h1,h2⟩:=Ly (P:=P) h hx (h.slot t);refine⟨u,?_,h2⟩;simp only[Dd]
  cases hv:a.tmps.getD t undef with
  |pointer ad=>
   rw[hv]at h1
   cases ad with
   |none=>simp[Instr.loadAt,Instr.sureAddr]at h1
   |some ad=>assumption
  |_=>rw[hv]at h1;simp[Instr.loadAt,Instr.sureAddr]at h1
def w9(P:Program)(w:World)(tmps:Array Value):List ResultVar->List Value->Prop
 |[],[]=>True
 |rv::rvs,v::vs=>(Dd tmps rv).run P w=.ok v w/\w9 P w tmps rvs vs
 |_,_=>False
theorem Dw{tmps:Array Value}:∀{rvs:List ResultVar} {vs:List Value},w9 P w tmps rvs vs->(rvs.mapM (Dd tmps)).run P w=.ok vs w
 |[],[],_=>rfl
 |rv::rvs,v::vs,h=>by simp[List.mapM_cons,h.1,Dw h.2]
 |[],_::_,h=>h.elim
 |_::_,[],h=>h.elim
theorem pS{fn:Func}{tmps:Array Value}{vs:List Value}(h:w9 P w tmps fn.results.toList vs):∃v,(results fn tmps).run P w=.ok v w/\if vs.length=1 then vs=[v]else v=.tuple vs.toArray:=by
 have h1:(fn.results.mapM (Dd tmps)).run P w=.ok vs.toArray w:=by
  rw[Array.mapM_eq_mapM_toList];simp[Dw h]
 have h2:results fn tmps=(do let vs <-fn.results.mapM (Dd tmps);pure (if h:vs.size=1 then vs[0]else .tuple vs)):=by
  rfl
 rw[h2];by_cases hl:vs.length=1
 ·match vs,hl with
  |[v],_=>simp_all
 simp_all
theorem LQ{f:List AC->Prop}{b:Bool}{x:Option AV}(h:VS f b x):∃cs,x=some (.p b cs)/\f cs:=by
 unfold VS at h
 grind
theorem pF{s0:AS}{E0:En}(h0:aH w0 N s0 a w E0):∀{rvs:List ResultVar} {rs:List Rs} {s:AS} {E:En},c9 P s0 rvs rs s->aH w0 N s a w E->ft w E0 s0.lv s0.c w E s.lv s.c->
 ∃(vs:List Value) (fs:List (List Nat)),w9 P w a.tmps rvs vs/\vs.length=rs.length/\fs.length=rs.length/\fs.flatten.Nodup/\(∀b∈fs.flatten,∃j,j<s.n/\(b∈E.m j\/b∈E.o j))/\
  ∀(j:Nat) u r f,vs[j]? =some u->rs[j]? =some r->fs[j]? =some f->r.2.2=true/\∃vals:List Value,(if r.1 then u=.agg vals.toArray else vals=[u])/\aR w 0 vals r.2.1 f/\∀x∈vals,∀b∈x.ownBlock.toList,∃j,j<s.n/\b∈E.m j
 |[],[],s,E,_,h,_=>⟨[],[],trivial,rfl,rfl,List.nodup_nil,by simp,λj u r f h1=>by grind⟩
 |rv::rvs,(b,ds,dp)::rs,s,E,hd,h,hst=>by
  obtain⟨hdp,hd⟩:=hd;obtain⟨cs,hcs,s',hg,hd⟩:=LQ hd;obtain⟨v,hv1,hv2⟩:=SB h0 hcs;obtain⟨vals,hp,hcell⟩:=gU (show cM w E0 s0.lv s0.c b cs v from hv2);obtain⟨g1,g2,g3,g4,g5⟩:=hg;obtain⟨E',f,hgp⟩:=g5 w0 N a w E vals h (hcell.stay hst)
  have hst':ft w E0 s0.lv s0.c w E' s'.lv s'.c:=by
   refine⟨λb hb=>⟨hgp.A' b (hst.A b hb).1,rfl⟩,λi st hlt hl=>?_,by rw[g2];exact hst.c⟩;obtain⟨k1,k2⟩:=hst.L i st hlt (g4 i st hl);exact⟨k1,by rw[hgp.v];exact k2⟩
  obtain⟨vs,fs,r1,r2,r3,r4,r5,r6⟩:=pF h0 hd hgp.rep hst';refine⟨v::vs,f::fs,⟨hv1,r1⟩,by grind,by grind,?_,?_,?_⟩
  ·rw[List.flatten_cons];refine List.nodup_append.2 ⟨hgp.own.nodup,r4,λx hx y hy e=>?_⟩;subst e;obtain⟨j,hj,hbj⟩:=r5 x hy;rcases hbj with hbj|hbj
   ·exact hgp.rep.A_m x (hgp.A x hx) j hj hbj
   ·exact hgp.o x hx j hj hbj
  ·intro x hx;rw[List.flatten_cons]at hx;rcases List.mem_append.1 hx with hx|hx
   ·exact hgp.from_ x hx
   ·obtain⟨j,hj,hbj⟩:=r5 x hx;exact⟨j,by rw[g1]at hj;exact hj,hbj.imp (hgp.m' j x) (hgp.o' j x)⟩
  ·intro j u r f' k1 k2 k3
   cases j with
   |zero=>simp at k1 k2 k3;subst k1 k2 k3;exact⟨hdp,vals,hp,hgp.own,hgp.top⟩
   |succ j=>
    obtain⟨q1,vals,q2,q3,q4⟩:=r6 j u r f' (by assumption) (by assumption) (by assumption)
    exact⟨q1,vals,q2,q3,λx hx b hb=>by obtain⟨j,hj,h1⟩:=q4 x hx b hb;exact⟨j,by rw[g1]at hj;exact hj,hgp.m' j b h1⟩⟩
 |[],_::_,_,_,hd,_,_=>hd.elim
 |_::_,[],_,_,hd,_,_=>hd.elim
theorem Ha{s0:AS}{E0:En}(h0:aH w0 N s0 a w E0){rvs:List ResultVar}{rs:List Rs}{s:AS}{E:En}(hd:c9 P s0 rvs rs s)(h:aH w0 N s a w E)(hst:ft w E0 s0.lv s0.c w E s.lv s.c):
 ∃(vs:List Value) (fs:List (List Nat)),w9 P w a.tmps rvs vs/\vs.length=rs.length/\fs.length=rs.length/\fs.flatten.Nodup/\(∀b∈fs.flatten,∃j,j<s.n/\(b∈E.m j\/b∈E.o j))/\
  ∀(j:Nat) u r f,vs[j]? =some u->rs[j]? =some r->fs[j]? =some f->r.2.2=true/\∃vals:List Value,(if r.1 then u=.agg vals.toArray else vals=[u])/\aR w 0 vals r.2.1 f:=by
 grind[pF]
theorem Fq(h:aH w0 N s a w E):∀{rvs:List ResultVar} {rs:List Rs},lD P s rvs rs->
 ∃(vs:List Value),w9 P w a.tmps rvs vs/\vs.length=rs.length/\∀(j:Nat) u r,vs[j]? =some u->rs[j]? =some r->r.2.2=false/\∃vals:List Value,(if r.1 then u=.agg vals.toArray else vals=[u])/\aL w (AM s E) vals r.2.1
 |[],[],_=>⟨[],trivial,rfl,λj u r h1=>by grind⟩
 |rv::rvs,(b,ds,dp)::rs,hd=>by
  obtain⟨hdp,hd,hrest⟩:=hd;obtain⟨cs,hcs,hrd⟩:=LQ hd;obtain⟨v,hv1,hv2⟩:=SB h hcs;obtain⟨vals,hp,hcell⟩:=gU (show cM w E s.lv s.c b cs v from hv2);obtain⟨vs,r1,r2,r6⟩:=Fq h hrest;refine⟨v::vs,⟨hv1,r1⟩,by grind,?_⟩;intro j u r k1 k2
  cases j with
  |zero=>simp at k1 k2;subst k1 k2;exact⟨hdp,vals,hp,HE h hcell hrd⟩
  |succ j=>grind
 |[],_::_,hd=>hd.elim
 |_::_,[],hd=>hd.elim
def Xd(w:World)(B:Nat->Prop):Cx:=⟨w,B,λb=>w.heap.size<=b,λ_ h=>h,none,λb=>w.heap.size<=b,λ_ h=>h⟩
theorem aR.hi{w:World}{b0 b1:Nat}{vs:List Value}{ds:List DV}{f:List Nat}(h:aR w b0 vs ds f)(hf:∀b∈f,b1<=b):aR w b1 vs ds f:=by
 induction h with
 |nil=>exact .nil
 |sc h1 _ ih=>exact .sc h1 (ih hf)
 |sl h1 h2 h3 _ _ h6 ih1 ih2=>
  refine .sl ?_ h2 h3 (ih1 λb hb=>hf b (by grind)) (ih2 λb hb=>hf b (by grind)) h6;refine⟨h1.1,?_⟩;rcases h1.2 with h|⟨g,cap,cur,rfl,k2,k3,k4⟩
  ·grind
  ·exact .inr ⟨g,cap,cur,rfl,hf g (by simp[Value.ownBlock]),k3,k4⟩
theorem GP.below0{w w':World}{B:Nat->Prop}(h:GP (Xd w B) w'):Below w.heap.size w w':=⟨h.os,h.tape,h.output,h.size,λb hb=>h.block b (λhf=>Nat.lt_irrefl _ (Nat.lt_of_lt_of_le hb hf))⟩
theorem BV{fn:Func}{B:Nat->Prop}{w w':World}{a':Act}{s:AS}{E:En}{res:List Rs}(hr:aH (Xd w B) N s a' w' E)(hq:c9 P s fn.results.toList res s\/lD P s fn.results.toList res):
 a'.defers=[]/\∃v,(results fn a'.tmps).run P w'=.ok v w'/\Ri w B res (.returned v) w':=by
 refine⟨hr.defers,?_⟩;rcases hq with hq|hq
 ·obtain⟨us,fs,r1,r2,r3,r4,r5,r6⟩:=Ha hr hq hr ft.refl;obtain⟨v,k1,k2⟩:=pS r1;refine⟨v,k1,v,rfl,⟨us,fs,by rw[r2]at k2;exact k2,r2,r3,r4,λj u r f e1 e2 e3=>?_⟩,hr.bel.below0⟩;obtain⟨q1,vals,q2,q3⟩:=r6 j u r f e1 e2 e3;refine⟨vals,q2,?_⟩;rw[if_pos q1];refine q3.hi λb hb=>?_
  obtain⟨j,hj,h1⟩:=r5 b (List.mem_flatten.2 ⟨f,List.mem_of_getElem? e3,hb⟩);exact h1.elim (hr.mF j hj b) (hr.oF j hj b)
 ·obtain⟨us,r1,r2,r6⟩:=Fq hr hq;obtain⟨v,k1,k2⟩:=pS r1;refine⟨v,k1,v,rfl,⟨us,List.replicate res.length [],by rw[r2]at k2;exact k2,r2,by simp,by simp,λj u r f e1 e2 e3=>?_⟩,hr.bel.below0⟩;obtain⟨q1,vals,q2,q3⟩:=r6 j u r e1 e2;have hf0:f=[]:=List.eq_of_mem_replicate (List.mem_of_getElem? e3);refine⟨vals,q2,?_⟩;rw[if_neg (by grind)];refine⟨hf0,q3.mono λb hb=>?_⟩
  have hlt:b<w'.heap.size:=by
   rcases hb with hb|⟨i,hi,hnd,hb⟩
   ·exact hr.A_lt b hb
   ·exact hr.m_lt i hi b hb
  by_cases hge:w.heap.size<=b
  ·simp_all
  ·left;rcases hb with hb|⟨i,hi,hnd,hb⟩
   ·exact(hr.anc b hb).resolve_right hge
   ·exact absurd (hr.mF i hi b hb) hge
theorem j8{f:FuncId}{fn:Func}{c:Code}{args:List (Bool×List DV)}{res:List Rs}(hf:P.funcs[f]? =some fn)(hb:fn.body=some c)(hc:bc P f=true)(hN:args.length<=N)(hn:fn.ntmps=N){rvs:List ResultVar}(hrv:fn.results.toList=rvs)
 (h:aw P N c (DO P rvs res) (lF args)):aB P f args res:=by
 subst hrv hn;refine⟨hc,λw B vs hB ha=>?_⟩;refine calls_of_wp hf hb ?_;refine Code.wp_mono (λe a' w' he=>?_) (Sz h (Xd w B) _ w _ (JL hB ha (by rw[ha.1];exact hN)));obtain⟨s,E,hq,hr⟩:=he;have key:=λhq=>BV (P:=P) (fn:=fn) (res:=res) hr hq
 cases e with
 |normal=>exact key hq
 |ret=>exact key hq
 |_=>exact hq.elim
end
end Go.Proofs.YtliknccmjjncbaaGreat
namespace Go.Proofs.YtliknccmjjncbaaGreat
open Go.RowKit
theorem AN(n:Nat)(h:n<=4611686018427387904):IntKind.i64.wrap (n:Int)=n:=by
 simp[IntKind.wrap,IntKind.bits,IntKind.signed];omega
theorem R4(n:Int)(h: -9223372036854775808<=n/\n<=9223372036854775807):IntKind.i64.wrap n=n:=by
 simp[IntKind.wrap,IntKind.bits,IntKind.signed];omega
section
variable {P:Program}{N:Nat}{s:AS}{o:Oper}{K:AS->Prop}
def Wl(k:Nat):Option (TypeId×Nat)->Option (List DV)->Option AV
 |some (_,k'),some e=>if k'=k then some (.p false [.rd e])else none
 |_,_=>none
def R0(id st j:Nat):Option (TypeId×Nat)->Option Ob->Option AV
 |some (_,k'),some (.row _ _ k es _)=>if k'=k/\j<es.length then some (.p false [.elt id st k j 0])else none
 |some (_,k'),some (.arr _ _ k es)=>if k'=k/\j<es.length then some (.p false [.elt id st k j 0])else none
 |some (el,k'),some (.frz _ (.sl _ k es))=>Wl k (some (el,k')) es[j]?
 |_,_=>none
theorem Wq{t t' k:Nat}{es:List (List DV)}{i:Int}(h0:0<=i):tJ P s t (.d (.sl t' k es)) i=Wl k (dN P t) es[i.toNat]?:=by
 unfold tJ;rw[if_pos h0]
 cases h1:dN P t with
 |none=>rfl
 |some p=>cases h2:es[i.toNat]? <;>simp[Wl,h2]
theorem Xu{t id st:Nat}{i:Int}(h0:0<=i):tJ P s t (.own id st) i=R0 id st i.toNat (dN P t) (s.own? id st):=by
 unfold tJ;rw[if_pos h0]
 cases h1:dN P t with
 |none=>rfl
 |some p=>
  cases h2:s.own? id st with
  |none=>grind[R0]
  |some ob=>
   cases ob with
   |frz st' x=>
    cases x with
    |sc v=>grind[R0]
    |sl t' k es=>cases h3:es[i.toNat]? <;>simp[R0,Wl,h2,h3]
   |_=>simp[R0,h2]
theorem zZ{f:FuncId}{args:Array Operand}{ts:Array TypeId}{ys:List (Bool×List DV)}{res:List Rs}(ho:o.op=.call ⟨.value (.func f),args,ts⟩)(hm:aB P f ys res)(hr:res.all (·.2.2)=true)(hd:dB N o.dst=true)(har:fe s args.toList ys)
 (hk:K ((s.pushL (b7 false res s.c)).put o.dst (k8 res s.n s.c))):rB P N o K s:=
 ⟨_,(On false ho hm (.inl ⟨har,λr hx=>by grind⟩)).toO (cn hd),hk⟩
theorem Id{t el:TypeId}{k n by_:Nat}{x y:Operand}{zs:List Value}{ds:List DV}(ho:o.op=.makeSlice t x y)(hx:s.ev x=mo (.int .i64 n))(hy:s.ev y=mo (.int .i64 n))(ht:dN P t=some (el,k))(hk:0<k)
 (hz:aT P el=some zs) (hzl:zs.length=k) (hd:U2 zs=some ds) (hby:dW P el=some by_) (hn:by_*n<=281474976710656) (h63:n<=9223372036854775807) (hdst:dB N o.dst=true)
 (hK:K ((s.push (.row s.c el k (List.replicate n ds) true)).put o.dst (.p false [.own s.n s.c]))):rB P N o K s:=
 ⟨_,(M7 ho hx hy ht hk hz hzl hd hby hn h63).toO (cn hdst),hK⟩
theorem KU{t t':TypeId}{x y:Operand}{i st k j off:Nat}{es:List (List DV)}{e ds:List DV}{xs:List AC}{s':AS}(ho:o.op=.store t x y)(hd:o.dst=none)(hx:s.ev x=.p false [.elt i st k j off])
 (hi:s.own? i st=some (.row st t' k es true)) (he:es[j]? =some e) (hy:bV s (s.ev y)=some xs) (hsz:cG P t=some xs.length) (hl:off+xs.length<=k) (hgv:eT s s' xs ds) (hi':s'.own? i st=some (.row st t' k es true))
 (hk:K {s' with ob:=upd s'.ob i (.row st t' k (es.set j (plug off ds e)) true)}):rB P N o K s:=
 ⟨_,NM ho hd hx hi he hy hsz hl hgv hi',hk⟩
end
end Go.Proofs.YtliknccmjjncbaaGreat
namespace Go.Proofs.YtliknccmjjncbaaGreat
open Go.RowKit
section
variable {P:Program}{s s':AS}
structure cP(s s':AS)(xs:List Operand):Prop where
 ob:s'.ob=s.ob
 n:s'.n=s.n
 sl:∀t,Operand.tmp t∈xs->s'.sl t=s.sl t
theorem cP.ev{xs:List Operand}(h:cP s s' xs){x:Operand}(hx:x∈xs):s'.ev x=s.ev x:=by
 cases x with
 |tmp t=>exact h.sl t hx
 |const v=>rfl
 |global g=>rfl
 |func f=>rfl
theorem cP.own{xs:List Operand}(h:cP s s' xs)(i st:Nat):s'.own? i st=s.own? i st:=by unfold AS.own?;rw[h.ob,h.n]
theorem cP.sub{xs ys:List Operand}(h:cP s s' xs)(hy:∀y∈ys,y∈xs):cP s s' ys:=⟨h.ob,h.n,λt ht=>h.sl t (hy _ ht)⟩
theorem Gr{op:Op}(h:cP s s' op.operands.toList):hV P s' op=hV P s op:=by
 have ho:=λi st=>h.own i st
 have hoo:s'.own? =s.own?:=by funext i st;grind
 cases op<;>try rfl
 case move x=>simp only[hV,h.ev (x:=x) (by simp[Op.operands])]
 case assign x=>simp only[hV,h.ev (x:=x) (by simp[Op.operands])]
 case pick c x y=>simp only[hV,h.ev (x:=x) (by simp[Op.operands]),h.ev (x:=y) (by simp[Op.operands]),h.ev (x:=c) (by simp[Op.operands])]
 case load t x=>simp only[hV,h.ev (x:=x) (by simp[Op.operands])];simp_all[G7]
 case fieldAddr t x f=>simp only[hV,h.ev (x:=x) (by simp[Op.operands])];simp_all[P0]
 case field t x f=>simp only[hV,h.ev (x:=x) (by simp[Op.operands])]
 case indexAddr t x ix=>simp only[hV,h.ev (x:=x) (by simp[Op.operands]),h.ev (x:=ix) (by simp[Op.operands])];unfold tJ;rw[hoo]
 case index t x ix=>simp only[hV,h.ev (x:=x) (by simp[Op.operands]),h.ev (x:=ix) (by simp[Op.operands])]
 case binOp op t x y ty=>simp only[hV,h.ev (x:=x) (by simp[Op.operands]),h.ev (x:=y) (by simp[Op.operands])]
 case unOp op t x=>simp only[hV,h.ev (x:=x) (by simp[Op.operands])]
 case convert a b x=>
  have hrd:PW s'=PW s:=by funext c;unfold PW;rw[h.ob,h.n]
  have hcv:∀y,O4 P s' a b y=O4 P s a b y:=by simp_all[O4,cvB]
  simp only[hV,h.ev (x:=x) (by simp[Op.operands]),hcv]
 case nilCheck x=>simp only[hV,h.ev (x:=x) (by simp[Op.operands])];simp_all[TF]
 case extract x ix=>simp only[hV,h.ev (x:=x) (by simp[Op.operands])]
 case slice t x lo hi mx=>
  cases mx with
  |some _=>rfl
  |none=>
   have e1:s'.evI lo=s.evI lo:=by
    cases lo with
    |none=>rfl
    |some y=>simp only[AS.evI,h.ev (x:=y) (by simp[Op.operands])]
   have e2:s'.evI hi=s.evI hi:=by
    cases hi with
    |none=>rfl
    |some y=>simp only[AS.evI,h.ev (x:=y) (by simp[Op.operands])]
   simp only[hV,e1,e2,h.ev (x:=x) (by simp[Op.operands])];unfold tV;rw[hoo]
 case call c=>
  obtain⟨callee,args,ts⟩:=c;simp only[hV];unfold tu;split
  ·rename_i y t h1 h2
   have:y∈(Op.call ⟨.builtin .len,args,ts⟩).operands.toList:=by simp[Op.operands,Call.operands,<-h1];simpa using congrArg (y∈ ·) h1
   rw[h.ev this];simp_all[lz]
  ·rename_i y z h1;have m1:y∈(Op.call ⟨.builtin .max,args,ts⟩).operands.toList:=by simp[Op.operands,Call.operands];simp[<-Array.mem_toList_iff,h1]
   have m2:z∈(Op.call ⟨.builtin .max,args,ts⟩).operands.toList:=by simp[Op.operands,Call.operands];simp[<-Array.mem_toList_iff,h1]
   rw[h.ev m1,h.ev m2]
  ·rename_i y z h1;have m1:y∈(Op.call ⟨.builtin .min,args,ts⟩).operands.toList:=by simp[Op.operands,Call.operands];simp[<-Array.mem_toList_iff,h1]
   have m2:z∈(Op.call ⟨.builtin .min,args,ts⟩).operands.toList:=by simp[Op.operands,Call.operands];simp[<-Array.mem_toList_iff,h1]
   rw[h.ev m1,h.ev m2]
  ·rfl
end
end Go.Proofs.YtliknccmjjncbaaGreat
namespace Go.Proofs.YtliknccmjjncbaaGreat
open Go.RowKit
inductive HK where
 |v (x:AV)
 |c (res:List Rs)
 |b (el k:Nat) (parts:List (Nat×Operand))
 |a (t:TypeId) (cs:List AC)
 |p (op:Op)
def JJ(P:Program)(w:World)(a:Act)(v:Value):Op->Prop
 |.load t x=>∀w',Below w.heap.size w w'->(Instr.loadAt t (a.eval x)).run P w'=.ok v w'
 |.build t parts=>∃us:List Value,v=.agg us.toArray/\P.built t (parts.map λx=>(x.1,a.eval x.2)).toList=some us.toArray
 |.field t x f=>∀w',(Instr.field t (a.eval x) f).run P w'=.ok v w'
 |.move x=>v=a.eval x
 |.assign x=>v=a.eval x
 |.extract x ix=>∃vs:List Value,a.eval x=.tuple vs.toArray/\vs[ix]? =some v
 |.call ⟨.builtin .append,args,_⟩=>∃X Y,args=#[X,Y]/\v=a.eval X
 |_=>False
def GR:Op->Bool
 |.build _ _=>true
 |.move _=>true
 |.assign _=>true
 |.extract _ _=>true
 |.load _ _=>true
 |.field _ _ _=>true
 |_=>false
def Ht(h:AS)(op:Op):Prop:=GR op=true/\∀t x,op=.load t x->∃i st off ty cs,h.ev x=.p false [.ptr i st off]/\h.own? i st=some (.var st ty cs)
def jc(rs:List Rs):AV:=match rs.map λr=>(r.1,r.2.1.map AC.d)with|[(b,cs)]=>.p b cs|l=>.tup l
def kg(a:Act)(parts:List (Nat×Operand)):List Value:=parts.flatMap λx=>(a.eval x.2).cells.toList
def dL:List AC->Option (List DV)
 |[]=>some []
 |.d x::r=>match dL r with|some xs=>some (x::xs)|none=>none
 |_::_=>none
def NF:List (List AC)->Option (List (List DV))
 |[]=>some []
 |e::r=>match dL e,NF r with|some x,some xs=>some (x::xs)|_,_=>none
def vq(el k:Nat)(es:List (List AC)):AV:=if es.isEmpty then .p false [.emp]else match NF es with|some ds=>.p false [.d (.sl el k ds)]|none=>.und
def BB:AV->Bool
 |.p false [.emp]=>true
 |.p false [.nil]=>true
 |_=>false
def ct:AC->Bool
 |.d (.sc _)=>true
 |.nil=>true
 |.own _ _=>true
 |.ptr _ _ _=>true
 |.elt _ _ _ _ _=>true
 |.sub _ _ _ _ _=>true
 |.emp=>true
 |_=>false
def jy(pr:Bool)(x:AV):AV:=if pr then x else match x with
 |.p b cs=>if cs.all ct then .p b cs else .und
 |_=>.und
def oW(P:Program)(s:AS):Op->Option AV
 |.build t parts=>if Co P t then(match aY P t with|some z=>(match iy P s t parts.toList z with|some cs=>some (.p true cs)|none=>none)|none=>none)else none
 |op=>hV P s op
def Rz(P:Program)(h:AS)(op:Op)(y:AV):Prop:=
 (∃t len parts el k es ds,op=.buildSlice t len parts/\dN P t=some (el,k)/\(aT P el).isSome=true/\0<k/\parts.toList.length=len/\len*k<=16777216/\t9 h k parts.toList 0=some es/\NF es=some ds/\y=.p false [.lit el k ds])\/
 (∃X Y t el k by_ c t2 ds es zs,op=.call ⟨.builtin .append,#[X,Y],#[t,t]⟩/\dN P t=some (el,k)/\aT P el=some zs/\zs.length=k/\0<k/\dW P el=some by_/\h.ev X=.p false [.lit el k ds]/\h.ev Y=.p false [c]/\Qx h c (.sl t2 k es)/\
  ds.length+es.length<=maxLen/\(ds.length+es.length)*by_<=140737488355328/\y=.p false [.d (.sl el k (ds++es))])
def zr(P:Program)(pr:Bool)(h q:AS)(o:Oper)(kd:HK)(x:AV)(q':AS):Prop:=
 (∃y,oW P h o.op=some y/\kd=.v y/\x=y/\q'=q.put o.dst (jy pr y))\/
 (∃f args ts ys res,o.op=.call ⟨.value (.func f),args,ts⟩/\aB P f ys res/\fe h args.toList ys/\res.all (·.2.2)=true/\(pr=true->b7 false res 0=[])/\kd=.c res/\x=jc res/\q'=(q.pushL (b7 false res q.c)).put o.dst (k8 res q.n q.c))\/
 (∃t len parts el k es esq,o.op=.buildSlice t len parts/\pr=false/\dN P t=some (el,k)/\(aT P el).isSome=true/\0<k/\parts.toList.length=len/\len*k<=16777216/\t9 h k parts.toList 0=some es/\t9 q k parts.toList 0=some esq/\
  kd=.b el k parts.toList/\x=vq el k es/\q'=(q.push (.arr q.c el k esq)).put o.dst (.p false [.own q.n q.c]))\/
 (∃t cs,o.op=.alloc t/\aY P t=some cs/\kd=.a t cs/\x=.und/\q'=(q.push (.var q.c t cs)).put o.dst (.p false [.ptr q.n q.c 0]))\/
 (∃y z,Ht h o.op/\pr=false/\oW P h o.op=some y/\oW P q o.op=some z/\kd=.p o.op/\x=y/\q'=q.put o.dst z)\/
 (∃X Y t el k by_ c t2 es zs res,o.op=.call ⟨.builtin .append,#[X,Y],#[t,t]⟩/\pr=false/\dN P t=some (el,k)/\aT P el=some zs/\zs.length=k/\0<k/\dW P el=some by_/\BB (h.ev X)=true/\h.ev Y=.p false [c]/\CP h c (.sl t2 k es)/\es≠[]/\pz es.flatten/\
  es.length<=maxLen/\es.length*by_<=140737488355328/\res=[(false,[.sl el k es],true)]/\kd=.c res/\x=jc res/\q'=(q.pushL (b7 false res q.c)).put o.dst (k8 res q.n q.c))\/
 (∃X Y t el k c t2 k2,o.op=.call ⟨.builtin .append,#[X,Y],#[t,t]⟩/\pr=false/\dN P t=some (el,k)/\BB (h.ev X)=true/\h.ev Y=.p false [c]/\CP h c (.sl t2 k2 [])/\kd=.p o.op/\x=h.ev X/\q'=q.put o.dst (q.ev X))\/
 (∃f args ts ys res,o.op=.call ⟨.value (.func f),args,ts⟩/\aB P f ys res/\fW h args.toList ys/\kd=.v (jc res)/\x=jc res/\q'=q.put o.dst (jy pr (jc res)))\/
 (∃y,Rz P h o.op y/\pr=false/\kd=.v y/\x=y/\q'=q.put o.dst (jy pr y))
def En.plus(E:En)(m M:Nat)(X:Nat->Prop):En:={E with A:=λb=>E.A b\/(m<=b/\b<M/\¬X b)}
def xk(X:Nat->Prop)(f:List Nat):HK->Nat->Prop
 |.a _ _=>λb=>X b\/b∈f
 |_=>X
def Fn(P:Program)(m:Nat)(E:En)(L:Nat->Option Nat)(c:Nat)(a:Act)(w:World)(v:Value)(f:List Nat):HK->Prop
 |.v x=>f=[]
 |.c res=>∃vs fs,(if res.length=1 then vs=[v]else v=.tuple vs.toArray)/\bH w m (λ_=>False) vs res fs/\f=fs.flatten/\f.Nodup/\∀r∈res,r.2.2=true
 |.b el k parts=>∃g,v=.slice (some ⟨g,0,none⟩) parts.length parts.length/\f=[g]/\m<=g/\mG w g el (kg a parts).toArray
 |.a t cs=>∃g vals,v=.pointer (some ⟨g,0,none⟩)/\f=[g]/\m<=g/\mG w g t (vals:List Value).toArray/\∀w E L c,aD w E L c cs vals
 |.p op=>f=[]/\JJ P w a v op
section
variable {P:Program}{w0:Cx}{w w':World}{N m:Nat}{s h H:AS}{a:Act}{E:En}{o:Oper}
theorem bH.keep{b0:Nat}{A:Nat->Prop}(hk:∀b,b<w.heap.size->w'.heap[b]? =w.heap[b]?):∀{vs:List Value} {rs:List Rs} {fs:List (List Nat)},(∀r∈rs,r.2.2=true)->bH w b0 A vs rs fs->bH w' b0 A vs rs fs
 |[],[],[],_,_=>trivial
 |v::vs,r::rs,f::fs,hd,h=>by
  refine⟨?_,bH.keep hk (λr hr=>hd r (List.mem_cons_of_mem _ hr)) h.2⟩;obtain⟨vals,h1,h2⟩:=h.1;have hr:=hd r (List.mem_cons_self ..);rw[if_pos hr]at h2
  exact⟨vals,h1,by rw[if_pos hr];exact h2.keep λb hb=>hk b (h2.blocks b hb).2⟩
 |[],_::_,_,_,h=>by cases h
 |[],[],_::_,_,h=>by cases h
 |_::_,[],_,_,h=>by cases h
 |_::_,_::_,[],_,h=>by cases h
theorem bH.blocks{b0:Nat}{A:Nat->Prop}:∀{vs:List Value} {rs:List Rs} {fs:List (List Nat)},(∀r∈rs,r.2.2=true)->bH w b0 A vs rs fs->∀b∈fs.flatten,b0<=b/\b<w.heap.size
 |[],[],[],_,_=>by simp
 |v::vs,r::rs,f::fs,hd,h=>by
  intro b hb;rw[List.flatten_cons]at hb;rcases List.mem_append.1 hb with hb|hb
  ·obtain⟨vals,h1,h2⟩:=h.1;rw[if_pos (hd r (List.mem_cons_self ..))]at h2;exact h2.blocks b hb
  ·exact bH.blocks (λr hr=>hd r (List.mem_cons_of_mem _ hr)) h.2 b hb
 |[],_::_,_,_,h=>by cases h
 |[],[],_::_,_,h=>by cases h
 |_::_,[],_,_,h=>by cases h
 |_::_,_::_,[],_,h=>by cases h
theorem bH.lo{b0 b1:Nat}{A:Nat->Prop}(hb:b1<=b0):∀{vs:List Value} {rs:List Rs} {fs:List (List Nat)},(∀r∈rs,r.2.2=true)->bH w b0 A vs rs fs->bH w b1 A vs rs fs
 |[],[],[],_,_=>trivial
 |v::vs,r::rs,f::fs,hd,h=>by
  refine⟨?_,bH.lo hb (λr hr=>hd r (List.mem_cons_of_mem _ hr)) h.2⟩;obtain⟨vals,h1,h2⟩:=h.1;have hr:=hd r (List.mem_cons_self ..);rw[if_pos hr]at h2
  exact⟨vals,h1,by rw[if_pos hr];exact h2.lo hb⟩
 |[],_::_,_,_,h=>by cases h
 |[],[],_::_,_,h=>by cases h
 |_::_,[],_,_,h=>by cases h
 |_::_,_::_,[],_,h=>by cases h
theorem bH.parts{b0:Nat}{A:Nat->Prop}{L:Nat->Option Nat}{c:Nat}(hA:∀b,b0<=b->b<w.heap.size->E.A b):∀{vs:List Value} {rs:List Rs} {fs:List (List Nat)},(∀r∈rs,r.2.2=true)->bH w b0 A vs rs fs->lj w E L c (rs.map λr=>(r.1,r.2.1.map AC.d)) vs
 |[],[],[],_,_=>trivial
 |v::vs,r::rs,f::fs,hd,h=>by
  refine⟨?_,bH.parts hA (λr hr=>hd r (List.mem_cons_of_mem _ hr)) h.2⟩;obtain⟨vals,h1,h2⟩:=h.1;rw[if_pos (hd r (List.mem_cons_self ..))]at h2
  exact mZ h1 (aD.ofRep (h2.rep.mono λb hb=>hA b (h2.blocks b hb).1 (h2.blocks b hb).2))
 |[],_::_,_,_,h=>by cases h
 |[],[],_::_,_,h=>by cases h
 |_::_,[],_,_,h=>by cases h
 |_::_,_::_,[],_,h=>by cases h
theorem Bb{L:Nat->Option Nat}{c:Nat}{rs:List Rs}{vs:List Value}{v:Value}(h:lj w E L c (rs.map λr=>(r.1,r.2.1.map AC.d)) vs)(hv:if rs.length=1 then vs=[v]else v=.tuple vs.toArray):bi w E L c (jc rs) v:=by
 obtain⟨h1,h2⟩:=rP h;unfold jc;split
 ·rename_i b cs he;have hl:rs.length=1:=by have:=congrArg List.length he;grind
  rw[he]at h;rw[if_pos hl]at hv;subst hv;exact h.1
 ·rename_i hne
  have:¬rs.length=1:=by
   intro e
   match rs,e with
   |[r],_=>grind
  rw[if_neg this]at hv;exact⟨vs,hv,h1,h2⟩
theorem rI{xs:List Operand}(hal:cP h H xs)(x:AV):bV H x=bV h x:=by
 have hoo:H.own? =h.own?:=by funext i st;exact hal.own i st
 have hok:FK H=FK h:=by funext c;cases c<;>simp[FK,hoo]
 simp_all[bV]
theorem x8{t:TypeId}:∀{parts:List (Nat×Operand)} {z:List AC},cP h H (parts.map (·.2))->iy P H t parts z=iy P h t parts z
 |[],z,_=>rfl
 |(i,x)::r,z,hal=>by
  have e1:=hal.ev (x:=x) (by simp);simp only[iy,e1,rI hal];split
  ·split
   ·exact x8 (hal.sub (λy hy=>by grind))
   ·rfl
  ·rfl
theorem qc{k:Nat}:∀{parts:List (Nat×Operand)} {j:Nat},cP h H (parts.map (·.2))->t9 H k parts j=t9 h k parts j
 |[],j,_=>rfl
 |(i,x)::r,j,hal=>by
  have e1:=hal.ev (x:=x) (by simp);simp only[t9,e1,rI hal,qc (parts:=r) (hal.sub (λy hy=>by grind))]
theorem wY{xs:List Operand}(hal:cP h H xs)(cs:List AC)(ds:List DV):IA H cs ds=IA h cs ds:=by
 have e0:By H=By h:=by funext c x;cases c<;>simp[By,hal.ob,hal.n]
 have e1:Bk H=Bk h:=by
  funext c x
  induction c generalizing x with
  |nil=>cases x<;>rfl
  |cons a c ih=>cases x with
   |nil=>rfl
   |cons y x=>simp_all[Bk]
 have e2:wu H=wu h:=by
  funext c x
  induction c generalizing x with
  |nil=>cases x<;>rfl
  |cons a c ih=>cases x with
   |nil=>rfl
   |cons y x=>simp_all[wu]
 have e3:CP H=CP h:=by funext c x;cases c<;>simp[CP,hal.ob,hal.n,e2]
 induction cs generalizing ds with
 |nil=>cases ds<;>rfl
 |cons a c ih=>cases ds with
  |nil=>rfl
  |cons y x=>simp_all[IA]
theorem um:∀{xs:List Operand} {ys:List (Bool×List DV)},cP h H xs->fe h xs ys->fe H xs ys
 |[],[],_,_=>trivial
 |[],_::_,_,h=>h.elim
 |_::_,[],_,h=>h.elim
 |x::xs,y::ys,hal,hr=>by
  refine⟨?_,um (hal.sub λz hz=>List.mem_cons_of_mem _ hz) hr.2⟩;have:=hr.1;rw[hal.ev (List.mem_cons_self ..)]
  grind[wY,absurd]
theorem Bm{xs:List Operand}(hal:cP h H xs)(cs:List AC)(ds:List DV):CN H cs ds=CN h cs ds:=by
 have e1:Qx H=Qx h:=by funext c x;cases c<;>simp[Qx,hal.ob,hal.n]
 induction cs generalizing ds with
 |nil=>cases ds<;>rfl
 |cons a c ih=>cases ds with
  |nil=>rfl
  |cons y x=>simp_all[CN]
theorem rH:∀{xs:List Operand} {ys:List (Bool×List DV)},cP h H xs->fW h xs ys->fW H xs ys
 |[],[],_,_=>trivial
 |[],_::_,_,h=>h.elim
 |_::_,[],_,h=>h.elim
 |x::xs,y::ys,hal,hr=>by
  refine⟨?_,rH (hal.sub λz hz=>List.mem_cons_of_mem _ hz) hr.2⟩;have:=hr.1;rw[hal.ev (List.mem_cons_self ..)]
  grind[Bm,absurd]
theorem D3(hr:aH w0 N h a w E){k:Nat}:∀{parts:List (Nat×Operand)} {j:Nat} {es:List (List AC)},t9 h k parts j=some es->aD w E h.lv h.c es.flatten (kg a parts)/\(kg a parts).length=parts.length*k
 |[],j,es,hf=>by grind[t9,aD.nil,kg]
 |(i,x)::r,j,es,hf=>by
  simp only[t9]at hf;split at hf
  ·rename_i cs es' h1 h2;split at hf
   ·rename_i hl;injection hf with hf;subst hf;obtain⟨c1,_⟩:=cZ hr h1 (aP hr x);obtain⟨c2,c3⟩:=D3 hr h2;have hcat:kg a ((i,x)::r)=(a.eval x).cells.toList++kg a r:=by rfl
    rw[hcat,List.flatten_cons];refine⟨c1.app c2,?_⟩;rw[List.length_append,c3,<-c1.1,hl.2,List.length_cons,Nat.succ_mul];omega
   grind
  grind
theorem FR(hr:aH w0 N h a w E){k:Nat}:∀{parts:List (Nat×Operand)} {j:Nat} {es:List (List AC)} {done rest:List Value},t9 h k parts j=some es->done.length=j*k->rest.length=parts.length*k->
 Instr.fill (λi=>some (i*k,k)) (done++rest).toArray (parts.map λx=>(x.1,a.eval x.2))=some (done++kg a parts).toArray
 |[],j,es,done,rest,hf,hd,hr'=>by
  have:rest=[]:=List.eq_nil_of_length_eq_zero (by grind);subst this
  rfl
 |(i,x)::r,j,es,done,rest,hf,hd,hr'=>by
  simp only[t9]at hf;split at hf
  ·rename_i cs es' h1 h2;split at hf
   ·rename_i hl;obtain⟨rfl,hl⟩:=hl;obtain⟨c1,_⟩:=cZ hr h1 (aP hr x);have hsz:(a.eval x).cells.toList.length=k:=by rw[<-c1.1];exact hl
    rw[List.length_cons,Nat.succ_mul]at hr';have e1:=FR hr (done:=done++(a.eval x).cells.toList) (rest:=rest.drop k) h2 (by rw[List.length_append,hsz,hd,Nat.succ_mul]) (by rw[List.length_drop];omega);have hcat:kg a ((i,x)::r)=(a.eval x).cells.toList++kg a r:=by rfl
    rw[List.map_cons,Instr.fill];have hsz':(a.eval x).cells.size=k:=by assumption
    have hle:i*k+(a.eval x).cells.size<=(done++rest).toArray.size:=by rw[hsz'];grind
    simp only;rw[if_neg (by grind),wN hle]
    have:plug (i*k) (a.eval x).cells.toList (done++rest).toArray.toList=done++(a.eval x).cells.toList++rest.drop k:=by
     unfold plug;rw[hsz];rw[show(done++rest).toArray.toList=done++rest from rfl,<-hd,List.take_left,List.drop_length_add_append]
    rw[this,e1,hcat,List.append_assoc]
   grind
  grind
theorem RZ{L:Nat->Option Nat}{c:Nat}:∀{cs:List AC} {ds:List DV} {vals:List Value},dL cs=some ds->aD w E L c cs vals->aL w E.A vals ds
 |[],ds,vals,hd,hc=>by simp only[dL]at hd;injection hd with hd;subst hd;rw[hc.nil'];exact .nil
 |x::r,ds,vals,hd,hc=>by
  cases x with
  |d y=>
   simp only[dL]at hd;split at hd
   ·rename_i xs hx;injection hd with hd;subst hd;obtain⟨u,us,rfl,c1,c2⟩:=hc.cons';exact aL.cons c1 (RZ hx c2)
   grind
  |_=>simp only[dL]at hd;cases hd
theorem N6{L:Nat->Option Nat}{c:Nat}:∀{es:List (List AC)} {ds:List (List DV)} {vals:List Value},NF es=some ds->aD w E L c es.flatten vals->aL w E.A vals ds.flatten/\ds.length=es.length/\∀k,(∀e∈es,e.length=k)->∀e∈ds,e.length=k
 |[],ds,vals,hd,hc=>by simp only[NF]at hd;injection hd with hd;subst hd;rw[hc.nil'];exact⟨.nil,rfl,by simp⟩
 |e::r,ds,vals,hd,hc=>by
  simp only[NF]at hd;split at hd
  ·rename_i x xs h1 h2;injection hd with hd;subst hd;rw[List.flatten_cons]at hc;have hl:e.length<=vals.length:=by rw[<-hc.1];simp
   have c1:aD w E L c e (vals.take e.length):=by have:=hc.take e.length;rwa [List.take_left]at this
   have c2:aD w E L c r.flatten (vals.drop e.length):=by have:=hc.drop e.length;rwa [List.drop_left]at this
   have r1:=RZ h1 c1;obtain⟨r2,r3,r4⟩:=N6 h2 c2;refine⟨?_,by grind,λk hk y hy=>?_⟩
   ·have:=r1.app r2
    rwa [List.take_append_drop]at this
   ·rcases List.mem_cons.1 hy with rfl|hy
    ·have:=r1.len;have h5:=hk e (List.mem_cons_self ..);rw[List.length_take]at this;omega
    simp_all
  grind
end
end Go.Proofs.YtliknccmjjncbaaGreat
namespace Go.Proofs.YtliknccmjjncbaaGreat
open Go.RowKit
def U8(P:Program)(m:Nat)(Zp:Nat->Prop)(L:Nat->Option Nat)(c:Nat)(o:Oper)(a:Act)(w:World)(E:En)(kd:HK)(x:AV)(a':Act)(w':World):Prop:=
 ∃v f,a'=a.put o.dst v/\Below w.heap.size w w'/\(∀b∈f,w.heap.size<=b/\b<w'.heap.size)/\Fn P m E L c a w' v f kd/\bi w' (E.plus m w'.heap.size (xk Zp f kd)) L c x v
section
variable {P:Program}{w0:Cx}{w w':World}{N m:Nat}{s h H q q':AS}{a:Act}{E:En}{o:Oper}{Zp:Nat->Prop}
theorem wZ{Zp Y:Nat->Prop}{L:Nat->Option Nat}{c:Nat}(hb:Below w.heap.size w w')(hA:∀b,E.A b->b<w.heap.size)(hXY:∀b,b<w.heap.size->Y b->Zp b):ft w (E.plus m w.heap.size Zp) L c w' (E.plus m w'.heap.size Y) L c:=by
 refine⟨λb hb'=>?_,λi st _ h=>⟨h,rfl⟩,Nat.le_refl _⟩;have hs:=hb.size;rcases hb' with h1|h1
 ·exact⟨.inl h1,hb.block b (hA b h1)⟩
 ·exact⟨.inr ⟨h1.1,by omega,λh=>h1.2.2 (hXY b h1.2.1 h)⟩,hb.block b h1.2.1⟩
theorem Hp{t:TypeId}{parts:Array (Nat×Operand)}:(parts.toList.map (·.2))=(Op.build t parts).operands.toList:=by rfl
theorem zO{t:TypeId}{len:Nat}{parts:Array (Nat×Operand)}:(parts.toList.map (·.2))=(Op.buildSlice t len parts).operands.toList:=by rfl
theorem Vq{x:AV}(hx:oW P H o.op=some x):dH P o H x []:=by
 unfold oW at hx
 grind[ER,Fp]
theorem E7{x:AV}(hx:oW P s o.op=some x):∀w0 N a w E,aH w0 N s a w E->∃v,(execOp a.eval o).run P w=.ok (.value v) w/\bi w E s.lv s.c x v:=by
 unfold oW at hx;split at hx
 ·rename_i t parts ho;split at hx
  ·rename_i h1;split at hx
   ·rename_i z h2;split at hx
    ·rename_i cs h3;injection hx with hx;subst hx;intro w0 N a w E h;obtain⟨us,k1,k2⟩:=qe (o:=o) h1 h2 h3 h;exact⟨.agg us.toArray,xt ho k1 w,us,rfl,k2⟩
    grind
   grind
  grind
 grind[Lf]
theorem eK{op:Op}(hal:cP h H op.operands.toList):oW P H op=oW P h op:=by
 cases op with
 |build t parts=>grind[oW,x8,Hp]
 |_=>exact Gr (P:=P) hal
theorem Db{x:AV}{v:Value}{L:Nat->Option Nat}{c:Nat}(hx:BB x=true)(hv:bi w E L c x v):∃A,v=.slice A 0 0:=by
 unfold BB at hx;split at hx
 ·exact aE hv
 ·obtain rfl:v=_:=aE hv
  grind
 grind
theorem Ia{X Y:Operand}{t el:TypeId}{k by_ t2:Nat}{c:AC}{es:List (List DV)}{zs:List Value}(ho:o.op=.call ⟨.builtin .append,#[X,Y],#[t,t]⟩)(ht:dN P t=some (el,k))(hz:aT P el=some zs)(hzl:zs.length=k)(hk:0<k)(hby:dW P el=some by_)
 (hX:BB (H.ev X)=true) (hY:H.ev Y=.p false [c]) (hrd:CP H c (.sl t2 k es)) (hne:es≠[]) (hfl:pz es.flatten) (h63:es.length<=maxLen) (hbytes:es.length*by_<=140737488355328) (hrep:aH w0 N H a w E):
 ∃v' w',(execOp a.eval o).run P w=.ok (.value v') w'/\Below w.heap.size w w'/\aR w' w.heap.size [v'] [.sl el k es] v'.ownBlock.toList:=by
 obtain⟨A0,hA⟩:=Db hX (aP hrep X);have e2:=aP hrep Y;rw[hY]at e2;obtain⟨Ad,cp,us,hv,hR,hru,hek⟩:=xZ (BD hrep (aE e2) hrd);obtain⟨hu,hsz⟩:=ka ht;unfold aT at hz;unfold cG at hsz;unfold dW at hby
 cases hi:P.info? el with
 |none=>grind
 |some ie=>
  simp[hi]at hsz hby
  cases hzz:ie.zero with
  |none=>grind
  |some z=>
   simp[hi,hzz]at hz;have hzc:z.cells.size=k:=by rw[<-hzl,<-hz];simp
   have hpos:0<es.length:=by grind
   obtain⟨v',w',bD,hown,hbl⟩:=jx (P:=P) (w:=w) t o.type el ie z k by_ hu hi hzz hsz hby hzc hk A0 _ Ad es.length cp us hR hru.one h63 hbytes hpos;refine⟨v',w',?_,hbl,?_⟩
   ·simp only[execOp,ho,resolve,invoke,builtin,Sem.run_bind,Sem.run_pure,Result.andThen_ok,List.map_toArray,List.map_cons,List.map_nil,hA,hv,bD]
   ·have hcl:aR w' w.heap.size us es.flatten []:=(aR.flat hru hfl).keep (by simp)
    have:=aR.sl (vs:=[]) (ds:=[]) (f:=[]) hown hk hek hcl .nil (by
     rw[List.append_nil,List.append_nil]
     cases v'.ownBlock<;>simp)
    rwa [List.append_nil,List.append_nil]at this
theorem D8{X Y:Operand}{t el:TypeId}{k t2 k2:Nat}{c:AC}(ho:o.op=.call ⟨.builtin .append,#[X,Y],#[t,t]⟩)(ht:dN P t=some (el,k))(hX:BB (H.ev X)=true)(hY:H.ev Y=.p false [c])(hrd:CP H c (.sl t2 k2 []))(hrep:aH w0 N H a w E):
 (execOp a.eval o).run P w=.ok (.value (a.eval X)) w:=by
 obtain⟨A0,hA⟩:=Db hX (aP hrep X);have e2:=aP hrep Y;rw[hY]at e2;obtain⟨A1,c1,hv,_,_⟩:=(BD hrep (aE e2) hrd).slShape;obtain⟨hu,hsz⟩:=ka ht;unfold cG at hsz
 cases hi:P.info? el with
 |none=>grind
 |some ie=>
  simp[hi]at hsz;have bD:=nI (P:=P) (w:=w) t o.type el ie k hu hi hsz A0 A1 c1;simp only[List.length_nil]at hv;simp only[execOp,ho,resolve,invoke,builtin,Sem.run_bind,Sem.run_pure,Result.andThen_ok,List.map_toArray,List.map_cons,List.map_nil,hA,hv,bD]
theorem OE{L:Nat->Option Nat}{c:Nat}{t:TypeId}{cs:List AC}{vals:List Value}{b off:Nat}{x:AV}(h:JX P t cs=some x)(hc:aD w E L c cs vals)(ha:At w b off vals):
 ∃v,(∀w',w'.heap[b]? =w.heap[b]?->(Instr.loadAt t (.pointer (some ⟨b,off,none⟩))).run P w'=.ok v w')/\bi w E L c x v:=by
 unfold JX at h;split at h
 ·rename_i hg;split at h
  ·rename_i k hk;split at h
   ·rename_i hl;injection h with h;subst h;have hlen:(vals.take k).length=k:=by rw[List.length_take,<-hc.1];omega
    refine⟨.agg (vals.take k).toArray,λw' hw=>BR P hg (by rw[hlen];exact hk) ?_,vals.take k,rfl,hc.take k⟩;have:=rS (i:=0) (k:=k) (ha.keep hw)
    assumption
   grind
  grind
 ·rename_i hg;split at h
  ·rename_i c0 r;injection h with h;subst h;obtain⟨u,us,rfl,h1,h2⟩:=hc.cons';exact⟨u,λw' hw=>Aj P hg (by have:=(ha.keep hw) 0 u rfl;assumption),aN h1⟩
  grind
 grind
theorem NJ{t el:TypeId}{len k:Nat}{parts:Array (Nat×Operand)}{es:List (List AC)}(ho:o.op=.buildSlice t len parts)(ht:dN P t=some (el,k))(hz:(aT P el).isSome=true)(hk:0<k)(hl:parts.toList.length=len)(hs:len*k<=16777216)(hf:t9 H k parts.toList 0=some es)(hrep:aH w0 N H a w E):
 (execOp a.eval o).run P w=.ok (.value (.slice (some ⟨w.heap.size,0,none⟩) len len)) (w.alloc (.cells (kg a parts.toList).toArray el)):=by
 obtain⟨hu,hsz⟩:=ka ht;obtain⟨zs,hz⟩:=Option.isSome_iff_exists.1 hz;obtain⟨hl1,hl2⟩:=kO hf;unfold aT at hz;unfold cG at hsz
 cases hi:P.info? el with
 |none=>grind
 |some ie=>
  simp[hi]at hsz
  cases hzz:ie.zero with
  |none=>grind
  |some z=>
   rcases Nat.eq_zero_or_pos len with h0|h0
   ·subst h0
    obtain rfl:parts=#[]:=by
     have hp:parts.toList=[]:=List.eq_nil_of_length_eq_zero hl
     grind
    simp[execOp,ho,Instr.buildSlice,run_underlying hu,sizeOf,typeInfo,hi,hsz,Instr.fill,newRow,kg];rw[show Array.map (λ(_:Nat)=>(default:Value)) (Array.range 0)=#[]from Array.ext (by simp) (λi h1 h2=>by grind)]
   ·obtain⟨us,e1,e2⟩:=Iz (w:=w) (a:=a) hrep (done:=[]) (rest:=((Array.range (len*k)).map (z.cells[· % z.cells.size]!)).toList) hf (by simp) (by grind)
    have hus:us=kg a parts.toList:=by
     have h1:=FR (a:=a) (k:=k) hrep hf (done:=[]) (rest:=((Array.range (len*k)).map (z.cells[· % z.cells.size]!)).toList) (by simp) (by grind)
     rw[e1]at h1
     grind
    subst hus
    have hr:=run_buildSlice (P:=P) w t el len (parts.map λx=>(x.1,a.eval x.2)) (kg a parts.toList).toArray ie z hu hi hzz (by rw[hsz];omega) (by rw[hsz];simp_all[Nat.ne_of_gt,Nat.mul_pos]) (by
     rw[hsz];have e3:=e1;rw[List.nil_append,List.nil_append,Array.toArray_toList]at e3
     rw[<-e3];simp)
    simp only[execOp,ho];rw[Sem.run_bind];rw[show(parts.map λ(x:Nat×Operand)=>match x with|(i,x)=>(i,a.eval x))=(parts.map λx=>(x.1,a.eval x.2))from rfl,hr];rfl
theorem IN{el:TypeId}{len k:Nat}{parts:Array (Nat×Operand)}{es:List (List AC)}{ds:List (List DV)}(hk:0<k)(hl:parts.toList.length=len)(hs:len*k<=16777216)(hf:t9 H k parts.toList 0=some es)(hds:NF es=some ds)(hrep:aH w0 N H a w (E.plus m w.heap.size Zp))(hA:∀b,E.A b->b<w.heap.size)(hZ:∀b,Zp b->b<w.heap.size)(hm:m<=w.heap.size):
 aL (w.alloc (.cells (kg a parts.toList).toArray el)) (E.plus m (w.alloc (.cells (kg a parts.toList).toArray el)).heap.size Zp).A [.slice (some ⟨w.heap.size,0,none⟩) len len] [.sl el k ds]:=by
 obtain⟨hl1,hl2⟩:=kO hf;obtain⟨hc1,hc2⟩:=D3 hrep hf;have hb:Below w.heap.size w (w.alloc (.cells (kg a parts.toList).toArray el)):=(Below.refl _ _).alloc (Nat.le_refl _) _;have hc3:=hc1.stay (wZ (Zp:=Zp) (Y:=Zp) (m:=m) (L:=H.lv) (c:=H.c) hb hA λ_ _ h=>h);obtain⟨r1,r2,r3⟩:=N6 hds hc3;have hlen:ds.length=len:=by rw[r2,hl1,hl]
 have hmx:len<=maxLen:=by
  have:len*1<=len*k:=Nat.mul_le_mul_left _ hk;unfold maxLen;omega
 rcases Nat.eq_zero_or_pos len with h0|h0
 ·obtain rfl:ds=[]:=List.eq_nil_of_length_eq_zero (by omega);subst h0;exact .sl0 hmx .nil
 ·exact aL.sl (.inr ⟨hm,by simp,λh=>Nat.lt_irrefl _ (hZ _ h)⟩) hlen.symm h0 (Nat.le_refl _) hmx hk (r3 k hl2) r1 (by simpa using sW (mG.new w el (kg a parts.toList).toArray) 0) .nil
theorem Bx{t ty e:TypeId}{i:TypeInfo}{z:Value}{size bytes:Nat}(ht:P.underlying t=some (.slice e))(hi:P.info? e=some i)(hz:i.zero=some z)
 (hsize:i.size=size) (hby:i.bytes=bytes) (hzs:z.cells.size=size) (hsz:0<size) {S:Nat->Prop} {A B:Option Addr} {n m c:Nat} {olds news:List Value} (hX:Rd w S size A n n olds) (hr:Rd w S size B m c news) (h1:∀u∈news,u.oneCell'=true)
 (h63:n+m<=maxLen) (hbytes:(n+m)*bytes<=140737488355328):
 ∃v' w',(Builtin.append_ #[t,t] ty #[.slice A n n,.slice B m c]).run P w=.ok v' w'/\Below w.heap.size w w'/\((m=0/\v'=.slice A n n/\w'=w)\/w'.ownsRow w.heap.size e size v' (n+m) (olds++news)):=by
 rcases Nat.eq_zero_or_pos m with h0|h0
 ·subst h0;refine⟨_,w,?_,Below.refl _ _,.inl ⟨rfl,rfl,rfl⟩⟩;cases A<;>cases B<;>simp[Builtin.append_,run_underlying ht,sizeOf,typeInfo,hi,Builtin.lenOf,Builtin.firstCells,loadCells,loadCellsFrom,storeCells]
 rcases Nat.eq_zero_or_pos n with k0|k0
 ·subst k0;obtain rfl:olds=[]:=List.eq_nil_of_length_eq_zero (by rw[hX.1];omega);obtain⟨v',w',k1,k2,k3⟩:=jx (P:=P) (w:=w) t ty e i z size bytes ht hi hz hsize hby hzs hsz A S B m c news hr h1 (by omega) (by simpa using hbytes) h0;exact⟨v',w',k1,k3,.inr (by simpa using k2)⟩
 ·obtain⟨ad,rfl,-,ha⟩:=hX.2.2.2 k0;obtain⟨bd,rfl,-,hb⟩:=hr.2.2.2 h0;obtain⟨v',w',k1,k2,k3⟩:=run_append_arg_grows (P:=P) w t ty e i z size bytes ht hi hz hsize hby hzs hsz ad n n olds hX.1 ha bd m c news hr.1 hb (by omega) h63 hbytes;exact⟨v',w',k1,(Below.refl _ _).grown k3 (Nat.le_refl _) (by simp),.inr k2⟩
theorem G4{y:AV}(hal:cP h H o.op.operands.toList)(hy:Rz P h o.op y):Rz P H o.op y:=by
 rcases hy with⟨t,len,parts,el,k,es,ds,ho,h1,h2,h3,h4,h5,h6,h7⟩|⟨X,Y,t,el,k,by_,c,t2,ds,es,zs,ho,h1,h2,h3,h4,h5,h6,h7,h8,h9⟩
 ·rw[ho,<-zO]at hal;rw[<-qc hal]at h6;exact .inl ⟨t,len,parts,el,k,es,ds,ho,h1,h2,h3,h4,h5,h6,h7⟩
 ·rw[ho]at hal;rw[<-hal.ev (x:=X) (by simp[Op.operands,Call.operands])]at h6;rw[<-hal.ev (x:=Y) (by simp[Op.operands,Call.operands])]at h7;have h8:Qx H c (.sl t2 k es):=by have:=Bm hal [c] [.sl t2 k es];simp_all[CN,and_true]
  exact .inr ⟨X,Y,t,el,k,by_,c,t2,ds,es,zs,ho,h1,h2,h3,h4,h5,h6,h7,h8,h9⟩
theorem PF{y:AV}(hy:Rz P H o.op y)(hrep:aH w0 N H a w (E.plus m w.heap.size Zp))(hA:∀b,E.A b->b<w.heap.size)(hZ:∀b,Zp b->b<w.heap.size)(hm:m<=w.heap.size):
 o.wp P a w (U8 P m Zp H.lv H.c o a w E (.v y) y) (λ_ _ _=>False):=by
 unfold Oper.wp;rcases hy with⟨t,len,parts,el,k,es,ds,ho,ht,hz,hk,hl,hs,hf,hds,rfl⟩|⟨X,Y,t,el,k,by_,c,t2,ds,es,zs,ho,ht,hz,hzl,hk,hby,hX,hY,hrd,h63,hbytes,rfl⟩
 ·rw[NJ ho ht hz hk hl hs hf hrep,Oper.upon_value];exact⟨_,[],rfl,(Below.refl _ _).alloc (Nat.le_refl _) _,by simp,rfl,aN ⟨⟨_,_,rfl⟩,IN hk hl hs hf hds hrep hA hZ hm⟩⟩
 ·have e1:=aP hrep X;rw[hX]at e1;obtain⟨⟨A0,n,hA0⟩,e1⟩:=aE e1;obtain⟨A1,c1,us,hv,hR,hru,hek⟩:=xZ e1;rw[hA0]at hv;injection hv with v1 v2 v3;subst v1 v2 v3;have e2:=aP hrep Y;rw[hY]at e2;obtain⟨B1,c2,vs,hv2,hR2,hru2,hek2⟩:=xZ (NL hrep (aE e2) hrd);obtain⟨hu,hsz⟩:=ka ht;unfold aT at hz;unfold cG at hsz;unfold dW at hby
  cases hi:P.info? el with
  |none=>grind
  |some ie=>
   simp[hi]at hsz hby
   cases hzz:ie.zero with
   |none=>grind
   |some z=>
    simp[hi,hzz]at hz;have hzc:z.cells.size=k:=by rw[<-hzl,<-hz];simp
    obtain⟨v',w',bD,hb,hor⟩:=Bx (P:=P) (ty:=o.type) hu hi hzz hsz hby hzc hk hR hR2 hru2.one h63 hbytes
    have hrun':(execOp a.eval o).run P w=.ok (.value v') w':=by
     simp only[execOp,ho,resolve,invoke,builtin,Sem.run_bind,Sem.run_pure,Result.andThen_ok,List.map_toArray,List.map_cons,List.map_nil,hA0,hv2,bD]
    rw[hrun',Oper.upon_value];have hst:=wZ (m:=m) (L:=H.lv) (c:=H.c) (Zp:=Zp) (Y:=Zp) hb hA λ_ _ h=>h
    refine⟨v',[],rfl,hb,by simp,rfl,aN ?_⟩;rcases hor with⟨h0,k1,k2⟩|hown
    ·obtain rfl:es=[]:=List.eq_nil_of_length_eq_zero h0;rw[List.append_nil,k1,k2,<-hA0];exact e1
    ·refine E4 (cells:=us++vs) (by rw[List.length_append];exact hown) (λb hb'=>.inr ?_) hk (λe he=>(List.mem_append.1 he).elim (hek e) (hek2 e)) ?_
     ·have:=fZ hown hb';exact⟨by omega,this.2,λh=>by have:=hZ b h;omega⟩
     ·rw[List.flatten_append];exact(aL.stay hru hst).app (aL.stay hru2 hst)
theorem Mx{B:Nat->Prop}{F:List Nat}{L:Nat->Option Nat}{c:Nat}:∀{vs:List Value} {rs:List Rs} {fs:List (List Nat)},vs.length=rs.length->fs.length=rs.length->(∀(j:Nat) u r f,vs[j]? =some u->rs[j]? =some r->fs[j]? =some f->Vp w w' B F u r f)->
 (∀b,B b->E.A b)->(∀b,w.heap.size<=b->b<w'.heap.size->E.A b)->lj w' E L c (rs.map λr=>(r.1,r.2.1.map AC.d)) vs
 |[],[],[],_,_,_,_,_=>trivial
 |v::vs,r::rs,f::fs,h1,h2,h3,hB,hN=>by
  refine⟨?_,Mx (Nat.succ.inj h1) (Nat.succ.inj h2) (λj u r f k1 k2 k3=>h3 (j+1) u r f (by simpa using k1) (by simpa using k2) (by simpa using k3)) hB hN⟩;obtain⟨vals,q1,q2⟩:=h3 0 v r f rfl rfl rfl;refine mZ q1 (aD.ofRep ?_);split at q2
  ·exact q2.rep.mono λb hb=>hN b (q2.blocks b hb).1 (q2.blocks b hb).2
  ·exact q2.2.mono λb hb=>hb.elim (hB b) λh=>hN b h.1 h.2.1
 |[],_::_,_,h,_,_,_,_=>by cases h
 |[],[],_::_,_,h,_,_,_=>by cases h
 |_::_,[],_,h,_,_,_,_=>by cases h
 |_::_,_::_,[],_,h,_,_,_=>by cases h
theorem P6{pr:Bool}{kd:HK}{x:AV}(hr:zr P pr h q o kd x q')(hal:cP h H o.op.operands.toList)(hrep:aH w0 N H a w (E.plus m w.heap.size Zp))(hA:∀b,E.A b->b<w.heap.size)(hZ:∀b,Zp b->b<w.heap.size)(hm:m<=w.heap.size):
 o.wp P a w (U8 P m Zp H.lv H.c o a w E kd x) (λ_ _ _=>False):=by
 rcases hr with⟨y,h1,rfl,rfl,-⟩|⟨f,args,ts,ys,res,ho,hmt,har,hdp,-,rfl,rfl,-⟩|⟨t,len,parts,el,k,es,esq,ho,-,ht,hz,hk,hl,hs,hf,-,rfl,rfl,-⟩|⟨t,cs,ho,hz,rfl,rfl,-⟩|⟨y,z,hpu,-,h1,-,rfl,rfl,-⟩|⟨X,Y,t,el,k,by_,c,t2,es,zs,res,ho,-,ht,hz,hzl,hk,hby,hX,hY,hrd,hne,hfl,h63,hbt,rfl,rfl,rfl,-⟩|⟨X,Y,t,el,k,c,t2,k2,ho,-,ht,hX,hY,hrd,rfl,rfl,-⟩|⟨f,args,ts,ys,res,ho,hmt,har,rfl,rfl,-⟩|⟨y,hy,-,rfl,rfl,-⟩
 ·rw[<-eK hal]at h1;refine Oper.wp_mono (λa' w' hp=>?_) (Vq h1 w0 N a w _ hrep);obtain⟨v,E',rfl,hb,hext,hrep',hsl⟩:=hp;refine⟨v,[],rfl,hb,by simp,rfl,?_⟩;refine hsl.stay ⟨λb hbA=>⟨?_,rfl⟩,λi st _ hl=>⟨hl,?_⟩,Nat.le_refl _⟩
  ·have hlt:=hrep'.A_lt b hbA;rcases hext.A' b hbA with h2|h2
   ·exact h2.imp id λh2=>⟨h2.1,hlt,h2.2.2⟩
   ·exact .inr ⟨by omega,hlt,λh=>by have:=hZ b h;omega⟩
  ·have hin:i<H.n:=by
    grind[AS.lv]
   exact((hext.same i hin).1).symm
 ·have hdp':∀r∈res,r.2.2=true:=λr hx=>by grind
  unfold Oper.wp;rw[lU ho hmt.1,Oper.upon_enter];have har':fe H args.toList ys:=um (hal.sub (λy hy=>by rw[ho];simp[Op.operands,Call.operands];grind)) har;refine(hmt.2 w (AM H (E.plus m w.heap.size Zp)) _ (λb hb=>?_) (xo hrep har')).mono ?_
  ·rcases hb with hb|⟨i,hi,_,hb⟩
   ·exact hrep.A_lt b hb
   ·exact hrep.m_lt i hi b hb
  ·rintro e w' ⟨v,rfl,⟨vs,fs,hv,hl1,hl2,hnd,hrr⟩,hb⟩;have hq:bH w' w.heap.size (λ_=>False) vs res fs:=BH hl1 hl2 hrr (.inr hdp');refine⟨v,fs.flatten,rfl,hb,bH.blocks hdp' hq,⟨vs,fs,hv,bH.lo hm hdp' hq,rfl,hnd,hdp'⟩,?_⟩;exact Bb (bH.parts (E:=E.plus m w'.heap.size Zp) (b0:=w.heap.size) (λb h1 h2=>Or.inr ⟨by omega,h2,λh=>by have:=hZ b h;omega⟩) hdp' hq) hv
 ·have hal':=hal;rw[ho,<-zO]at hal';rw[<-qc hal']at hf;have bD:=NJ ho ht hz hk hl hs hf hrep;obtain⟨hl1,hl2⟩:=kO hf;obtain⟨hc1,hc2⟩:=D3 hrep hf;unfold Oper.wp;rw[bD,Oper.upon_value];have hb:Below w.heap.size w (w.alloc (.cells (kg a parts.toList).toArray el)):=(Below.refl _ _).alloc (Nat.le_refl _) _;refine⟨_,[w.heap.size],rfl,hb,by simp,⟨w.heap.size,by rw[hl],rfl,hm,mG.new _ _ _⟩,?_⟩;unfold vq;split
  ·rename_i hem;have:len=0:=by rw[<-hl,<-hl1];grind
   subst this;exact aN ⟨_,rfl⟩
  split
  ·rename_i ds hds;exact aN (IN hk hl hs hf hds hrep hA hZ hm)
  ·trivial
 ·unfold aY at hz;split at hz
  ·rename_i vs hz0;obtain⟨zz,e1,e2⟩:=Da hz0 w
   have bD:(execOp a.eval o).run P w=.ok (.value (.pointer (some ⟨w.heap.size,0,none⟩))) (w.alloc (.cells vs.toArray t)):=by
    simp[execOp,ho,Instr.alloc,e1,newVar,newRow,e2]
   unfold Oper.wp;rw[bD,Oper.upon_value];have hb:Below w.heap.size w (w.alloc (.cells vs.toArray t)):=(Below.refl _ _).alloc (Nat.le_refl _) _;exact⟨_,[w.heap.size],rfl,hb,by simp,⟨w.heap.size,vs,rfl,rfl,hm,mG.new _ _ _,λ_ _ _ _=>EX hz⟩,trivial⟩
  grind
 ·have hal':=hal
  cases hop:o.op with
  |build t parts=>
   rw[<-eK hal,hop]at h1;simp only[oW]at h1;split at h1
   ·rename_i g1;split at h1
    ·rename_i zz g2;split at h1
     ·rename_i cs g3;injection h1 with h1;subst h1;obtain⟨us,b1,b2⟩:=qe (o:=o) g1 g2 g3 hrep;unfold Oper.wp;rw[xt hop b1 w,Oper.upon_value];exact⟨_,[],rfl,Below.refl _ _,by simp,⟨rfl,us,rfl,b1⟩,us,rfl,b2⟩
     grind
    grind
   grind
  |move u=>
   rw[hop]at h1 hal';simp only[oW,hV]at h1;injection h1 with h1;have e:=aP hrep u;rw[hal'.ev (x:=u) (by simp[Op.operands]),h1]at e;unfold Oper.wp;have bD:(execOp a.eval o).run P w=.ok (.value (a.eval u)) w:=by simp[execOp,hop]
   rw[bD,Oper.upon_value]
   exact⟨_,[],rfl,Below.refl _ _,by simp,⟨rfl,rfl⟩,e⟩
  |assign u=>
   rw[hop]at h1 hal';simp only[oW,hV]at h1;injection h1 with h1;have e:=aP hrep u;rw[hal'.ev (x:=u) (by simp[Op.operands]),h1]at e;unfold Oper.wp;have bD:(execOp a.eval o).run P w=.ok (.value (a.eval u)) w:=by simp[execOp,hop]
   rw[bD,Oper.upon_value]
   exact⟨_,[],rfl,Below.refl _ _,by simp,⟨rfl,rfl⟩,e⟩
  |extract u ix=>
   rw[hop]at h1 hal';simp only[oW,hV]at h1;have e:=aP hrep u;rw[hal'.ev (x:=u) (by simp[Op.operands])]at e;unfold Mz at h1;split at h1
   ·rename_i xs hxs;split at h1
    ·rename_i b cs hb;injection h1 with h1;subst h1;rw[hxs]at e;obtain⟨vs,e1,e2,e3⟩:=e;have hlt:ix<vs.length:=by rw[<-e2];grind
     have hg:=List.getElem?_eq_getElem hlt;unfold Oper.wp
     have bD:(execOp a.eval o).run P w=.ok (.value vs[ix]) w:=by
      simp[execOp,hop,e1,Instr.extract,hlt]
     rw[bD,Oper.upon_value];exact⟨_,[],rfl,Below.refl _ _,by simp,⟨rfl,vs,e1,hg⟩,e3 ix b cs _ hb hg⟩
    grind
   grind
  |load t u=>
   obtain⟨i,st,off,ty,cs,e1,e2⟩:=hpu.2 t u hop;rw[hop]at h1 hal';rw[<-eK hal']at h1;simp only[oW,hV]at h1;have eu:H.ev u=.p false [.ptr i st off]:=by rw[hal'.ev (x:=u) (by simp[Op.operands]),e1]
   have eo:H.own? i st=some (.var st ty cs):=by rw[<-e2];unfold AS.own?;rw[hal'.ob,hal'.n]
   obtain⟨hi,hob,hl⟩:=am eo;have ho:=hrep.obj i hi;rw[hob]at ho;obtain⟨g,vals,_,q1,q2,_,_,hB,hcs⟩:=ho;have ev:=aP hrep u;rw[eu]at ev;obtain⟨g',q3,q4⟩:=(aE ev).2 hl;rw[q1]at q3;injection q3 with q3;injection q3 with q3;injection q3 with q3;subst q3;have hlt:g<w.heap.size:=hrep.m_lt i hi g (by rw[q2];simp);rw[eu]at h1;simp only[G7,eo]at h1;obtain⟨v,hv,hs⟩:=OE h1 (hcs.drop off) (sW hB off)
   have bD:(execOp a.eval o).run P w=.ok (.value v) w:=by
    have:=hv w rfl;simp only[execOp,hop,q4];simp[this]
   unfold Oper.wp;rw[bD,Oper.upon_value]
   refine⟨v,[],rfl,Below.refl _ _,by simp,⟨rfl,λw' hw=>by rw[q4];exact hv w' (hw.block g hlt)⟩,hs⟩
  |field t u f=>
   rw[hop]at h1 hal';rw[<-eK hal']at h1;simp only[oW,hV]at h1;obtain⟨v,hv,hs⟩:=Jx h1 (aP hrep u)
   have bD:(execOp a.eval o).run P w=.ok (.value v) w:=by
    simp only[execOp,hop];simp[hv w]
   unfold Oper.wp;rw[bD,Oper.upon_value]
   exact⟨v,[],rfl,Below.refl _ _,by simp,⟨rfl,hv⟩,hs⟩
  |_=>rw[hop]at hpu;cases hpu.1
 ·have hal':=hal;rw[ho]at hal';have eX:H.ev X=h.ev X:=hal'.ev (x:=X) (by simp[Op.operands,Call.operands]);have eY:H.ev Y=h.ev Y:=hal'.ev (x:=Y) (by simp[Op.operands,Call.operands]);rw[<-eX]at hX;rw[<-eY]at hY;have hrd':CP H c (.sl t2 k es):=by have:=wY hal' [c] [.sl t2 k es];simp_all[IA,and_true]
  obtain⟨v',w',bD,hb,hown⟩:=Ia ho ht hz hzl hk hby hX hY hrd' hne hfl h63 hbt hrep;unfold Oper.wp;rw[bD,Oper.upon_value];have hq:bH w' w.heap.size (λ_=>False) [v'] [(false,[.sl el k es],true)] [v'.ownBlock.toList]:=⟨⟨[v'],rfl,hown⟩,trivial⟩;have hd':∀r∈[(false,[DV.sl el k es],true)],r.2.2=true:=by simp
  refine⟨v',v'.ownBlock.toList,rfl,hb,hown.blocks,⟨[v'],[v'.ownBlock.toList],rfl,bH.lo hm hd' hq,by simp,by cases v'.ownBlock<;>simp,hd'⟩,?_⟩;exact Bb (bH.parts (E:=E.plus m w'.heap.size Zp) (b0:=w.heap.size) (λb h1 h2=>Or.inr ⟨by omega,h2,λh=>by have:=hZ b h;omega⟩) hd' hq) rfl
 ·have hal':=hal;rw[ho]at hal';have eX:H.ev X=h.ev X:=hal'.ev (x:=X) (by simp[Op.operands,Call.operands]);have eY:H.ev Y=h.ev Y:=hal'.ev (x:=Y) (by simp[Op.operands,Call.operands]);have hX':=hX;have hY':=hY;rw[<-eX]at hX';rw[<-eY]at hY';have hrd':CP H c (.sl t2 k2 []):=by have:=wY hal' [c] [.sl t2 k2 []];simp_all[IA,and_true]
  have bD:=D8 (P:=P) ho ht hX' hY' hrd' hrep;unfold Oper.wp;rw[bD,Oper.upon_value];have e:=aP hrep X;rw[eX]at e;exact⟨_,[],rfl,Below.refl _ _,by simp,⟨rfl,by rw[ho];exact⟨X,Y,rfl,rfl⟩⟩,e⟩
 ·unfold Oper.wp;rw[lU ho hmt.1,Oper.upon_enter];have har':fW H args.toList ys:=rH (hal.sub (λy hy=>by rw[ho];simp[Op.operands,Call.operands];grind)) har;refine(hmt.2 w (E.plus m w.heap.size Zp).A _ (λb hb=>hrep.A_lt b hb) (nx hrep har')).mono ?_;rintro e w' ⟨v,rfl,⟨vs,fs,hv,hl1,hl2,hnd,hrr⟩,hb⟩;refine⟨v,[],rfl,hb,by simp,rfl,Bb (Mx hl1 hl2 hrr (λb hb'=>?_) λb h1 h2=>.inr ⟨by omega,h2,λh=>by have:=hZ b h;omega⟩) hv⟩;have hs:=hb.size;exact hb'.imp id λh=>⟨h.1,by omega,h.2.2⟩
 ·exact PF (G4 hal hy) hrep hA hZ hm
end
end Go.Proofs.YtliknccmjjncbaaGreat
namespace Go.Proofs.YtliknccmjjncbaaGreat
open Go.RowKit
def Y4:Option Bool->AV
 |some b=>.p false [.d (.sc (.bool b))]
 |none=>.tup []
def Lp(P:Program)(N:Nat)(pr:Bool)(ops:Array Oper)(h q:AS)(o:Oper)(kd:HK)(x:AV)(q':AS):Option (Nat×Bool)->Prop
 |none=>zr P pr h q o kd x q'
 |some (g,want)=>∃t b,kb ops g=some t/\t<N/\h.sl t=Y4 b/\if b=some want then zr P pr h q o kd x q' else(kd=.v (.tup [])/\x=.tup []/\q'=q.put o.dst (jy pr (.tup [])))
def ju(P:Program)(N:Nat)(pr:Bool)(ops:Array Oper):List Oper->AS->AS->List HK->List AV->AS->Prop
 |[],h,q,[],[],q'=>q'=q
 |o::r,h,q,kd::kds,x::xs,q'=>(∃d,o.dst=some d/\d<N)/\∃q1,Lp P N pr ops h q o kd x q1 o.guard/\ju P N pr ops r (h.put o.dst x) q1 kds xs q'
 |_,_,_,_,_,_=>False
def yG(s:AS):List Oper->List AV->AS
 |o::l,x::xs=>yG (s.put o.dst x) l xs
 |_,_=>s
def dA(l:List Oper):List Nat:=l.filterMap (·.dst)
def df(q:AS)(ds:List Nat):AS:={q with sl:=λt=>if ds.contains t then .und else q.sl t}
section
variable {P:Program}{w0:Cx}{w w':World}{N m:Nat}{s h H q q':AS}{a:Act}{E:En}{o:Oper}{pr:Bool}{ops:Array Oper}
theorem AW:∀{l:List Oper} {xs:List AV} {s:AS},(yG s l xs).ob=s.ob/\(yG s l xs).n=s.n/\(yG s l xs).c=s.c
 |[],xs,s=>by cases xs<;>exact⟨rfl,rfl,rfl⟩
 |o::l,[],s=>⟨rfl,rfl,rfl⟩
 |o::l,x::xs,s=>by
  obtain⟨h1,h2,h3⟩:=AW (l:=l) (xs:=xs) (s:=s.put o.dst x);exact⟨h1.trans (AS.put_ob ..),h2.trans (AS.put_n ..),h3.trans (AS.put_c ..)⟩
theorem CZ{d:Option Nat}{x:AV}{t:Nat}(h:d≠some t):(s.put d x).sl t=s.sl t:=by
 cases d with
 |none=>rfl
 |some d=>exact aJ _ _ (λe=>h (by rw[e]))
theorem zI:∀{l:List Oper} {xs:List AV} {s:AS} {t:Nat},(∀o∈l,o.dst≠some t)->(yG s l xs).sl t=s.sl t
 |[],xs,s,t,_=>by cases xs<;>rfl
 |o::l,[],s,t,_=>rfl
 |o::l,x::xs,s,t,h=>by
  rw[yG,zI λo ho=>h o (List.mem_cons_of_mem _ ho)]
  grind[CZ,List.mem_cons_self]
theorem Iv:∀{l:List Oper} {xs:List AV} {s:AS} {t j:Nat} {o:Oper} {x:AV},(dA l).Nodup->l[j]? =some o->xs[j]? =some x->o.dst=some t->(yG s l xs).sl t=x
 |[],xs,s,t,j,o,x,_,h,_,_=>by grind
 |o'::l,[],s,t,j,o,x,_,_,h,_=>by grind
 |o'::l,x'::xs,s,t,j,o,x,hnd,h1,h2,h3=>by
  rw[yG]
  have hnd':(dA l).Nodup:=by
   grind[dA,List.nodup_cons]
  cases j with
  |zero=>
   simp at h1 h2;subst h1 h2;rw[zI]
   ·rw[h3];exact af _ _ _
   grind[dA,List.nodup_cons]
  |succ j=>exact Iv hnd' (by simpa using h1) (by assumption) h3
theorem oQ:∀{l:List Oper} {h q q':AS} {kds:List HK} {xs:List AV},ju P N pr ops l h q kds xs q'->∀(i:Nat) o,l[i]? =some o->∃kd x qi qi',kds[i]? =some kd/\xs[i]? =some x/\(∃d,o.dst=some d/\d<N)/\Lp P N pr ops (yG h (l.take i) xs) qi o kd x qi' o.guard
 |[],h,q,q',kds,xs,_,i,o,ho=>by grind
 |o'::l,h,q,q',[],xs,hh,i,o,ho=>hh.elim
 |o'::l,h,q,q',kd::kds,[],hh,i,o,ho=>hh.elim
 |o'::l,h,q,q',kd::kds,x::xs,hh,i,o,ho=>by
  obtain⟨hd,q1,h1,h2⟩:=hh
  cases i with
  |zero=>simp at ho;subst ho;exact⟨kd,x,q,q1,rfl,rfl,hd,h1⟩
  |succ i=>
   obtain⟨kd',x',qi,qi',k1,k2,k3,k4⟩:=oQ h2 i o (by assumption)
   grind[yG]
def H7(P:Program)(m:Nat)(Zp:Nat->Prop)(E:En)(L:Nat->Option Nat)(c:Nat)(a:Act)(w:World):List Oper->List HK->List AV->List (List Nat)->Prop
 |[],[],[],[]=>True
 |o::l,kd::kds,x::xs,f::fs=>(∀d,o.dst=some d->Fn P m E L c a w (a.tmps.getD d undef) f kd/\bi w (E.plus m w.heap.size Zp) L c x (a.tmps.getD d undef))/\H7 P m Zp E L c a w l kds xs fs
 |_,_,_,_=>False
def Mh(ops:Array Oper):List Oper->Prop
 |[]=>True
 |o::r=>(∀t∈o.looksAt ops,t∉dA (o::r))/\Mh ops r
theorem wX{ds:List Nat}{x:Ob}:(df q ds).push x=df (q.push x) ds:=rfl
theorem Bn{ds:List Nat}:∀{l:List Ob} {q:AS},(df q ds).pushL l=df (q.pushL l) ds
 |[],q=>rfl
 |x::l,q=>by rw[AS.pushL,AS.pushL,wX,Bn]
theorem GN(h:aH w0 N s a w E){sl':Nat->AV}(hs:∀t,bi w E s.lv s.c (sl' t) (a.tmps.getD t undef)):aH w0 N {s with sl:=sl'} a w E:=
 ⟨h.size,h.defers,h.bel,h.obj,hs,h.A_lt,h.A_m,h.A_o,h.mm,h.oo,h.m_lt,h.anc,h.mF,h.oF⟩
theorem Hm{L L':Nat->Option Nat}{c c':Nat}{E1 E2:En}{x:AC}{u:Value}(h:dw w E1 L c x u)(hs:ct x=true)(hL:∀i st,st<c->L' i=some st->L i=some st/\E2.v i=E1.v i)(hc:c<=c'):dw w E2 L' c' x u:=by
 cases x with
 |d y=>
  cases y with
  |sc v=>obtain⟨rfl,hv⟩:=aL.scOf h;exact aL.sc hv .nil
  |sl=>grind[ct]
 |nil=>exact h
 |own i st=>exact⟨Nat.lt_of_lt_of_le h.1 hc,λhl=>by obtain⟨h1,h2⟩:=hL i st h.1 hl;rw[h2];exact h.2 h1⟩
 |ptr i st off=>exact⟨Nat.lt_of_lt_of_le h.1 hc,λhl=>by obtain⟨h1,h2⟩:=hL i st h.1 hl;rw[h2];exact h.2 h1⟩
 |elt i st kk j off=>exact⟨Nat.lt_of_lt_of_le h.1 hc,λhl=>by obtain⟨h1,h2⟩:=hL i st h.1 hl;rw[h2];exact h.2 h1⟩
 |sub i st kk lo n=>exact⟨Nat.lt_of_lt_of_le h.1 hc,λhl=>by obtain⟨h1,h2⟩:=hL i st h.1 hl;rw[h2];exact h.2 h1⟩
 |emp=>exact h
 |rd=>grind[ct]
 |fn=>grind[ct]
 |lit=>grind[ct]
theorem MV{L L':Nat->Option Nat}{c c':Nat}{E2:En}{x:AV}{v:Value}(h:bi w E L c x v)(hL:∀i st,st<c->L' i=some st->L i=some st/\E2.v i=E.v i)(hc:c<=c')(hpr:pr=true->∀b,E.A b->E2.A b):bi w E2 L' c' (jy pr x) v:=by
 unfold jy;split
 ·rename_i hp;exact h.stay ⟨λb hb=>⟨hpr hp b hb,rfl⟩,hL,hc⟩
 ·split
  ·rename_i b cs;split
   ·rename_i hall;obtain⟨vals,h1,h2⟩:=gU (show cM w E L c b cs v from h);exact mZ h1 ⟨h2.1,λj x u hx hu=>Hm (h2.2 j x u hx hu) (List.all_eq_true.1 hall x (List.mem_of_getElem? hx)) hL hc⟩
   ·trivial
  ·trivial
theorem FV:∀{ds:List DV} {c b0:Nat} {vals:List Value} {f:List Nat},kf false ds c=[]->aR w b0 vals ds f->f=[]
 |[],c,b0,vals,f,_,h=>by cases h;rfl
 |.sc v::ds,c,b0,vals,f,h,ho=>by cases ho with|sc _ ho=>exact FV (show kf false ds c=[]from h) ho
 |.sl t k es::ds,c,b0,vals,f,h,_=>by grind[kf]
theorem Dr{A:Nat->Prop}{b0:Nat}:∀{rs:List Rs} {vs:List Value} {fs:List (List Nat)} {c:Nat},(∀r∈rs,r.2.2=true)->b7 false rs c=[]->bH w b0 A vs rs fs->fs.flatten=[]
 |[],[],[],_,_,_,_=>rfl
 |(b,ds,dp)::rs,v::vs,f::fs,c,hd,h,hq=>by
  have hdp:dp=true:=hd _ (List.mem_cons_self ..);subst hdp;simp only[b7,List.append_eq_nil_iff]at h;obtain⟨vals,_,h2⟩:=hq.1;have h2:aR w b0 vals ds f:=h2
  rw[List.flatten_cons,FV h.1 h2,Dr (λr hr=>hd r (List.mem_cons_of_mem _ hr)) h.2 hq.2];rfl
 |[],_::_,_,_,_,_,h=>by cases h
 |[],[],_::_,_,_,_,h=>by cases h
 |_::_,[],_,_,_,_,h=>by cases h
 |_::_,_::_,[],_,_,_,h=>by cases h
theorem qn{ds:List Nat}{d:Nat}{x:AV}(hd:d∉ds)(h:aH w0 N (df q (d::ds)) a w E)(hx:bi w E q.lv q.c x (a.tmps.getD d undef)):aH w0 N (df (q.put (some d) x) ds) a w E:=by
 have:=GN h (sl':=λt=>if ds.contains t then .und else(q.put (some d) x).sl t) (λt=>?_)
 ·exact this
 ·split
  ·trivial
  ·rename_i ht;by_cases e:t=d
   ·subst e;simp only[AS.put,af];exact hx
   ·simp only[AS.put,aJ _ _ e];have:=h.slot t;simp_all[df,if_neg,List.contains_cons]
theorem fT{s0:AS}{Zp:Nat->Prop}(hw:w0.heap.size<=m):∀{l:List Oper} {h q q':AS} {kds:List HK} {xs:List AV} {fs:List (List Nat)} {Eq:En},ju P N pr ops l h q kds xs q'->(dA l).Nodup->Mh ops l->H7 P m Zp E s0.lv s0.c a w l kds xs fs->
 aH w0 N (df q (dA l)) a w Eq->(∀i st,st<s0.c->q.lv i=some st->s0.lv i=some st/\Eq.v i=E.v i)->s0.c<=q.c->(pr=true->∀b,(E.plus m w.heap.size Zp).A b->Eq.A b)->
 fs.flatten.Nodup->(∀x∈kds.zip fs,(pr=true/\∀t cs,x.1≠.a t cs)\/∀b∈x.2,¬Eq.A b)->(∀b∈fs.flatten,b<w.heap.size/\∀j,j<q.n->b∉Eq.m j/\b∉Eq.o j)->∃E',aH w0 N q' a w E'
 |[],h,q,q',kds,xs,fs,Eq,hh,_,_,_,hr,_,_,_,_,_,_=>by
  cases kds with
  |cons=>exact hh.elim
  |nil=>cases xs with
   |cons=>exact hh.elim
   |nil=>
    obtain rfl:q'=q:=hh;refine⟨Eq,?_⟩;have:df q' (dA [])=q':=by rfl
    rw[this]at hr;exact hr
 |o::l,h,q,q',[],xs,fs,Eq,hh,_,_,_,_,_,_,_,_,_,_=>hh.elim
 |o::l,h,q,q',kd::kds,[],fs,Eq,hh,_,_,_,_,_,_,_,_,_,_=>hh.elim
 |o::l,h,q,q',kd::kds,x::xs,[],Eq,hh,_,_,hfa,_,_,_,_,_,_,_=>hfa.elim
 |o::l,h,q,q',kd::kds,x::xs,f::fs,Eq,hh,hnd,hnf,hfa,hr,hL,hc,hpr,hfd,hfA,hff=>by
  obtain⟨⟨d,hd,hdN⟩,q1,hst,hh⟩:=hh;obtain⟨hfact,hfa⟩:=hfa;obtain⟨hfk,hsl⟩:=hfact d hd;have hds:dA (o::l)=d::dA l:=by grind[dA]
  rw[hds]at hnd hr;have hdl:=(List.nodup_cons.1 hnd).1;have hnd':=(List.nodup_cons.1 hnd).2;rw[List.flatten_cons]at hfd hff;have hfA':=hfA (kd,f) (by simp);have hfB:∀x∈kds.zip fs,(pr=true/\∀t cs,x.1≠.a t cs)\/∀b∈x.2,¬Eq.A b:=λx hx=>hfA x (by rw[List.zip_cons_cons];exact List.mem_cons_of_mem _ hx)
  clear hfA;have zf:∀{x:HK×List Nat},x∈kds.zip fs->∀b∈x.2,b∈fs.flatten:=λhx b hb=>List.mem_flatten.2 ⟨_,(List.of_mem_zip hx).2,hb⟩
  have hfd':=List.nodup_append.1 hfd
  have caseV:∀y,bi w (E.plus m w.heap.size Zp) s0.lv s0.c y (a.tmps.getD d undef)->q1=q.put o.dst (jy pr y)->∃E',aH w0 N q' a w E':=by
   intro y hy e;subst e;rw[hd]at hh;have hsl:=MV (pr:=pr) (E2:=Eq) (L':=q.lv) (c':=q.c) hy (λi st h1 h2=>hL i st h1 h2) hc hpr;refine fT hw hh hnd' hnf.2 hfa (qn hdl hr hsl) (by rw[AS.put_lv];exact hL) (by rw[AS.put_c];exact hc) hpr hfd'.2.1 hfB (λb hb=>by rw[AS.put_n];simp_all)
  have caseC:∀res:List Rs,res.all (·.2.2)=true->(pr=true->b7 false res 0=[])->kd=.c res->q1=(q.pushL (b7 false res q.c)).put o.dst (k8 res q.n q.c)->∃E',aH w0 N q' a w E':=by
   intro res hdp hpo hkd e;subst hkd;subst e;rw[hd]at hh;have hdp':∀r∈res,r.2.2=true:=λr hx=>by grind
   obtain⟨vs,gs,hv,hq,rfl,hgn,_⟩:=hfk
   have hgA:∀b∈gs.flatten,¬Eq.A b:=by
    rcases hfA' with hp|h
    ·rw[Dr hdp' (hpo hp.1) hq];simp
    ·exact h
   obtain⟨E2,k1,k2,k3⟩:=JV (b0:=m) hw res hr (λ_ h=>h.elim) hq hgn (λb hb=>⟨hgA b hb,(hff b (List.mem_append_left _ hb)).2⟩);have hc':(df q (d::dA l)).c=q.c:=rfl;have hn':(df q (d::dA l)).n=q.n:=rfl;rw[hc',hn']at k2;rw[hc']at k1 k3;rw[Bn]at k1 k2 k3;rw[hn']at k3;obtain⟨p1,p2,p3,p4⟩:=i8 (b7 false res q.c) q
   have hlvn:∀i st,st<q.c->(q.pushL (b7 false res q.c)).lv i=some st->q.lv i=some st/\i<q.n:=by
    intro i st hst hl;unfold AS.lv at hl;split at hl
    ·rename_i hi;by_cases hiq:i<q.n
     ·rw[p4 i hiq]at hl;unfold AS.lv;rw[if_pos hiq];exact⟨hl,hiq⟩
     ·obtain⟨st',h1,h2⟩:=xV _ q i (by omega) hi (vx false res q.c);rw[hl]at h1;injection h1 with h1;omega
    ·cases hl
   refine fT hw hh hnd' hnf.2 hfa (qn hdl k1 (Bi k2 hv)) ?_ (by rw[AS.put_c,p2];omega) (λhp b hb=>k3.A b (hpr hp b hb)) hfd'.2.1 ?_ ?_
   ·intro i st hst hl;rw[AS.put_lv]at hl;obtain⟨h1,h2⟩:=hlvn i st (by omega) hl;obtain⟨h3,h4⟩:=hL i st hst h1;exact⟨h3,((k3.same i h2).1).trans h4⟩
   ·intro x hx;refine(hfB x hx).imp id λhA b hb hbA=>?_
    have:=zf hx b hb;rcases k3.A' b hbA with h1|h1
    ·exact hA b hb h1
    grind
   ·intro b hb;obtain⟨g1,g2⟩:=hff b (List.mem_append_right _ hb);refine⟨g1,λj hj=>?_⟩;rw[AS.put_n]at hj;have hbg:b∉gs.flatten:=λhbg=>hfd'.2.2 b hbg b hb rfl
    by_cases hjq:j<q.n
    ·obtain⟨_,e2,e3⟩:=k3.same j hjq;rw[e2,e3];grind
    ·exact⟨λhm=>hbg (k3.new j (by omega) hj b (.inl hm)),λhm=>hbg (k3.new j (by omega) hj b (.inr hm))⟩
  have caseR:zr P pr h q o kd x q1->∃E',aH w0 N q' a w E':=by
   rintro(⟨y,_,rfl,rfl,e⟩|⟨fn,args,ts,ys,res,ho,hmt,_,hdp,hpo,rfl,rfl,e⟩|⟨t,len,parts,el,k,es,esq,ho,hp0,ht,hz,hk,hl,hs,_,hfq,rfl,rfl,e⟩|⟨t,cs,ho,hz,rfl,rfl,e⟩|⟨y,z,hpu,hp0,_,hz,rfl,rfl,e⟩|⟨X,Y,t,el,k,by_,c,t2,es,zs,res,ho,hp0,ht,hz,hzl,hk,hby,hX,hY,hrd,hne,hfl,h63,hbt,hres,rfl,rfl,e⟩|⟨X,Y,t,el,k,c,t2,k2,ho,hp0,ht,hX,hY,hrd,rfl,rfl,e⟩|⟨_,_,_,_,_,ho,_,_,rfl,rfl,e⟩|⟨y,_,_,rfl,rfl,e⟩)
   ·grind
   ·grind
   ·subst e;rw[hd]at hh;obtain⟨g,hv,rfl,hmg,hB⟩:=hfk;obtain⟨hg1,hg2⟩:=hff g (by simp);have hgA:¬Eq.A g:=hfA'.elim (λhp=>by rw[hp.1]at hp0;cases hp0) λh=>h g (by simp)
    have hal:cP q (df q (d::dA l)) (parts.toList.map (·.2)):=by
     refine⟨rfl,rfl,λt' ht'=>?_⟩
     have h1:t'∈o.looksAt ops:=by
      unfold Oper.looksAt
      grind[zO]
     have h2:=hnf.1 t' h1;rw[hds]at h2;simp_all[df,if_neg]
    rw[<-qc hal]at hfq;obtain⟨c1,c2⟩:=D3 hr hfq;obtain⟨hl1,hl2⟩:=kO hfq
    have hpush:=hr.pushOb (X:=.arr q.c el k esq) (v':=.slice (some ⟨g,0,none⟩) parts.toList.length parts.toList.length) (m':=[g]) (o':=[]) rfl (Below.refl _ _)
     (λb hb=>by simp at hb;subst hb;exact⟨hg1,hgA,λj hj=>(hg2 j hj).1⟩) (by simp) (by simp) (by
      rintro E' rfl hstay
      have hmx:esq.length<=maxLen:=by
       have:len*1<=len*k:=Nat.mul_le_mul_left _ hk;rw[hl1,hl];unfold maxLen;omega
      refine⟨g,kg a parts.toList,by exact Nat.lt_succ_self _,?_,?_,?_,Nat.zero_le _,hmx,hB,hk,hl2,c1.stay hstay⟩
      ·grind[upd,af]
      ·grind[upd,af]
      grind[upd,af]) (λb hb=>by simp at hb;subst hb;exact w0.hfr _ (Nat.le_trans hw hmg))
    rw[wX]at hpush;have hqn:(df q (d::dA l)).n=q.n:=rfl;rw[hqn]at hpush;refine fT hw hh hnd' hnf.2 hfa (qn hdl hpush ?_) ?_ (by rw[AS.put_c];grind[AS.push]) (λhp b hb=>.inl (hpr hp b hb)) hfd'.2.1 ?_ ?_
    ·refine aN ⟨by simp[AS.push],λ_=>?_⟩
     grind[af]
    ·intro i st hst hl;rw[AS.put_lv]at hl;unfold AS.lv AS.push at hl;by_cases e:i=q.n
     ·grind[af,Ob.st]
     ·simp only[aJ _ _ e]at hl ⊢
      grind[AS.lv]
    ·exact λx hx=>(hfB x hx).imp id λh b hb hA=>h b hb (by simpa using hA)
    grind[List.mem_append_right,AS.put_n,af,aJ,AS.push]
   ·subst e;rw[hd]at hh;obtain⟨g,vals,hv,rfl,hmg,hB,hcs⟩:=hfk;obtain⟨hg1,hg2⟩:=hff g (by simp);have hgA:¬Eq.A g:=hfA'.elim (λhp=>absurd rfl (hp.2 t cs)) λh=>h g (by simp)
    have hpush:=hr.pushOb (X:=.var q.c t cs) (v':=.pointer (some ⟨g,0,none⟩)) (m':=[g]) (o':=[]) rfl (Below.refl _ _)
     (λb hb=>by simp at hb;subst hb;exact⟨hg1,hgA,λj hj=>(hg2 j hj).1⟩) (by simp) (by simp) (by
      rintro E' rfl hstay;refine⟨g,vals,by exact Nat.lt_succ_self _,?_,?_,?_,Nat.zero_le _,hB,hcs _ _ _ _⟩
      ·grind[upd,af]
      ·grind[upd,af]
      grind[upd,af]) (λb hb=>by simp at hb;subst hb;exact w0.hfr _ (Nat.le_trans hw hmg))
    rw[wX]at hpush;have hqn:(df q (d::dA l)).n=q.n:=rfl;rw[hqn]at hpush;refine fT hw hh hnd' hnf.2 hfa (qn hdl hpush ?_) ?_ (by rw[AS.put_c];grind[AS.push]) (λhp b hb=>.inl (hpr hp b hb)) hfd'.2.1 ?_ ?_
    ·refine aN ⟨by simp[AS.push],λ_=>?_⟩
     grind[af]
    ·intro i st hst hl;rw[AS.put_lv]at hl;unfold AS.lv AS.push at hl;by_cases e:i=q.n
     ·grind[af,Ob.st]
     ·simp only[aJ _ _ e]at hl ⊢
      grind[AS.lv]
    ·exact λx hx=>(hfB x hx).imp id λh b hb hA=>h b hb (by simpa using hA)
    grind[List.mem_append_right,AS.put_n,af,aJ,AS.push]
   ·subst e;rw[hd]at hh;obtain⟨rfl,hpv⟩:=hfk
    have hev:∀u,u∈o.op.operands.toList->bi w Eq q.lv q.c (q.ev u) (a.eval u):=by
     intro u hu
     have hal:cP q (df q (d::dA l)) [u]:=by
      refine⟨rfl,rfl,λt' ht'=>?_⟩;have ht':Operand.tmp t'=u:=by grind
      have h1:t'∈o.looksAt ops:=by
       unfold Oper.looksAt
       grind
      have h2:=hnf.1 t' h1;rw[hds]at h2;simp_all[df,if_neg]
     have e:=aP hr u;rw[hal.ev (List.mem_cons_self ..)]at e;exact e
    have hsz:bi w Eq q.lv q.c z (a.tmps.getD d undef):=by
     cases hop:o.op with
     |build t parts=>
      have hal:cP q (df q (d::dA l)) o.op.operands.toList:=by
       refine⟨rfl,rfl,λt' ht'=>?_⟩
       have h1:t'∈o.looksAt ops:=by
        unfold Oper.looksAt
        grind
       have h2:=hnf.1 t' h1;rw[hds]at h2;simp_all[df,if_neg]
      rw[<-eK hal]at hz;rw[hop]at hz hpv;obtain⟨us,u1,u2⟩:=hpv;simp only[oW]at hz;split at hz
      ·rename_i g1;split at hz
       ·rename_i zz g2;split at hz
        ·rename_i cs g3;injection hz with hz;subst hz;obtain⟨us',b1,b2⟩:=qe (o:=o) g1 g2 g3 hr;rw[u2]at b1;injection b1 with b1;have b1:us=us':=by grind
         subst b1;rw[u1];exact⟨us,rfl,b2⟩
        grind
       grind
      grind
     |move u=>
      rw[hop]at hz hpv hev;simp only[oW,hV]at hz;injection hz with hz;have hpv:a.tmps.getD d undef=a.eval u:=hpv;rw[hpv,<-hz]
      exact hev u (by simp[Op.operands])
     |assign u=>
      rw[hop]at hz hpv hev;simp only[oW,hV]at hz;injection hz with hz;have hpv:a.tmps.getD d undef=a.eval u:=hpv;rw[hpv,<-hz]
      exact hev u (by simp[Op.operands])
     |extract u ix=>
      rw[hop]at hz hpv hev;simp only[oW,hV]at hz;have e:=hev u (by simp[Op.operands]);obtain⟨vs,e1,e2⟩:=(show∃vs:List Value,a.eval u=.tuple vs.toArray/\vs[ix]? =some (a.tmps.getD d undef)from hpv);unfold Mz at hz;split at hz
      ·rename_i xs' hxs;split at hz
       ·rename_i b cs hb;injection hz with hz;subst hz;rw[hxs]at e;obtain⟨vs',f1,f2,f3⟩:=e;rw[e1]at f1;injection f1 with f1;have f1:vs=vs':=by grind
        subst f1;exact f3 ix b cs _ hb e2
       grind
      grind
     |load t u=>
      have hal:cP q (df q (d::dA l)) o.op.operands.toList:=by
       refine⟨rfl,rfl,λt' ht'=>?_⟩
       have h1:t'∈o.looksAt ops:=by
        unfold Oper.looksAt
        grind
       have h2:=hnf.1 t' h1;rw[hds]at h2;simp_all[df,if_neg]
      rw[<-eK hal]at hz;obtain⟨v,r1,r2⟩:=E7 hz _ _ _ _ _ hr;rw[hop]at hpv;have hpv:∀w',Below w.heap.size w w'->(Instr.loadAt t (a.eval u)).run P w'=.ok (a.tmps.getD d undef) w':=hpv;have r3:=hpv w (Below.refl _ _)
      have:v=a.tmps.getD d undef:=by
       simp only[execOp,hop]at r1;simp_all
      rw[<-this];exact r2
     |field t u f=>
      have hal:cP q (df q (d::dA l)) o.op.operands.toList:=by
       refine⟨rfl,rfl,λt' ht'=>?_⟩
       have h1:t'∈o.looksAt ops:=by
        unfold Oper.looksAt
        grind
       have h2:=hnf.1 t' h1;rw[hds]at h2;simp_all[df,if_neg]
      rw[<-eK hal]at hz;obtain⟨v,r1,r2⟩:=E7 hz _ _ _ _ _ hr;rw[hop]at hpv;have hpv:∀w',(Instr.field t (a.eval u) f).run P w'=.ok (a.tmps.getD d undef) w':=hpv;have r3:=hpv w
      have:v=a.tmps.getD d undef:=by
       simp only[execOp,hop]at r1;simp_all
      rw[<-this];exact r2
     |_=>rw[hop]at hpu;cases hpu.1
    refine fT hw hh hnd' hnf.2 hfa (qn hdl hr hsz) (by rw[AS.put_lv];exact hL) (by rw[AS.put_c];exact hc) hpr hfd'.2.1 hfB (λb hb=>by rw[AS.put_n];grind)
   ·grind
   ·subst e;rw[hd]at hh;obtain⟨rfl,hpv⟩:=hfk;rw[ho]at hpv;obtain⟨X',Y',hXY,hva⟩:=hpv;have hXX:X'=X:=by grind
    subst hXX
    have hsz:bi w Eq q.lv q.c (q.ev X') (a.tmps.getD d undef):=by
     have hal:cP q (df q (d::dA l)) [X']:=by
      refine⟨rfl,rfl,λt' ht'=>?_⟩;have ht':Operand.tmp t'=X':=by grind
      have h1:t'∈o.looksAt ops:=by
       unfold Oper.looksAt;exact List.mem_append_left _ (List.mem_filterMap.2 ⟨.tmp t',by rw[ho,ht'];simp[Op.operands,Call.operands],rfl⟩)
      have h2:=hnf.1 t' h1;rw[hds]at h2;simp_all[df,if_neg]
     have e:=aP hr X';rw[hal.ev (List.mem_cons_self ..)]at e;rw[hva];exact e
    refine fT hw hh hnd' hnf.2 hfa (qn hdl hr hsz) (by rw[AS.put_lv];exact hL) (by rw[AS.put_c];exact hc) hpr hfd'.2.1 hfB (λb hb=>by rw[AS.put_n];grind)
   ·grind
   ·grind
  cases hgd:o.guard with
  |none=>rw[hgd]at hst;exact caseR hst
  |some gw=>
   rw[hgd]at hst;obtain⟨t,b,_,_,_,hb⟩:=hst
   grind
end
end Go.Proofs.YtliknccmjjncbaaGreat
namespace Go.Proofs.YtliknccmjjncbaaGreat
open Go.RowKit
section
variable {P:Program}{w0:Cx}{ws w w':World}{N m n:Nat}{s h H q q' qF:AS}{a:Act}{E:En}{o:Oper}{pr:Bool}{l:List Oper}{kds:List HK}{xs:List AV}{Q:Exit->AS->Prop}
def TK(l:List Oper)(n:Nat)(listed:Array Bool):List Nat:=(List.range n).filterMap λj=>if listed.getD j false then(l[j]?).bind (·.dst)else none
theorem kE{listed:Array Bool}{t:Nat}:t∈TK l n listed↔∃j o,j<n/\listed.getD j false=true/\l[j]? =some o/\o.dst=some t:=by
 grind[TK]
def Zi:Op->Bool
 |.call ⟨.value _,_,_⟩=>false
 |.call ⟨.builtin .append,_,_⟩=>false
 |.alloc _=>false
 |.buildSlice _ _ _=>false
 |_=>true
def Yc(l:List Oper)(n:Nat):Prop:=∀o∈l.take n,Zi o.op=true
theorem Hs{pr:Bool}{h q q':AS}{kd:HK}{x:AV}(hr:zr P pr h q o kd x q')(hp:Zi o.op=true):∃y,oW P h o.op=some y:=by
 have hb:∀y,oW P h o.op=some y->oW P h o.op=some y:=λ_ h=>h
 rcases hr with⟨y,h1,_⟩|⟨f,args,ts,ys,res,ho,_⟩|⟨t,len,parts,el,k,es,esq,ho,_⟩|⟨t,cs,ho,_⟩|⟨y,z,_,_,h1,_⟩|⟨_,_,_,_,_,_,_,_,_,_,_,ho,_⟩|⟨_,_,_,_,_,_,_,_,ho,_⟩|⟨_,_,_,_,_,ho,_⟩|⟨_,⟨_,_,_,_,_,_,_,ho,_⟩|⟨_,_,_,_,_,_,_,_,_,_,_,ho,_⟩,_⟩
 ·grind
 ·rw[ho]at hp;cases hp
 ·rw[ho]at hp;cases hp
 ·rw[ho]at hp;cases hp
 ·grind
 ·rw[ho]at hp;cases hp
 ·rw[ho]at hp;cases hp
 ·rw[ho]at hp;cases hp
 ·rw[ho]at hp;cases hp
 ·rw[ho]at hp;cases hp
def FQ(n:Nat)(kds:List HK)(listed:Array Bool)(fs:Nat->List Nat):Nat->Prop:=λb=>∃j t cs,j<n/\listed.getD j false=true/\kds[j]? =some (.a t cs)/\b∈fs j
theorem IM{kds:List HK}{listed:Array Bool}{fs:Nat->List Nat}{i:Nat}{f:List Nat}{kd:HK}(hi:i<n)(hs:i<listed.size)(hl:listed.getD i false=false)(hk:kds[i]? =some kd):FQ n kds (listed.setIfInBounds i true) (λj=>if j=i then f else fs j)=xk (FQ n kds listed fs) f kd:=by
 funext b;have hj:∀j,j≠i->(listed.setIfInBounds i true).getD j false=listed.getD j false:=λj hj=>getD_set_ne false (Ne.symm hj)
 have e1:∀j t cs,(j<n/\listed.getD j false=true/\kds[j]? =some (.a t cs)/\b∈fs j)->j≠i:=by grind
 apply propext;constructor
 ·rintro⟨j,t,cs,h1,h2,h3,h4⟩;by_cases e:j=i
  ·subst e;rw[hk]at h3;cases h3;simp only[if_pos]at h4;exact .inr h4
  ·simp only[if_neg e]at h4;rw[hj j e]at h2;have:FQ n kds listed fs b:=⟨j,t,cs,h1,h2,h3,h4⟩;cases kd<;>first|exact this|exact .inl this
 ·intro h
  have old:FQ n kds listed fs b->FQ n kds (listed.setIfInBounds i true) (λj=>if j=i then f else fs j) b:=by
   rintro⟨j,t,cs,h1,h2,h3,h4⟩;have e:=e1 j t cs ⟨h1,h2,h3,h4⟩;exact⟨j,t,cs,h1,by rw[hj j e];exact h2,h3,by simp only[if_neg e];exact h4⟩
  cases kd with
  |a t cs=>exact h.elim old λh=>⟨i,t,cs,hi,by simp[hs],hk,by simp only[if_pos];exact h⟩
  |_=>exact old h
structure MG(P:Program)(w0:Cx)(ws:World)(N m n:Nat)(s:AS)(E:En)(l:List Oper)(kds:List HK)(xs:List AV)(listed:Array Bool)(a:Act)(w:World)(fs:Nat->List Nat):Prop where
 rep:aH w0 N (df s (TK l n listed)) a w E
 le:m<=w.heap.size
 fact:∀j o d kd x,j<n->listed.getD j false=true->l[j]? =some o->o.dst=some d->kds[j]? =some kd->xs[j]? =some x->Fn P m E s.lv s.c a w (a.tmps.getD d undef) (fs j) kd/\bi w (E.plus m w.heap.size (FQ n kds listed fs)) s.lv s.c x (a.tmps.getD d undef)
 blk:∀j,j<n->listed.getD j false=true->∀b∈fs j,m<=b/\b<w.heap.size
 dis:∀i j,i<n->j<n->listed.getD i false=true->listed.getD j false=true->i≠j->∀b∈fs i,b∉fs j
 bl:Yc l n->w.heap=ws.heap
theorem Mr{Zp:Nat->Prop}(h:aH w0 N s a w E)(hw:w0.heap.size<=m)(hm:∀i,i<s.n->∀b∈E.m i,b<m):aH w0 N s a w (E.plus m w.heap.size Zp):=by
 have hst:ft w E s.lv s.c w (E.plus m w.heap.size Zp) s.lv s.c:=⟨λb hb=>⟨.inl hb,rfl⟩,λi st _ h=>⟨h,rfl⟩,Nat.le_refl _⟩;refine⟨h.size,h.defers,h.bel,λi hi=>(h.obj i hi).stay hst rfl rfl rfl (λ_ _=>rfl) (λb hb=>h.A_o i hi b hb),λt=>(h.slot t).stay hst,λb hb=>?_,λb hb i hi hbm=>?_,λi hi b hb=>.inl (h.A_o i hi b hb),h.mm,h.oo,h.m_lt,λb hb=>?_,h.mF,h.oF⟩
 ·rcases hb with hb|hb
  ·exact h.A_lt b hb
  omega
 ·rcases hb with hb|hb
  ·exact h.A_m b hb i hi hbm
  ·have:=hm i hi b hbm;omega
 ·rcases hb with hb|hb
  ·exact h.anc b hb
  ·exact .inr (w0.hfr b (Nat.le_trans hw hb.1))
theorem HY:∀{ls:List (List Nat)},(∀f∈ls,f.Nodup)->ls.Pairwise (λx y=>∀b∈x,b∉y)->ls.flatten.Nodup
 |[],_,_=>by simp
 |f::ls,h1,h2=>by
  rw[List.flatten_cons];rw[List.pairwise_cons]at h2
  grind[List.nodup_append,List.mem_cons_self,List.mem_cons_of_mem,List.mem_flatten]
theorem GU{L:Nat->Option Nat}{c:Nat}{v:Value}{f:List Nat}{kd:HK}(h:Fn P m E L c a w v f kd):f.Nodup:=by
 cases kd with
 |v x=>obtain rfl:f=[]:=h;grind
 |c res=>obtain⟨vs,fs,_,_,rfl,hn,_⟩:=h;exact hn
 |b el k parts=>obtain⟨g,_,rfl,_⟩:=h;simp
 |a t cs=>obtain⟨g,_,_,rfl,_⟩:=h;simp
 |p op=>obtain⟨rfl,_⟩:=h;grind
theorem gk{d t:Nat}{v:Value}(h:t≠d):(a.put (some d) v).tmps.getD t undef=a.tmps.getD t undef:=by
 simp[Act.put,Array.getElem?_setIfInBounds_ne (Ne.symm h)]
theorem MY{d:Nat}{v:Value}(h:d<a.tmps.size):(a.put (some d) v).tmps.getD d undef=v:=by
 simp[Act.put,h]
theorem cS{d:Nat}{v:Value}{x:Operand}(h:x≠.tmp d):(a.put (some d) v).eval x=a.eval x:=by
 cases x with
 |tmp t=>exact gk (λe=>h (by rw[e]))
 |_=>rfl
theorem MO{d:Nat}{v:Value}{parts:List (Nat×Operand)}(h:∀x∈parts,x.2≠.tmp d):kg (a.put (some d) v) parts=kg a parts:=by
 grind[kg,List.map_congr_left,cS]
def NO:HK->List Operand
 |.b _ _ parts=>parts.map (·.2)
 |.p op=>op.operands.toList
 |_=>[]
theorem FS{pr:Bool}{h q q':AS}{o:Oper}{kd:HK}{x:AV}(hr:zr P pr h q o kd x q'):∀y∈NO kd,y∈o.op.operands.toList:=by
 intro y hy;rcases hr with⟨_,_,rfl,_⟩|⟨_,_,_,_,_,_,_,_,_,_,rfl,_⟩|⟨t,len,parts,el,k,es,esq,ho,_,_,_,_,_,_,_,_,rfl,_⟩|⟨_,_,_,_,rfl,_⟩|⟨_,_,_,_,_,_,rfl,_⟩|⟨_,_,_,_,_,_,_,_,_,_,_,_,_,_,_,_,_,_,_,_,_,_,_,_,_,_,rfl,_⟩|⟨_,_,_,_,_,_,_,_,_,_,_,_,_,_,rfl,_⟩|⟨_,_,_,_,_,_,_,_,rfl,_⟩|⟨_,_,_,rfl,_⟩
 ·cases hy
 ·cases hy
 ·rw[ho,<-zO];exact hy
 ·cases hy
 ·exact hy
 ·cases hy
 ·exact hy
 ·cases hy
 ·cases hy
theorem Fw{ops:Array Oper}(h:aH w0 N s a w E){g t:Nat}{b:Option Bool}(hg:kb ops g=some t)(hs:s.sl t=Y4 b)(ht:t<N):yielded ops a.tmps g=b:=by
 cases b with
 |some b=>exact rW h hg hs ht
 |none=>
  have:=h.slot t;rw[hs]at this;obtain⟨vs,h1,h2,-⟩:=this;obtain rfl:vs=[]:=List.length_eq_zero_iff.1 h2.symm;unfold yielded;unfold kb at hg;rw[hg];have hz:t<a.tmps.size:=by rw[h.size];exact ht
  simp_all
theorem FM{pr:Bool}{ops:Array Oper}{h q q':AS}{o:Oper}{kd:HK}{x:AV}(hst:Lp P N pr ops h q o kd x q' o.guard):∀y∈NO kd,y∈o.op.operands.toList:=by
 cases hgd:o.guard with
 |none=>rw[hgd]at hst;exact FS hst
 |some gw=>
  rw[hgd]at hst;obtain⟨t,b,_,_,_,hbb⟩:=hst;split at hbb
  ·exact FS hbb
  ·intro y hy;rw[hbb.1]at hy;cases hy
theorem Lk{w2:World}(h:Below w.heap.size w w')(k:Below w'.heap.size w' w2):Below w.heap.size w w2:=
 ⟨k.os.trans h.os,k.tape.trans h.tape,k.output.trans h.output,Nat.le_trans h.size k.size,λb hb=>(k.block b (Nat.lt_of_lt_of_le hb h.size)).trans (h.block b hb)⟩
theorem KC{d:Nat}{u v:Value}{op:Op}(h:JJ P w a v op)(hb:Below w.heap.size w w')(hp:∀x∈op.operands.toList,x≠.tmp d):JJ P w' (a.put (some d) u) v op:=by
 cases op with
 |load t x=>
  intro w2 h2;rw[cS (hp x (by simp[Op.operands]))]
  exact h w2 (Lk hb h2)
 |build t parts=>
  obtain⟨us,e1,e2⟩:=h;refine⟨us,e1,?_⟩;rw[<-e2];congr 2;refine Array.map_congr_left λx hx=>?_
  rw[cS (hp x.2 (by simp only[Op.operands,Array.toList_map,List.mem_map];grind))]
 |field t x f=>
  intro w2;rw[cS (hp x (by simp[Op.operands]))]
  exact h w2
 |move x=>show v=_;rw[cS (hp x (by simp[Op.operands]))];exact h
 |assign x=>show v=_;rw[cS (hp x (by simp[Op.operands]))];exact h
 |extract x ix=>obtain⟨vs,e1,e2⟩:=h;exact⟨vs,by rw[cS (hp x (by simp[Op.operands]))];exact e1,e2⟩
 |call c=>
  obtain⟨callee,args,ts⟩:=c;unfold JJ at h ⊢;split at h
  ·grind
  ·grind
  ·grind
  ·grind
  ·grind
  ·grind
  ·rename_i heq;injection heq with heq;injection heq with e1 e2 e3;subst e1 e2 e3;obtain⟨X,Y,rfl,e⟩:=h;exact⟨X,Y,rfl,by rw[cS (hp X (by simp[Op.operands,Call.operands]))];exact e⟩
  assumption
 |_=>cases h
theorem Du{L:Nat->Option Nat}{c:Nat}{v u:Value}{f:List Nat}{kd:HK}{d:Nat}(h:Fn P m E L c a w v f kd)(hb:Below w.heap.size w w')(hp:∀x∈NO kd,x≠.tmp d):Fn P m E L c (a.put (some d) u) w' v f kd:=by
 cases kd with
 |v x=>exact h
 |c res=>obtain⟨vs,fs,h1,h2,h3,h4,h5⟩:=h;exact⟨vs,fs,h1,bH.keep (λb hbb=>hb.block b hbb) h5 h2,h3,h4,h5⟩
 |b el k parts=>obtain⟨g,h1,h2,h3,h4⟩:=h;exact⟨g,h1,h2,h3,by rw[MO (λx hx=>hp x.2 (List.mem_map.2 ⟨x,hx,rfl⟩))];exact h4.keep hb⟩
 |a t cs=>obtain⟨g,vals,h1,h2,h3,h4,h5⟩:=h;exact⟨g,vals,h1,h2,h3,h4.keep hb,h5⟩
 |p op=>exact⟨h.1,KC h.2 hb hp⟩
def Y5(o1 o2:Oper):Bool:=match o1.op,o1.dst,o2.op,o2.dst with
 |.extract (.tmp u) _,some d,.extract (.tmp u') _,some d'=>o1.guard.isNone&&(o2.guard.isNone&&decide (u≠d'/\u'≠d/\d≠d'))
 |_,_,_,_=>false
def xI(ops:Array Oper):Nat->Nat->Array Bool->Bool
 |0,_,listed=>(Region.ready .any ops listed).isEmpty
 |1,k,listed=>decide (Region.ready .any ops listed=[k])&&xI ops 0 (k+1) (listed.setIfInBounds k true)
 |g+2,k,listed=>(decide (Region.ready .any ops listed=[k])&&xI ops (g+1) (k+1) (listed.setIfInBounds k true))||
  (decide (Region.ready .any ops listed=[k,k+1])&&(decide (Region.ready .any ops (listed.setIfInBounds k true)=[k+1])&&(decide (Region.ready .any ops (listed.setIfInBounds (k+1) true)=[k])&&
  ((match ops[k]?,ops[k+1]? with|some o1,some o2=>Y5 o1 o2|_,_=>false)&&xI ops g (k+2) ((listed.setIfInBounds k true).setIfInBounds (k+1) true)))))
theorem DQ{ops:Array Oper}:∀{g k:Nat} {listed:Array Bool},Region.seqB .any ops g k listed=true->xI ops g k listed=true
 |0,_,_,h=>h
 |1,k,listed,h=>by
  simp only[Region.seqB,Bool.and_eq_true]at h
  simp only[xI,Bool.and_eq_true];exact h
 |g+2,k,listed,h=>by
  rw[Region.seqB,Bool.and_eq_true]at h;rw[xI,Bool.or_eq_true,Bool.and_eq_true];exact .inl ⟨h.1,DQ h.2⟩
theorem Nb{u ix:Nat}(ho:o.op=.extract (.tmp u) ix){K:Act->World->Prop}{Q:Exit->Act->World->Prop}(h:o.wp P a w K Q\/(o.asks P a w/\LetsOut Q)):∃v,(Instr.extract (a.tmps.getD u undef) ix).run P w=.ok v w/\K (a.put o.dst v) w:=by
 have e:execOp a.eval o=(Instr.extract (a.tmps.getD u undef) ix>>=λv=>pure (.value v)):=by simp only[execOp,ho];rfl
 rcases h with h|⟨h,-⟩
 ·unfold Oper.wp at h;rw[e]at h;unfold Instr.extract at h ⊢;split at h
  ·split at h
   ·rename_i v hv;simp[hv];exact h
   ·exact h.elim
  ·exact h.elim
 ·unfold Oper.asks at h;rw[e]at h;unfold Instr.extract at h;have h:=h.1;split at h
  ·split at h<;>(change noRoomEvent∈(#[]:Array _)at h;simp at h)
  ·change noRoomEvent∈(#[]:Array _)at h;simp at h
theorem Jd{u ix:Nat}{v:Value}(ho:o.op=.extract (.tmp u) ix){K:Act->World->Prop}{Q:Exit->Act->World->Prop}(hv:(Instr.extract (a.tmps.getD u undef) ix).run P w=.ok v w)(hK:K (a.put o.dst v) w):o.wp P a w K Q:=by
 have e:(execOp a.eval o).run P w=.ok (.value v) w:=by
  have e:execOp a.eval o=(Instr.extract (a.tmps.getD u undef) ix>>=λv=>pure (.value v)):=by simp only[execOp,ho];rfl
  rw[e,Sem.run_bind,hv];rfl
 unfold Oper.wp;rw[e,Oper.upon_value];exact hK
theorem Lv{d d':Nat}{v v':Value}(h:d≠d'):(a.put (some d) v).put (some d') v'=(a.put (some d') v').put (some d) v:=by
 simp only[Act.put];rw[Array.setIfInBounds_comm _ _ h]
theorem lm{ops:Array Oper}{Q':Exit->Act->World->Prop}:∀(l:List Oper) (k:Nat) (listed:Array Bool) (a:Act) (w:World),(∀j,l[j]? =ops[k+j]?)->
 xI ops l.length k listed=true->wpList P ops Q' l a w->wpAny P .any ops Q' l.length listed a w
 |[],_,_,_,_,_,hB,h=>⟨by simpa[xI]using hB,h⟩
 |[o],k,listed,a,w,hl,hB,h=>by
  have h0:ops[k]? =some o:=by simpa using(hl 0).symm
  simp only[List.length_cons,List.length_nil,Nat.zero_add,xI,Bool.and_eq_true,decide_eq_true_eq]at hB;refine⟨λh1=>(by rw[hB.1]at h1;cases h1),λi hi=>?_⟩;rw[hB.1]at hi;obtain rfl:i=k:=by simpa using hi
  have hw:wpOp P ops Q' i (wpList P ops Q' []) a w:=by unfold wpOp;simp only[h0];exact h
  exact wpOp_mono (λa' w' h'=>⟨by simpa using hB.2,h'⟩) hw
 |o::o2::l,k,listed,a,w,hl,hB,h=>by
  have h0:ops[k]? =some o:=by simpa using(hl 0).symm
  have h02:ops[k+1]? =some o2:=by simpa using(hl 1).symm
  have step:∀(listed:Array Bool) (a:Act) (w:World),xI ops (l.length+1) (k+1) listed=true->wpList P ops Q' (o2::l) a w->wpAny P .any ops Q' (l.length+1) listed a w:=λlisted a w h1 h2=>
   lm (o2::l) (k+1) listed a w (λj=>by have:=hl (j+1);simpa[Nat.add_assoc,Nat.add_comm 1 j]using this) h1 h2
  simp only[List.length_cons,xI,Bool.or_eq_true,Bool.and_eq_true,decide_eq_true_eq]at hB;have hw:wpOp P ops Q' k (wpList P ops Q' (o2::l)) a w:=by unfold wpOp;simp only[h0];exact h
  rcases hB with⟨hr,hB⟩|⟨hr,hr1,hr2,hx,hB⟩
  ·refine⟨λh1=>(by rw[hr]at h1;cases h1),λi hi=>?_⟩;rw[hr]at hi;obtain rfl:i=k:=by simpa using hi
   exact wpOp_mono (λa' w' h'=>step _ a' w' hB h') hw
  ·rw[h0,h02]at hx;simp only at hx
   have rest:∀(a:Act) (w:World),wpList P ops Q' l a w->wpAny P .any ops Q' l.length ((listed.setIfInBounds k true).setIfInBounds (k+1) true) a w:=λa w h2=>
    lm l (k+2) _ a w (λj=>by have:=hl (j+2);simpa[Nat.add_assoc,Nat.add_comm 2 j]using this) hB h2
   unfold Y5 at hx;split at hx
   ·rename_i u ix d u' ix' d' e1 e2 e3 e4;simp only[Bool.and_eq_true,Option.isNone_iff_eq_none,decide_eq_true_eq]at hx;obtain⟨g1,g2,n1,n2,n3⟩:=hx;have wt1:∀(y:Nat->Option Bool),Region.wanted o y=true:=λy=>by simp[Region.wanted,g1]
    have wt2:∀(y:Nat->Option Bool),Region.wanted o2 y=true:=λy=>by simp[Region.wanted,g2]
    unfold wpList at h;rw[if_pos (wt1 _)]at h;obtain⟨v1,q1,h⟩:=Nb e1 h;unfold wpList at h;rw[if_pos (wt2 _)]at h;obtain⟨v2,q2,h⟩:=Nb e3 h;rw[e2,gk n2]at q2;rw[e2,e4]at h;refine⟨λh1=>(by rw[hr]at h1;cases h1),λi hi=>?_⟩;rw[hr]at hi;have hi:i=k\/i=k+1:=by simpa using hi
    rcases hi with rfl|rfl
    ·unfold wpOp;simp only[h0];rw[if_pos (wt1 _)];refine .inl (Jd e1 q1 ⟨λh1=>(by rw[hr1]at h1;cases h1),λj hj=>?_⟩);rw[hr1]at hj;obtain rfl:j=i+1:=by simpa using hj
     unfold wpOp;simp only[h02];rw[if_pos (wt2 _)];refine .inl (Jd e3 (v:=v2) (by rw[e2,gk n2];exact q2) ?_);rw[e2,e4];exact rest _ _ h
    ·unfold wpOp;simp only[h02];rw[if_pos (wt2 _)];refine .inl (Jd e3 q2 ⟨λh1=>(by rw[hr2]at h1;cases h1),λj hj=>?_⟩);rw[hr2]at hj;obtain rfl:j=k:=by simpa using hj
     unfold wpOp;simp only[h0];rw[if_pos (wt1 _)];refine .inl (Jd e1 (v:=v1) (by rw[e4,gk n1];exact q1) ?_);rw[e2,e4,Lv (Ne.symm n3),Array.setIfInBounds_comm _ _ (by omega)];exact rest _ _ h
   ·cases hx
def DW(ops:Array Oper)(n:Nat):Bool:=(List.range ops.size).all λt=>decide (t<=n)||(Region.waitsFor .any ops t (t-1)||(decide (n+2<=t)&&Region.waitsFor .any ops t (t-2)))
theorem KZ{ops:Array Oper}(h:Region.chainB .any ops n=true):DW ops n=true:=by
 refine List.all_eq_true.2 λt ht=>?_
 have:=List.all_eq_true.1 h t ht;rw[Bool.or_eq_true]at this ⊢;exact this.imp id λh=>by rw[h];rfl
theorem FF{ops:Array Oper}{listed:Array Bool}(hs:Region.sinkB .any ops n=true)(hc:DW ops n=true)(hn:n<ops.size)(inv:HeadInv .any ops n listed):
 ∀(d i:Nat),n-i=d->i<n->listed.getD i true=false->∀t,n<=t->t∉Region.ready .any ops listed:=by
 intro d
 induction d using Nat.strongRecOn with
 |_ d ih=>
  intro i hd hi hun t ht hr;obtain⟨_,ot,hot,hall⟩:=mem_ready.1 hr;have htlt:t<ops.size:=(Array.getElem?_eq_some_iff.1 hot).1;by_cases htn:t=n
  ·subst htn;have h1:=List.all_eq_true.1 hs i (List.mem_range.2 hi);obtain⟨j,hj,hj2⟩:=List.any_eq_true.1 h1;simp only[Bool.and_eq_true,decide_eq_true_eq]at hj2;obtain⟨oj,hoj,e,he,hb,hon⟩:=Region.waitsFor_spec hj2.2;have hjle:j<=t:=by have:=List.mem_range.1 hj;omega
   by_cases hjt:j=t
   ·subst hjt;have:oj=ot:=Option.some.inj (hoj.symm.trans hot);subst this;have h2:=hall e he hb;rw[hon,getD_both hun]at h2;cases h2
   ·cases hl:listed.getD j false with
    |true=>
     have h2:=inv.closed j oj hoj hl e he hb;rw[hon,getD_both hun]at h2
     cases h2
    |false=>
     have hjs:j<listed.size:=by rw[inv.size];omega
     exact ih (t-j) (by omega) j rfl (by omega) (getD_in hjs hl) t (Nat.le_refl _) hr
  ·have no:∀p,n<=p->p<ops.size->Region.waitsFor .any ops t p=true->False:=by
    intro p hp hps h1;obtain⟨o',ho',e,he,hb,hon⟩:=Region.waitsFor_spec h1;have:o'=ot:=Option.some.inj (ho'.symm.trans hot);subst this;have h2:=hall e he hb;rw[hon,getD_both (inv.tail p hp hps)]at h2;cases h2
   have h1:=List.all_eq_true.1 hc t (List.mem_range.2 htlt);simp only[Bool.or_eq_true,Bool.and_eq_true,decide_eq_true_eq]at h1;rcases h1 with h1|h1|h1
   ·omega
   ·exact no _ (by omega) (by omega) h1
   ·exact no _ (by omega) (by omega) h1.2
def Fu(l:List Oper)(n:Nat):Bool:=
 Region.noSelect l.toArray&&(decide (n<=l.length)&&((decide (n=l.length)||(decide (n<l.length)&&(Region.sinkB .any l.toArray n&&DW l.toArray n)))&&
 ((List.range n).all λi=>((l[i]?).map λoi=>(oi.after.all λe=>!Region.binds .any e||decide (e.on<i))&&
  ((List.range n).all λj=>((l[j]?).map λoj=>match oj.dst with|some d=>!(oi.looksAt l.toArray).contains d||Region.waitsFor .any l.toArray i j|none=>true).getD true)).getD true)))
theorem zJ(h:HH .any l n=true):Fu l n=true:=by
 unfold HH at h;unfold Fu;simp only[Bool.and_eq_true,Bool.or_eq_true]at h ⊢;obtain⟨h1,h2,h3,h4,h5⟩:=h;exact⟨h1,h2,h3.imp id λh=>⟨h.1,h.2.1,KZ h.2.2⟩,h5⟩
theorem na(h:Fu l n=true):Region.noSelect l.toArray=true/\n<=l.length/\(n=l.length\/(n<l.length/\Region.sinkB .any l.toArray n=true/\DW l.toArray n=true))/\
 ∀i oi,i<n->l[i]? =some oi->(∀e∈oi.after,Region.binds .any e=true->e.on<i)/\∀j oj,j<n->l[j]? =some oj->∀d,oj.dst=some d->d∈oi.looksAt l.toArray->Region.waitsFor .any l.toArray i j=true:=by
 simp only[Fu,Bool.and_eq_true,Bool.or_eq_true,decide_eq_true_eq]at h;obtain⟨h1,h2,h3,h5⟩:=h;refine⟨h1,h2,h3,λi oi hi hoi=>?_⟩;have h6:=List.all_eq_true.1 h5 i (List.mem_range.2 hi);rw[hoi]at h6;simp only[Option.map_some,Option.getD_some,Bool.and_eq_true]at h6;refine⟨λe he hb=>?_,λj oj hj hoj d hd hmem=>?_⟩
 ·have:=Array.all_eq_true_iff_forall_mem.1 h6.1 e he
  grind
 grind
def Ca(l:List Oper)(n:Nat):Bool:=HH .any l n&&decide ((dA (l.take n)).Nodup)
def C4(l:List Oper)(n:Nat):Bool:=Fu l n&&(xI l.toArray (l.length-n) n (cH n (l.length-n))&&decide ((dA (l.take n)).Nodup))
theorem ml(hB:Fu l n=true){i j:Nat}{oi oj:Oper}{t:Nat}(hi:i<n)(hoi:l[i]? =some oi)(hj:j<n)(hoj:l[j]? =some oj)(hd:oj.dst=some t)(ht:t∈oi.looksAt l.toArray):j<i/\Region.waitsFor .any l.toArray i j=true:=by
 obtain⟨_,_,_,h5⟩:=na hB;obtain⟨h6,h7⟩:=h5 i oi hi hoi;have hw:=h7 j oj hj hoj t hd ht;obtain⟨oi',hoi',e,he,hb,hon⟩:=Region.waitsFor_spec hw;have:oi'=oi:=Option.some.inj (hoi'.symm.trans (by grind))
 grind
theorem OY(hB:HH .any l n=true){i j:Nat}{oi oj:Oper}{t:Nat}(hi:i<n)(hoi:l[i]? =some oi)(hj:j<n)(hoj:l[j]? =some oj)(hd:oj.dst=some t)(ht:t∈oi.looksAt l.toArray):j<i/\Region.waitsFor .any l.toArray i j=true:=ml (zJ hB) hi hoi hj hoj hd ht
theorem F0:∀{l:List Oper} {ops:Array Oper},(∀(i j:Nat) oi oj t,l[i]? =some oi->l[j]? =some oj->oj.dst=some t->t∈oi.looksAt ops->j<i)->Mh ops l
 |[],_,_=>trivial
 |o::l,ops,h=>by
  refine⟨λt ht hm=>?_,F0 λi j oi oj t h1 h2 h3 h4=>?_⟩
  ·unfold dA at hm;obtain⟨oj,hoj,hd⟩:=List.mem_filterMap.1 hm;obtain⟨j,hj,rfl⟩:=List.mem_iff_getElem.1 hoj;have:=h 0 j o _ t rfl (List.getElem?_eq_getElem hj) hd ht;omega
  ·have:=h (i+1) (j+1) oi oj t (by assumption) (by assumption) h3 h4;omega
theorem Dz{Zp:Nat->Prop}{L:Nat->Option Nat}{c:Nat}:∀{l:List Oper} {kds:List HK} {xs:List AV} {fs:List (List Nat)},kds.length=l.length->xs.length=l.length->fs.length=l.length->
 (∀(j:Nat) o d kd x f,l[j]? =some o->o.dst=some d->kds[j]? =some kd->xs[j]? =some x->fs[j]? =some f->Fn P m E L c a w (a.tmps.getD d undef) f kd/\bi w (E.plus m w.heap.size Zp) L c x (a.tmps.getD d undef))->H7 P m Zp E L c a w l kds xs fs
 |[],[],[],[],_,_,_,_=>trivial
 |o::l,kd::kds,x::xs,f::fs,h1,h2,h3,h=>by
  refine⟨λd hd=>h 0 o d kd x f rfl hd rfl rfl rfl,Dz (by grind) (by grind) (by grind) λj o d kd x f a1 a2 a3 a4 a5=>h (j+1) o d kd x f (by assumption) a2 (by assumption) (by assumption) (by assumption)⟩
 |[],_::_,_,_,h1,_,_,_=>by grind
 |[],_,_::_,_,_,h2,_,_=>by grind
 |[],_,_,_::_,_,_,h3,_=>by grind
 |_::_,[],_,_,h1,_,_,_=>by grind
 |_::_,_,[],_,_,h2,_,_=>by grind
 |_::_,_,_,[],_,_,h3,_=>by grind
theorem p9:∀{l:List Oper} {ops:Array Oper} {h q q':AS} {kds:List HK} {xs:List AV},ju P N pr ops l h q kds xs q'->kds.length=l.length/\xs.length=l.length
 |[],_,_,_,_,[],[],_=>⟨rfl,rfl⟩
 |o::l,_,_,_,_,kd::kds,x::xs,h=>by obtain⟨_,q1,_,h⟩:=h;obtain⟨h1,h2⟩:=p9 h;grind
 |[],_,_,_,_,_::_,_,h=>h.elim
 |[],_,_,_,_,[],_::_,h=>h.elim
 |_::_,_,_,_,_,[],_,h=>h.elim
 |_::_,_,_,_,_,_::_,[],h=>h.elim
theorem J7{d1:List Nat}(h:aH w0 N (df s d1) a w E){d2:List Nat}(hs:∀t∈d1,t∈d2):aH w0 N (df s d2) a w E:=by
 refine h.weaken (s':=df s d2) (Nat.le_refl _) (Nat.le_refl _) (λ_ _=>.inl rfl) (λt=>?_)
 grind[df]
def fI(P:Program)(md:Region.Mode)(ops:Array Oper)(Q:Exit->Act->World->Prop)(J:Array Bool->Act->World->Prop):Nat->Array Bool->Act->World->Prop
 |0,listed,a,w=>J listed a w/\Region.ready md ops listed=[]/\Q .normal a w
 |fuel+1,listed,a,w=>J listed a w/\(Region.ready md ops listed=[]->Q .normal a w)/\∀i∈Region.ready md ops listed,wpOp P ops Q i (λa' w'=>fI P md ops Q J fuel (listed.setIfInBounds i true) a' w') a w
theorem Az{md:Region.Mode}{ops:Array Oper}{Q:Exit->Act->World->Prop}{J:Array Bool->Act->World->Prop}:∀(fuel:Nat) (listed:Array Bool) (a:Act) (w:World),fI P md ops Q J fuel listed a w->wpAny P md ops Q fuel listed a w
 |0,_,_,_,h=>h.2
 |fuel+1,_,_,_,h=>⟨h.2.1,λi hi=>wpOp_mono (λa' w' h'=>Az fuel _ a' w' h') (h.2.2 i hi)⟩
theorem Bp{md:Region.Mode}{ops:Array Oper}{Q:Exit->Act->World->Prop}{J:Array Bool->Act->World->Prop}(hJt:∀(listed:Array Bool) a w,(∀j,j<n->listed.getD j false=true)->J listed a w):
 ∀(fuel:Nat) (listed:Array Bool) (a:Act) (w:World),(∀j,j<n->listed.getD j false=true)->wpAny P md ops Q fuel listed a w->fI P md ops Q J fuel listed a w
 |0,_,_,_,hl,h=>⟨hJt _ _ _ hl,h⟩
 |fuel+1,listed,_,_,hl,h=>⟨hJt _ _ _ hl,h.1,λi hi=>wpOp_mono (λa' w' h'=>Bp hJt fuel _ a' w' (λj hj=>by
  by_cases e:i=j
  ·subst e
   have hlt:i<listed.size:=by
    grind
   simp[hlt]
  simp_all) h') (h.2 i hi)⟩
theorem Bt(hB:Fu l n=true)(hseq:xI l.toArray (l.length-n) n (cH n (l.length-n))=true)(hnd:(dA (l.take n)).Nodup)(hh:ju P N pr l.toArray (l.take n) s s kds xs qF)(hw:w0.heap.size<=m)(hEm:∀i,i<s.n->∀b∈E.m i,b<m)(hEA:∀b,E.A b->b<m)
 (htail:lu P N l.toArray (l.drop n) Q qF) {J:Array Bool->Act->World->Prop} (hJt:∀(listed:Array Bool) a w,(∀j,j<n->listed.getD j false=true)->J listed a w)
 (a:Act) (w:World) (fs:Nat->List Nat) (hI:MG P w0 ws N m n s E l kds xs (cH n (l.length-n)) a w fs):fI P .any l.toArray (AQ w0 N Q) J (l.length-n) (cH n (l.length-n)) a w:=by
 obtain⟨hsel,hnl,hsink,hdep⟩:=na hB;obtain⟨hkl,hxl⟩:=p9 hh;have htl:(l.take n).length=n:=by rw[List.length_take];omega
 rw[htl]at hkl hxl
 have hall:∀j,j<n->(cH n (l.length-n)).getD j false=true:=by
  simp_all[cH,Array.getElem?_append]
 rw[show fI P .any l.toArray (AQ w0 N Q) J (l.length-n)=fI P .any l.toArray (AQ w0 N Q) J (l.drop n).length from by simp];refine Bp hJt _ _ _ _ (by assumption) (lm (l.drop n) n _ _ w (λj=>by grind) (by grind) ?_)
 have hrep:aH w0 N (df s (dA (l.take n))) a w E:=by
  refine J7 hI.rep λt ht=>?_
  obtain⟨j,o,hj,_,ho,hd⟩:=kE.1 ht;exact List.mem_filterMap.2 ⟨o,List.mem_of_getElem? (i:=j) (by rw[List.getElem?_take,if_pos hj];exact ho),hd⟩
 have hfl:∀b,b∈((List.range n).map fs).flatten↔∃j,j<n/\b∈fs j:=by
  grind
 have hfin:=fT (E:=E) (a:=a) (w:=w) (s0:=s) (fs:=(List.range n).map fs) (Zp:=FQ n kds (cH n (l.length-n)) fs) (Eq:=if pr then E.plus m w.heap.size (FQ n kds (cH n (l.length-n)) fs)else E) hw hh hnd ?_ ?_ ?_ ?_ (Nat.le_refl _) ?_ ?_ ?_ ?_
 ·obtain⟨E',hr'⟩:=hfin;exact htail w0 a w E' hr'
 ·grind[F0,ml]
 ·refine Dz (by rw[hkl,htl]) (by rw[hxl,htl]) (by grind) λj o d kd x f h1 h2 h3 h4 h5=>?_
  rw[List.getElem?_take]at h1;split at h1
  ·rename_i hj;have:f=fs j:=by grind
   subst this;exact hI.fact j o d kd x hj (hall j hj) h1 h2 h3 h4
  grind
 ·cases pr with
  |true=>exact Mr hrep hw hEm
  |false=>grind
 ·intro i st _ hl;refine⟨hl,?_⟩;cases pr<;>rfl
 ·grind
 ·refine HY (λf hf=>?_) ?_
  ·obtain⟨j,hj,rfl⟩:=List.mem_map.1 hf;have hj:=List.mem_range.1 hj;obtain⟨kd,x,_,_,h1,h2,⟨d,hd,_⟩,_⟩:=oQ hh j l[j] (by rw[List.getElem?_take,if_pos hj];grind);exact GU (hI.fact j _ d kd x hj (hall j hj) (List.getElem?_eq_getElem (by omega)) hd h1 h2).1
  ·rw[List.pairwise_map]
   have hpw:(List.range n).Pairwise (· ≠ ·):=List.nodup_range
   refine List.Pairwise.imp_of_mem (fun{i j} hi hj hne=>?_) hpw;intro b hb1 hb2;exact hI.dis i j (List.mem_range.1 hi) (List.mem_range.1 hj) (hall i (List.mem_range.1 hi)) (hall j (List.mem_range.1 hj)) hne b hb1 hb2
 ·intro x hx;obtain⟨j,hj,e⟩:=List.mem_iff_getElem.1 hx;have hjn:j<n:=by rw[List.length_zip,List.length_map,List.length_range]at hj;omega
  have ek:kds[j]? =some x.1:=by rw[<-e];simp[List.getElem_zip]
  have ef:x.2=fs j:=by rw[<-e];simp[List.getElem_zip]
  rw[ef];have hb:∀b∈fs j,¬E.A b:=λb hb hA=>by have h1:=hI.blk j hjn (hall j hjn) b hb;have h2:=hEA b hA;omega
  cases pr with
  |false=>exact .inr hb
  |true=>
   by_cases ha:∃t cs,x.1=.a t cs
   ·obtain⟨t,cs,ha⟩:=ha;exact .inr λb hbj hA=>hA.elim (hb b hbj) λh=>h.2.2 ⟨j,t,cs,hjn,hall j hjn,by rw[ek,ha],hbj⟩
   ·exact .inl ⟨rfl,λt cs h=>ha ⟨t,cs,h⟩⟩
 ·intro b hb;obtain⟨j,hj,hbj⟩:=(hfl b).1 hb;have h1:=hI.blk j hj (hall j hj) b hbj;refine⟨h1.2,λi hi=>⟨λhm=>?_,λhm=>?_⟩⟩
  ·have:b∈E.m i:=by cases pr<;>exact hm
   have:=hEm i hi b this;omega
  ·have:b∈E.o i:=by cases pr<;>exact hm
   have:=hEA b (hI.rep.A_o i hi b this);omega
theorem yh(hB:Fu l n=true)(hnd:(dA (l.take n)).Nodup)(hh:ju P N pr l.toArray (l.take n) s s kds xs qF)(hw:w0.heap.size<=m)(hEm:∀i,i<s.n->∀b∈E.m i,b<m)(hEA:∀b,E.A b->b<m)
 {J:Array Bool->Act->World->Prop} (hJ:∀listed a w fs,HeadInv .any l.toArray n listed->MG P w0 ws N m n s E l kds xs listed a w fs->J listed a w)
 (htail:∀a w fs,MG P w0 ws N m n s E l kds xs (cH n (l.length-n)) a w fs->fI P .any l.toArray (AQ w0 N Q) J (l.length-n) (cH n (l.length-n)) a w):
 ∀(f:Nat) (listed:Array Bool) (a:Act) (w:World) (fs:Nat->List Nat),RY n listed=f->HeadInv .any l.toArray n listed->MG P w0 ws N m n s E l kds xs listed a w fs->fI P .any l.toArray (AQ w0 N Q) J (f+(l.length-n)) listed a w:=by
 obtain⟨hsel,hnl,hsink,hdep⟩:=na hB;obtain⟨hkl,hxl⟩:=p9 hh;have htl:(l.take n).length=n:=by rw[List.length_take];omega
 rw[htl]at hkl hxl;intro f
 induction f with
 |zero=>
  grind[G1]
 |succ f ih=>
  intro listed a w fs hu inv hI
  have hex:∃i,i<n/\listed.getD i false=false:=by
   apply Classical.byContradiction
   grind[List.range,List.filter_eq_nil_iff,RY]
  have hsz:listed.size=l.length:=by rw[inv.size];simp
  obtain⟨i0,hi0,hun0⟩:=hex
  have hready:Region.ready .any l.toArray listed≠[]:=by
   have:∀k i,i<=k->i<n->listed.getD i false=false->∃j,j∈Region.ready .any l.toArray listed:=by
    intro k
    induction k with
    |zero=>
     intro i hik hin hun;obtain rfl:i=0:=by omega
     have hlt:0<l.length:=by omega
     refine⟨0,mem_ready.2 ⟨getD_in (by omega) hun,l[0],by grind,λe he hb=>?_⟩⟩;have:=(hdep 0 l[0] hin (List.getElem?_eq_getElem hlt)).1 e he hb
     omega
    |succ k ihk=>
     intro i hik hin hun;have hlt:i<l.length:=by omega
     by_cases hall:∀j,j<i->listed.getD j false=true
     ·exact⟨i,mem_ready.2 ⟨getD_in (by omega) hun,l[i],by grind,λe he hb=>hall _ ((hdep i l[i] hin (List.getElem?_eq_getElem hlt)).1 e he hb)⟩⟩
     grind
   obtain⟨j,hj⟩:=this i0 i0 (Nat.le_refl _) hi0 hun0
   grind
  rw[show f+1+(l.length-n)=(f+(l.length-n))+1 from by omega];refine⟨hJ _ _ _ _ inv hI,λh=>absurd h hready,λi hi=>?_⟩
  have hin:i<n:=by
   obtain⟨_,oi,hoi,_⟩:=mem_ready.1 hi
   have hil:i<l.length:=by
    have:=(Array.getElem?_eq_some_iff.1 hoi).1;assumption
   rcases hsink with rfl|⟨hlt,hs,hc⟩
   ·omega
   ·rcases Nat.lt_or_ge i n with h|h
    ·exact h
    ·exact absurd hi (FF hs hc (by assumption) inv _ i0 rfl hi0 (getD_in (by omega) hun0) i h)
  obtain⟨hun,oi,hoi,hall⟩:=mem_ready.1 hi;have hoil:l[i]? =some oi:=by grind
  have hilt:i<l.length:=(List.getElem?_eq_some_iff.1 hoil).1;obtain⟨kd,x,qi,qi',hkd,hx,⟨d,hd,hdN⟩,hstp⟩:=oQ hh i oi (by rw[List.getElem?_take,if_pos hin];omega);have htt:(l.take n).take i=l.take i:=by rw[List.take_take,Nat.min_eq_left (by omega)]
  rw[htt]at hstp
  have hlook:∀t∈oi.looksAt l.toArray,bi w (E.plus m w.heap.size (FQ n kds listed fs)) s.lv s.c ((yG s (l.take i) xs).sl t) (a.tmps.getD t undef):=by
   intro t ht;by_cases hex:∃j oj,j<n/\l[j]? =some oj/\oj.dst=some t
   ·obtain⟨j,oj,hj,hoj,hdj⟩:=hex;obtain⟨hji,hwt⟩:=ml hB hin hoil hj hoj hdj ht
    have hlj:listed.getD j false=true:=by
     obtain⟨oi',hoi',e,he,hb,hon⟩:=Region.waitsFor_spec hwt;have:oi'=oi:=Option.some.inj (hoi'.symm.trans hoi)
     grind
    have hjx:j<xs.length:=by omega
    have hjk:j<kds.length:=by omega
    have hs:=(hI.fact j oj t _ _ hj hlj hoj hdj (List.getElem?_eq_getElem hjk) (List.getElem?_eq_getElem hjx)).2
    have hnd':(dA (l.take i)).Nodup:=by
     have:l.take n=l.take i++(l.take n).drop i:=by rw[<-htt,List.take_append_drop]
     rw[this]at hnd;unfold dA at hnd;rw[List.filterMap_append]at hnd;exact(List.nodup_append.1 hnd).1
    rw[Iv hnd' (by rw[List.getElem?_take,if_pos hji];omega) (List.getElem?_eq_getElem hjx) hdj];exact hs
   ·have hout:(yG s (l.take i) xs).sl t=s.sl t:=by
     refine zI λo ho hdo=>?_
     obtain⟨j,hj,rfl⟩:=List.mem_iff_getElem.1 ho;have hji:j<i:=by grind
     exact hex ⟨j,_,by omega,by rw[List.getElem?_eq_getElem (by omega)],by rw[List.getElem_take]at hdo;omega⟩
    rw[hout];have:=hI.rep.slot t;simp only[df]at this
    rw[if_neg (by
     simp only[List.contains_iff_mem];intro hm;obtain⟨j,o,hj,_,ho,hdo⟩:=kE.1 hm
     grind)]at this
    exact this.stay ⟨λb hb=>⟨.inl hb,rfl⟩,λi st _ h=>⟨h,rfl⟩,Nat.le_refl _⟩
  obtain⟨ha1,ha2,ha3⟩:=AW (l:=l.take i) (xs:=xs) (s:=s)
  have hrepH:aH w0 N {s with sl:=λt=>if(oi.looksAt l.toArray).contains t then(yG s (l.take i) xs).sl t else .und} a w (E.plus m w.heap.size (FQ n kds listed fs)):=by
   have hg:=Mr (Zp:=FQ n kds listed fs) hI.rep hw hEm
   have:=GN hg (sl':=λt=>if(oi.looksAt l.toArray).contains t then(yG s (l.take i) xs).sl t else .und) (λt=>by
    split
    ·rename_i ht;exact hlook t (by grind)
    ·trivial)
   exact this
  have hal:cP (yG s (l.take i) xs) {s with sl:=λt=>if(oi.looksAt l.toArray).contains t then(yG s (l.take i) xs).sl t else .und} oi.op.operands.toList:=by
   refine⟨ha1.symm,ha2.symm,λt ht=>?_⟩;have:t∈oi.looksAt l.toArray:=List.mem_append_left _ (List.mem_filterMap.2 ⟨.tmp t,ht,rfl⟩)
   grind
  have hIA:∀b,E.A b->b<w.heap.size:=λb hb=>Nat.lt_of_lt_of_le (hEA b hb) hI.le
  have hIX:∀b,FQ n kds listed fs b->b<w.heap.size:=λb ⟨j,_,_,h1,h2,_,h4⟩=>(hI.blk j h1 h2 b h4).2
  have hnext:∀v w' f',Below w.heap.size w w'->(∀b∈f',w.heap.size<=b/\b<w'.heap.size)->Fn P m E s.lv s.c a w' v f' kd->bi w' (E.plus m w'.heap.size (xk (FQ n kds listed fs) f' kd)) s.lv s.c x v->(Yc l n->w'.heap=w.heap)->
   fI P .any l.toArray (AQ w0 N Q) J (f+(l.length-n)) (listed.setIfInBounds i true) (a.put oi.dst v) w':=by
   intro v w' f' hb hf' hfa hsl hpw;have hlt:i<listed.size:=by omega
   have hun':=getD_both hun
   have hcount:=ru (λk=>!listed.getD k false) (λk=>!(listed.setIfInBounds i true).getD k false)
    (λk hk=>by
     by_cases e:i=k
     ·grind
     simp_all)
    (List.range n) i (List.mem_range.2 hin) (by grind) (by simp[hlt]) List.nodup_range
    (λk hk hne=>by rw[getD_set_ne false (Ne.symm hne)];exact hk)
   have hset:∀j,(listed.setIfInBounds i true).getD j false=true->j=i\/listed.getD j false=true:=by
    intro j hj;by_cases e:i=j
    ·omega
    simp_all
   have hundne:∀j oj,j<n->listed.getD j false=true->l[j]? =some oj->oj.dst≠some d:=by
    intro j oj hj hlj hoj hdj;have hne:j≠i:=λe=>by grind
    have key:∀{l':List Oper} {p q:Nat} {op oq:Oper} {t:Nat},(dA l').Nodup->l'[p]? =some op->l'[q]? =some oq->op.dst=some t->oq.dst=some t->p=q:=by
     intro l'
     induction l' with
     |nil=>grind
     |cons z l' ih=>
      intro p q op oq t hn h1 h2 h3 h4
      have hn':(dA l').Nodup:=by
       unfold dA at hn ⊢;rw[List.filterMap_cons]at hn;split at hn
       ·exact hn
       ·exact(List.nodup_cons.1 hn).2
      have hz:∀(y:Oper),z.dst=some t->y∈l'->y.dst≠some t:=by
       intro y hzt hy hyt;unfold dA at hn;rw[List.filterMap_cons,hzt]at hn;exact(List.nodup_cons.1 hn).1 (List.mem_filterMap.2 ⟨y,hy,hyt⟩)
      cases p with
      |zero=>cases q with
       |zero=>rfl
       |succ q=>simp at h1 h2;subst h1;exact absurd h4 (hz oq h3 (List.mem_of_getElem? h2))
      |succ p=>cases q with
       |zero=>simp at h1 h2;subst h2;exact absurd h3 (hz op h4 (List.mem_of_getElem? h1))
       |succ q=>exact congrArg (· +1) (ih hn' (by assumption) (by assumption) h3 h4)
    exact hne (key hnd (by rw[List.getElem?_take,if_pos hj];omega) (by rw[List.getElem?_take,if_pos hin];omega) hdj hd)
   refine ih _ _ w' (λj=>if j=i then f' else fs j) ?_ (inv.set hi hin) ⟨?_,Nat.le_trans hI.le hb.size,?_,?_,?_,λhp=>(hpw hp).trans (hI.bl hp)⟩
   ·grind[RY]
   ·have h1:=(hI.rep.world' hb).put (d:=oi.dst) (x:=.und) (v:=v) trivial (λk hk=>by have e:=Option.some.inj (hd.symm.trans hk);rw[<-e];omega);refine h1.weaken (s':=df s (TK l n (listed.setIfInBounds i true))) (by rw[AS.put_n];exact Nat.le_refl _) (by rw[AS.put_c];exact Nat.le_refl _) (λj _=>.inl (by rw[AS.put_ob];rfl)) (λt=>?_);simp only[df];by_cases ht:t∈TK l n (listed.setIfInBounds i true)
    ·grind
    ·left;rw[if_neg (by grind)];have htd:oi.dst≠some t:=λe=>ht (kE.2 ⟨i,oi,hin,by simp[hlt],hoil,e⟩)
     rw[CZ htd];simp only[df]
     rw[if_neg (by
      simp only[List.contains_iff_mem];intro hm;obtain⟨j,oj,hj,hlj,hoj,hdj⟩:=kE.1 hm;refine ht (kE.2 ⟨j,oj,hj,?_,hoj,hdj⟩);by_cases e:i=j
      ·grind
      simp_all)]
   ·intro j oj dj kdj xj hj hlj hoj hdj hkdj hxj;by_cases e:j=i
    ·subst e;have:oj=oi:=Option.some.inj (hoj.symm.trans hoil);subst this;rw[hd]at hdj;injection hdj with hdj;subst hdj;rw[hkd]at hkdj;injection hkdj with hkdj;subst hkdj;rw[hx]at hxj;injection hxj with hxj;subst hxj;rw[hd,MY (by rw[hI.rep.size];omega),if_pos rfl];rw[IM hin hlt hun' hkd];refine⟨?_,hsl⟩;refine Du hfa (Below.refl _ _) ?_;intro y hy hyt;have hop:Operand.tmp d∈oj.op.operands.toList:=hyt▸FM hstp y hy;have hlk:d∈oj.looksAt l.toArray:=List.mem_append_left _ (List.mem_filterMap.2 ⟨.tmp d,hop,rfl⟩);have:=(ml hB hin hoil hin hoil hd hlk).1;omega
    ·have hlj':listed.getD j false=true:=(hset j hlj).resolve_left e;obtain⟨g1,g2⟩:=hI.fact j oj dj kdj xj hj hlj' hoj hdj hkdj hxj;have hne:dj≠d:=λe'=>hundne j oj hj hlj' hoj (by rw[hdj,e'])
     rw[hd,gk hne,if_neg e];rw[IM hin hlt hun' hkd];refine⟨Du g1 hb ?_,g2.stay (wZ hb hIA λb hbl hx=>by cases kd<;>first|exact hx|exact hx.resolve_right λh=>by have:=hf' b h;omega)⟩;intro y hy hyt
     have hop:Operand.tmp d∈oj.op.operands.toList:=by
      obtain⟨kd',x',qj,qj',h1,h2,_,hst⟩:=oQ hh j oj (by rw[List.getElem?_take,if_pos hj];omega);rw[hkdj]at h1;grind[FM]
     have hlk:d∈oj.looksAt l.toArray:=List.mem_append_left _ (List.mem_filterMap.2 ⟨.tmp d,hop,rfl⟩);obtain⟨_,hwt⟩:=ml hB hj hoj hin hoil hd hlk;obtain⟨oj',hoj',ed,he,hbd,hon⟩:=Region.waitsFor_spec hwt;have:oj'=oj:=Option.some.inj (hoj'.symm.trans (by grind));subst this;have:=inv.closed j oj' hoj' hlj' ed he hbd;rw[hon,getD_both hun]at this;grind
   ·intro j hj hlj b hbj;by_cases e:j=i
    ·rw[if_pos e]at hbj;have:=hf' b hbj;have:=hI.le;omega
    ·rw[if_neg e]at hbj;have h1:=hI.blk j hj ((hset j hlj).resolve_left e) b hbj;have:=hb.size;omega
   ·intro p q' hp hq hlp hlq hne b hbp hbq;by_cases e1:p=i
    ·by_cases e2:q'=i
     ·omega
     ·rw[if_pos e1]at hbp;rw[if_neg e2]at hbq;have h1:=hf' b hbp;have h2:=hI.blk q' hq ((hset q' hlq).resolve_left e2) b hbq;omega
    ·by_cases e2:q'=i
     ·rw[if_neg e1]at hbp;rw[if_pos e2]at hbq;have h1:=hf' b hbq;have h2:=hI.blk p hp ((hset p hlp).resolve_left e1) b hbp;omega
     ·rw[if_neg e1]at hbp;rw[if_neg e2]at hbq;exact hI.dis p q' hp hq ((hset p hlp).resolve_left e1) ((hset q' hlq).resolve_left e2) hne b hbp hbq
  have bD:zr P pr (yG s (l.take i) xs) qi oi kd x qi'->oi.wp P a w (λa' w'=>fI P .any l.toArray (AQ w0 N Q) J (f+(l.length-n)) (listed.setIfInBounds i true) a' w') (AQ w0 N Q):=by
   intro hr;have hk:=P6 hr hal hrepH hIA hIX hI.le
   have hk2:oi.wp P a w (λa' w'=>U8 P m (FQ n kds listed fs) s.lv s.c oi a w E kd x a' w'/\(Yc l n->w'.heap=w.heap)) (λ_ _ _=>False):=by
    by_cases hp:Yc l n
    ·obtain⟨y,hy⟩:=Hs hr (hp oi (List.mem_of_getElem? (i:=i) (by rw[List.getElem?_take,if_pos hin];omega)));obtain⟨v,hv,-⟩:=E7 (by rw[eK hal];exact hy) _ _ _ _ _ hrepH;unfold Oper.wp at hk ⊢;rw[hv,Oper.upon_value]at hk ⊢;exact⟨hk,λ_=>rfl⟩
    ·exact Oper.wp_mono (λa' w' h=>⟨h,λh'=>absurd h' hp⟩) hk
   refine Oper.wp_mono2 (λa' w' hp=>?_) hk2;obtain⟨⟨v,f',rfl,hb,hf',hfa,hsl⟩,hpw⟩:=hp
   grind
  unfold wpOp;simp only[hoi]
  cases hgd:oi.guard with
  |none=>
   rw[hgd]at hstp;rw[if_pos (by simp[Region.wanted,hgd])]
   exact .inl (bD hstp)
  |some gw=>
   obtain⟨g,want⟩:=gw;rw[hgd]at hstp;obtain⟨t,b,hgs,htN,hsb,hbb⟩:=hstp
   have hlk:t∈oi.looksAt l.toArray:=by
    unfold Oper.looksAt
    grind[List.mem_append_right,kb]
   have hy:yielded l.toArray a.tmps g=b:=Fw (s:={s with sl:=λt=>if(oi.looksAt l.toArray).contains t then(yG s (l.take i) xs).sl t else .und}) hrepH hgs (by grind) htN;split at hbb
   ·rename_i hw;subst hw;rw[if_pos (by simp[Region.wanted,hgd,hy])]
    grind
   ·rename_i hw;rw[if_neg (by simp[Region.wanted,hgd,hy,hw])];obtain⟨rfl,rfl,-⟩:=hbb;exact hnext undef w [] (Below.refl _ _) (by simp) rfl ⟨[],rfl,rfl,λj b cs u h _=>by grind⟩ (λ_=>rfl)
theorem LU(n:Nat)(pr:Bool)(hB:C4 l n=true)(hh:ju P N pr l.toArray (l.take n) s s kds xs qF)(htail:lu P N l.toArray (l.drop n) Q qF){w0:Cx}{a:Act}{w:World}{E:En}(hr:aH w0 N s a w E):
 wpAny P .any l.toArray (AQ w0 N Q) l.toArray.size (Array.replicate l.toArray.size false) a w:=by
 unfold C4 at hB;rw[Bool.and_eq_true,Bool.and_eq_true,decide_eq_true_eq]at hB;obtain⟨hB,hsq,hnd⟩:=hB;have hnl:=(na hB).2.1
 have hu:RY n (Array.replicate l.toArray.size false)=n:=by
  unfold RY
  have:(List.range n).filter (λi=>!(Array.replicate l.toArray.size false).getD i false)=List.range n:=by
   rw[List.filter_eq_self];intro i _;rw[getD_replicate_false];rfl
  rw[this];simp
 have hr':aH w0 N s a w E:=hr
 have h:=Az _ _ _ _<|yh (J:=λ_ _ _=>True) (m:=w.heap.size) (E:=E) hB hnd hh hr'.bel.size (λi hi b hb=>hr'.m_lt i hi b hb) hr'.A_lt (λ_ _ _ _ _ _=>trivial) (Bt hB hsq hnd hh hr'.bel.size (λi hi b hb=>hr'.m_lt i hi b hb) hr'.A_lt htail (λ_ _ _ _=>trivial)) n (Array.replicate l.toArray.size false) a w (λ_=>[]) hu
  ⟨by simp,λj oj _ hl=>(by rw[getD_replicate_false]at hl;cases hl),λt _ ht=>getD_in (by grind) (getD_replicate_false _ _)⟩
  ⟨by
   have:TK l n (Array.replicate l.toArray.size false)=[]:=by
    rw[List.eq_nil_iff_forall_not_mem];intro t ht;obtain⟨j,o,_,hl,_⟩:=kE.1 ht;rw[getD_replicate_false]at hl;cases hl
   rw[this];have e:df s []=s:=by rfl
   rw[e];omega,Nat.le_refl _,λj o d kd x _ hl=>(by rw[getD_replicate_false]at hl;cases hl),λj _ hl=>(by rw[getD_replicate_false]at hl;cases hl),λi j _ _ hl=>(by rw[getD_replicate_false]at hl;cases hl),λ_=>rfl⟩
 rw[show l.toArray.size=n+(l.length-n)from by grind];rw[show(Array.replicate l.toArray.size false)=Array.replicate (n+(l.length-n)) false from by grind]at h;exact h
theorem M3(h:Ca l n=true):C4 l n=true:=by
 unfold Ca at h;unfold C4;rw[Bool.and_eq_true]at h;rw[zJ h.1,DQ (mU h.1).2.2.2.1,h.2];rfl
theorem FN{id:Nat}(n:Nat)(pr:Bool)(hm:P.follows .mixedOrders=true)(hB:C4 l n=true)(hh:ju P N pr l.toArray (l.take n) s s kds xs qF)(htail:lu P N l.toArray (l.drop n) Q qF):tN P N (.region id l.toArray true) Q s:=
 λw0 a w E hr=>wp_region_any hm (LU n pr hB hh htail (hr.world' (Below.refl _ _).drew))
end
end Go.Proofs.YtliknccmjjncbaaGreat
namespace Go.Proofs.YtliknccmjjncbaaGreat
open Go.RowKit
theorem SQ(b:Bool)(cs:List AC):jy false (.p b cs)=if cs.all ct then .p b cs else .und:=rfl
theorem TA(xs:List (Bool×List AC)):jy false (.tup xs)=.und:=rfl
theorem Vo:jy false .und=.und:=rfl
theorem KQ(x:AV):jy true x=x:=rfl
theorem Tl(c t k:Nat)(es:List (List DV)):Cs false c t k es=.row c t k es true:=rfl
theorem Vd(c t k:Nat)(es:List (List DV)):Cs true c t k es=.dx c (.sl t k es):=rfl
def dS(N:Nat):Option Nat->Bool
 |some d=>decide (d<N)
 |none=>false
def VJ(K:AS->AS->Prop)(pr:Bool)(d:Option Nat)(h q:AS):Option AV->Prop
 |some y=>K (h.put d y) (q.put d (jy pr y))
 |none=>False
def HC(P:Program)(pr:Bool)(o:Oper)(K:AS->AS->Prop)(h q:AS):Prop:=∃kd x q',zr P pr h q o kd x q'/\K (h.put o.dst x) q'
def I8(K:AS->AS->Prop)(d:Option Nat)(h q:AS)(el k:Nat):Option (List (List AC))->Option (List (List AC))->Prop
 |some es,some esq=>K (h.put d (vq el k es)) ((q.push (.arr q.c el k esq)).put d (.p false [.own q.n q.c]))
 |_,_=>False
def PU(P:Program)(K:AS->AS->Prop)(pr:Bool)(d:Option Nat)(h q:AS)(len:Nat)(parts:List (Nat×Operand)):Option (TypeId×Nat)->Prop
 |some (el,k)=>(pr=false/\(aT P el).isSome=true/\0<k/\parts.length=len/\len*k<=16777216)/\I8 K d h q el k (t9 h k parts 0) (t9 q k parts 0)
 |none=>False
def QP(P:Program)(pr:Bool)(o:Oper)(K:AS->AS->Prop)(h q:AS)(args:List Operand)(ts:List TypeId):Callee->Prop
 |.builtin .len=>VJ K pr o.dst h q (tu P h (.builtin .len) args ts)
 |_=>HC P pr o K h q
def X9(K:AS->AS->Prop)(pr:Bool)(d:Option Nat)(h q:AS)(t:TypeId):Option (List AC)->Prop
 |some cs=>pr=false/\K (h.put d .und) ((q.push (.var q.c t cs)).put d (.p false [.ptr q.n q.c 0]))
 |none=>False
def X7(K:AS->AS->Prop)(pr:Bool)(d:Option Nat)(h q:AS):Option AV->Option AV->Prop
 |some y,some z=>K (h.put d y) (q.put d (if pr then y else z))
 |_,_=>False
def NV(P:Program)(pr:Bool)(o:Oper)(K:AS->AS->Prop)(h q:AS):Op->Prop
 |.call c=>QP P pr o K h q c.args.toList c.argTypes.toList c.callee
 |.buildSlice t len parts=>PU P K pr o.dst h q len parts.toList (dN P t)
 |.build t parts=>VJ K pr o.dst h q (oW P h (.build t parts))
 |.alloc t=>X9 K pr o.dst h q t (aY P t)
 |.move x=>X7 K pr o.dst h q (some (h.ev x)) (some (q.ev x))
 |.extract x ix=>X7 K pr o.dst h q (Mz ix (h.ev x)) (Mz ix (q.ev x))
 |op=>VJ K pr o.dst h q (hV P h op)
def X3(P:Program)(pr:Bool)(o:Oper)(K:AS->AS->Prop)(h q:AS)(want:Bool):AV->Prop
 |.p false [.d (.sc (.bool b))]=>if b=want then NV P pr o K h q o.op else K (h.put o.dst (.tup [])) (q.put o.dst (jy pr (.tup [])))
 |.tup []=>K (h.put o.dst (.tup [])) (q.put o.dst (jy pr (.tup [])))
 |_=>False
def Qq(P:Program)(N:Nat)(pr:Bool)(o:Oper)(K:AS->AS->Prop)(h q:AS)(want:Bool):Option Nat->Prop
 |some t=>t<N/\X3 P pr o K h q want (h.sl t)
 |none=>False
def X0(P:Program)(N:Nat)(pr:Bool)(ops:Array Oper)(o:Oper)(K:AS->AS->Prop)(h q:AS):Option (Nat×Bool)->Prop
 |none=>NV P pr o K h q o.op
 |some (g,want)=>Qq P N pr o K h q want (kb ops g)
def WT(P:Program)(N:Nat)(pr:Bool)(ops:Array Oper):List Oper->(AS->Prop)->AS->AS->Prop
 |[],K,h,q=>K q
 |o::r,K,h,q=>dS N o.dst=true/\X0 P N pr ops o (WT P N pr ops r K) h q o.guard
section
variable {P:Program}{N:Nat}{pr:Bool}{s h q:AS}{o:Oper}{K:AS->AS->Prop}{ops:Array Oper}
theorem Iq{x:Option AV}(hx:∀y,x=some y->oW P h o.op=some y)(hk:VJ K pr o.dst h q x):HC P pr o K h q:=by
 cases x with
 |none=>exact hk.elim
 |some y=>exact⟨_,_,_,.inl ⟨y,hx y rfl,rfl,rfl,rfl⟩,hk⟩
theorem Oa{x z:Option AV}(hp:Ht h o.op)(hx:∀y,x=some y->oW P h o.op=some y)(hz:∀y,z=some y->oW P q o.op=some y)(hk:X7 K pr o.dst h q x z):HC P pr o K h q:=by
 cases x with
 |none=>exact hk.elim
 |some y=>
  cases z with
  |none=>exact hk.elim
  |some z=>
   cases pr with
   |false=>exact⟨_,_,_,.inr (.inr (.inr (.inr (.inl ⟨y,z,hp,rfl,hx y rfl,hz z rfl,rfl,rfl,rfl⟩)))),hk⟩
   |true=>
    exact⟨_,_,_,.inl ⟨y,hx y rfl,rfl,rfl,rfl⟩,hk⟩
theorem MF{op:Op}(ho:o.op=op)(hk:NV P pr o K h q op):HC P pr o K h q:=by
 unfold NV at hk;split at hk
 ·rename_i c;unfold QP at hk;split at hk
  ·rename_i hc;refine Iq (λy hy=>?_) hk;rw[ho];show tu P h c.callee c.args.toList c.argTypes.toList=some y;rw[hc];exact hy
  omega
 ·rename_i t len parts;unfold PU at hk;split at hk
  ·rename_i el k ht;obtain⟨⟨h0,h1,h2,h3,h4⟩,hk⟩:=hk;unfold I8 at hk;split at hk
   ·rename_i es esq h5 h6;exact⟨_,_,_,.inr (.inr (.inl ⟨t,len,parts,el,k,es,esq,ho,h0,ht,h1,h2,h3,h4,h5,h6,rfl,rfl,rfl⟩)),hk⟩
   grind
  grind
 ·grind[Iq]
 ·rename_i t;unfold X9 at hk;split at hk
  ·rename_i cs hz;exact⟨_,_,_,.inr (.inr (.inr (.inl ⟨t,cs,ho,hz,rfl,rfl,rfl⟩))),hk.2⟩
  grind
 ·rename_i x;exact Oa (by rw[ho];exact⟨rfl,λ_ _ e=>by cases e⟩) (λy hy=>by rw[ho];exact hy) (λy hy=>by rw[ho];exact hy) hk
 ·rename_i x ix;exact Oa (by rw[ho];exact⟨rfl,λ_ _ e=>by cases e⟩) (λy hy=>by rw[ho];exact hy) (λy hy=>by rw[ho];exact hy) hk
 ·rename_i h1 h2 h3 h4 h5 h6;refine Iq (λy hy=>?_) hk;rw[ho]
  grind[oW]
theorem B2:∀{l:List Oper} {K:AS->Prop} {h q:AS},WT P N pr ops l K h q->∃kds xs qF,ju P N pr ops l h q kds xs qF/\K qF
 |[],K,h,q,hk=>⟨[],[],q,rfl,hk⟩
 |o::r,K,h,q,hk=>by
  obtain⟨hd,hk⟩:=hk
  have hd':∃d,o.dst=some d/\d<N:=by
   cases hdd:o.dst with
   |none=>rw[hdd]at hd;grind[dS]
   |some d=>rw[hdd]at hd;grind[dS]
  cases hg:o.guard with
  |none=>
   rw[hg]at hk;obtain⟨kd,x,q1,h1,h2⟩:=MF rfl hk;obtain⟨kds,xs,qF,h3,h4⟩:=B2 h2
   exact⟨kd::kds,x::xs,qF,⟨hd',q1,by rw[hg];exact h1,h3⟩,h4⟩
  |some gw=>
   obtain⟨g,want⟩:=gw;rw[hg]at hk;simp only[X0]at hk;unfold Qq at hk;split at hk
   ·rename_i t ht;obtain⟨htN,hk⟩:=hk;unfold X3 at hk;split at hk
    ·rename_i b hb;split at hk
     ·rename_i hw;obtain⟨kd,x,q1,h1,h2⟩:=MF rfl hk;obtain⟨kds,xs,qF,h3,h4⟩:=B2 h2;exact⟨kd::kds,x::xs,qF,⟨hd',q1,by rw[hg];exact⟨t,some b,ht,htN,hb,by rw[if_pos (by rw[hw])];exact h1⟩,h3⟩,h4⟩
     ·rename_i hw;obtain⟨kds,xs,qF,h3,h4⟩:=B2 hk;exact⟨.v (.tup [])::kds,.tup []::xs,qF,⟨hd',_,by rw[hg];exact⟨t,some b,ht,htN,hb,by rw[if_neg (λe=>hw (Option.some.inj e))];grind⟩,h3⟩,h4⟩
    ·rename_i hb;obtain⟨kds,xs,qF,h3,h4⟩:=B2 hk;exact⟨.v (.tup [])::kds,.tup []::xs,qF,⟨hd',_,by rw[hg];exact⟨t,none,ht,htN,hb,by rw[if_neg (λe=>by cases e)];grind⟩,h3⟩,h4⟩
    grind
   grind
theorem RX{f:FuncId}{args:Array Operand}{ts:Array TypeId}{ys:List (Bool×List DV)}{res:List Rs}(ho:o.op=.call ⟨.value (.func f),args,ts⟩)(hm:aB P f ys res)(hr:res.all (·.2.2)=true)(har:fe h args.toList ys)(hpr:pr=true->b7 false res 0=[])
 (hk:K (h.put o.dst (jc res)) ((q.pushL (b7 false res q.c)).put o.dst (k8 res q.n q.c))):HC P pr o K h q:=
 ⟨_,_,_,.inr (.inl ⟨f,args,ts,ys,res,ho,hm,har,hr,hpr,rfl,rfl,rfl⟩),hk⟩
theorem Dv{id n:Nat}{l:List Oper}{Q:Exit->AS->Prop}(pr:Bool)(hm:P.follows .mixedOrders=true)(hB:Ca l n=true)(hk:WT P N pr l.toArray (l.take n) (SN P N l.toArray (l.drop n) Q) s s):tN P N (.region id l.toArray true) Q s:=by
 have:=M3 hB
 grind[B2,FN,xf]
end
attribute[go_sem] CP.eq_5 CP.eq_6 By.eq_5 lz.eq_6 lz.eq_7 tV.eq_4 tV.eq_5 FK.eq_7 FK.eq_8 ct.eq_7 ct.eq_8 List.isEmpty_cons List.isEmpty_nil
attribute[go_sem] aw.eq_1 aw.eq_2 aw.eq_3 aw.eq_4 aw.eq_5 aw.eq_6 aw.eq_7 aw.eq_8 SN.eq_1 SN.eq_2 XS.eq_1 XS.eq_2
attribute[go_sem] K5.eq_1 K5.eq_2 K5.eq_3 K5.eq_4 K5.eq_5 K5.eq_6 K5.eq_7 K5.eq_8 kV.eq_1 kV.eq_2 Kn.eq_1 Kn.eq_2
attribute[go_sem] PH.eq_1 PH.eq_2 I1.eq_1 I1.eq_2 Pt.eq_1 Pt.eq_2 XX.eq_1 XX.eq_2 Qc.eq_1 Qc.eq_2 Ye.eq_1 Ye.eq_2
attribute[go_sem] XW.eq_1 XW.eq_2 kG.eq_1 kG.eq_2 X6.eq_1 X6.eq_2 kC.eq_1 kC.eq_2 PV.eq_1 PV.eq_2 Fg.eq_1 Fg.eq_2
attribute[go_sem] dB.eq_1 dB.eq_2 hV.eq_1 hV.eq_2 hV.eq_3 hV.eq_4 hV.eq_5 hV.eq_6 hV.eq_7 hV.eq_8 hV.eq_9 hV.eq_10
attribute[go_sem] hV.eq_11 hV.eq_12 hV.eq_13 hV.eq_14 hV.eq_15 Wy.eq_1 Wy.eq_2 G7.eq_1 G7.eq_2 G7.eq_3 G7.eq_4 JX.eq_1 JX.eq_2 P0.eq_1 O6.eq_1
attribute[go_sem] O6.eq_2 O6.eq_3 F3.eq_1 F3.eq_2 Ic An.eq_1 An.eq_2 An.eq_3 An.eq_4 An.eq_5 An.eq_6 dK.eq_1 dK.eq_2
attribute[go_sem] dK.eq_3 dK.eq_4 dK.eq_5 dK.eq_6 dK.eq_7 dK.eq_8 dK.eq_9 dK.eq_10 dK.eq_11 dK.eq_12 dK.eq_13 dK.eq_14
attribute[go_sem] dK.eq_15 dK.eq_16 dK.eq_17 v8.eq_1 v8.eq_2 v8.eq_3 v8.eq_4 v8.eq_5 v8.eq_6 v8.eq_7 v8.eq_8 VU.eq_1
attribute[go_sem] VU.eq_2 Sx.eq_1 Sx.eq_2 Sx.eq_3 Pa.eq_1 Pa.eq_2 O4 R9.eq_1 R9.eq_2 R9.eq_3 VO.eq_1 VO.eq_2 Mz.eq_1
attribute[go_sem] Mz.eq_2 tu.eq_1 tu.eq_2 lz.eq_1 lz.eq_2 lz.eq_3 lz.eq_4 lz.eq_5 tV.eq_1 tV.eq_2 tV.eq_3 ne.eq_1
attribute[go_sem] AS.evI.eq_1 AS.evI.eq_2 AS.ev.eq_1 AS.ev.eq_2 AS.ev.eq_3 XU.eq_1 Om.eq_1 Om.eq_2 Om.eq_3 Om.eq_4 Om.eq_5 AS.own?.eq_1
attribute[go_sem] AS.put.eq_1 AS.put.eq_2 AS.pushL.eq_1 AS.pushL.eq_2 bV.eq_1 bV.eq_2 bV.eq_3 FK.eq_1 FK.eq_2 FK.eq_3 FK.eq_4 FK.eq_5
attribute[go_sem] FK.eq_6 iy.eq_1 iy.eq_2 t9.eq_1 t9.eq_2 Ob.st.eq_1 Ob.st.eq_2 Ob.st.eq_3 Ob.st.eq_4 Ob.st.eq_5 Ob.st.eq_6 O8.eq_1 O8.eq_2
attribute[go_sem] VS.eq_1 VS.eq_2 c9.eq_1 c9.eq_2 c9.eq_3 lD.eq_1 lD.eq_2 lD.eq_3 DO.eq_1 DO.eq_2 DO.eq_3 Ov.eq_1
attribute[go_sem] Ov.eq_2 kb mo AS.push O3 plug lF SQ TA Vo KQ ct.eq_1
attribute[go_sem] ct.eq_2 ct.eq_3 ct.eq_4 ct.eq_5 ct.eq_6 WT.eq_1 WT.eq_2 X0.eq_1 X0.eq_2 Qq.eq_1 Qq.eq_2 X3.eq_1
attribute[go_sem] X3.eq_2 NV.eq_1 NV.eq_2 NV.eq_3 NV.eq_4 NV.eq_5 NV.eq_6 NV.eq_7 X9.eq_1 X9.eq_2 X7.eq_1 QP.eq_1 QP.eq_2 PU.eq_1 PU.eq_2 I8.eq_1 I8.eq_2 VJ.eq_1
attribute[go_sem] VJ.eq_2 dS.eq_1 dS.eq_2 oW.eq_1 oW.eq_2 vq NF.eq_1 NF.eq_2 dL.eq_1 dL.eq_2 dL.eq_3 jc
attribute[go_sem] Wq Xu Wl.eq_1 R0.eq_1 R0.eq_2 R0.eq_3 fe.eq_1 fe.eq_2 fe.eq_3 IA.eq_1 IA.eq_2 IA.eq_3 CP.eq_1 CP.eq_2
attribute[go_sem] CP.eq_3 CP.eq_4 wu.eq_1 wu.eq_2 wu.eq_3 Bk.eq_1 Bk.eq_2 Bk.eq_3 By.eq_1 By.eq_2 By.eq_3 By.eq_4
attribute[go_sem] iW.eq_1 iW.eq_2 iW.eq_3 b7.eq_1 b7.eq_2 b7.eq_3 QN.eq_1 QN.eq_2 QN.eq_3 kf.eq_1 kf.eq_2 kf.eq_3 Tl Vd
attribute[go_sem] k8 AS.kill AS.frz
attribute[go_sem] decide_eq_true_eq List.getElem?_cons_zero List.getElem?_cons_succ List.getElem?_nil List.drop_succ_cons List.drop_zero List.take_succ_cons List.take_zero List.length_cons List.length_nil List.map_cons List.map_nil
attribute[go_sem] List.all_cons List.all_nil Bool.and_true Option.bind_some Option.isSome_some true_and and_true ne_eq List.nil_append List.cons_append List.append_nil Option.some.injEq
attribute[go_sem] List.getElem?_toArray Int.toNat_natCast Int.natCast_nonneg Nat.zero_add Bool.false_eq_true Bool.not_true Bool.not_false not_false_eq_true not_true_eq_false and_self List.drop_nil decide_true
attribute[go_sem] decide_false Bool.and_self Bool.true_and Nat.lt_add_one false_implies implies_true Nat.add_zero DV.sl.injEq exists_eq_left exists_eq_left' exists_eq Prod.mk.injEq
end Go.Proofs.YtliknccmjjncbaaGreat
namespace Go.Proofs.YtliknccmjjncbaaGreat
open Go.RowKit
def Gn(w:World)(base:Nat):List Value->List DV->List (List Nat)->Prop
 |[],[],[]=>True
 |v::vs,d::ds,f::fs=>aR w base [v] [d] f/\Gn w base vs ds fs
 |_,_,_=>False
structure ci(w w':World)(f:List Nat):Prop where
 os:w'.os=w.os
 tape:w'.tape=w.tape
 output:w'.output=w.output
 size:w.heap.size<=w'.heap.size
 block:∀b,b<w.heap.size->b∉f->w'.heap[b]? =w.heap[b]?
def jb(P:Program)(f:FuncId)(b:Bool)(ds:List DV)(k:Int)(ds':List DV)(k':Int):Prop:=
 bc P f=true/\∀(w:World) (base:Nat) (v:Value) (vals:List Value) (fs:List (List Nat)),(if b then v=.agg vals.toArray else vals=[v])->Gn w base vals ds fs->fs.flatten.Nodup->
  Calls P f #[v,.int .i64 k] w λe w'=>e=.returned (.int .i64 k')/\Gn w' base vals ds' fs/\ci w w' fs.flatten
def VV(s:AS):List AC->List DV->List DV->List (Nat×Nat×DV)->Prop
 |[],[],[],[]=>True
 |.d y::cs,x::ds,z::ds',L=>(∃v,y=.sc v/\x=.sc v/\z=.sc v)/\VV s cs ds ds' L
 |.nil::cs,x::ds,z::ds',L=>(∃t k,0<k/\x=.sl t k []/\z=.sl t k [])/\VV s cs ds ds' L
 |.own i st::cs,x::ds,z::ds',p::L=>s.own? i st=some (.dx st x)/\p=(i,st,z)/\VV s cs ds ds' L
 |_,_,_,_=>False
def fx(s:AS):List (Nat×Nat×DV)->AS
 |[]=>s
 |p::L=>fx {s with ob:=upd s.ob p.1 (.dx p.2.1 p.2.2)} L
section
variable {P:Program}{w0:Cx}{w w':World}{N:Nat}{s:AS}{a:Act}{E:En}{o:Oper}
theorem bM{base:Nat}{vals:List Value}{d:DV}{ds:List DV}{fs:List (List Nat)}(h:Gn w base vals (d::ds) fs):∃v vs f fs',vals=v::vs/\fs=f::fs'/\aR w base [v] [d] f/\Gn w base vs ds fs':=by
 cases vals with
 |nil=>exact h.elim
 |cons v vs=>cases fs with
  |nil=>exact h.elim
  |cons f fs=>exact⟨v,vs,f,fs,rfl,rfl,h.1,h.2⟩
theorem mf{base:Nat}{vals:List Value}{fs:List (List Nat)}(h:Gn w base vals [] fs):vals=[]/\fs=[]:=by
 cases vals with
 |cons=>exact h.elim
 |nil=>cases fs with
  |cons=>exact h.elim
  |nil=>grind
theorem B6:∀{L:List (Nat×Nat×DV)} {s:AS},(fx s L).sl=s.sl/\(fx s L).n=s.n/\(fx s L).c=s.c
 |[],s=>⟨rfl,rfl,rfl⟩
 |p::L,s=>by obtain⟨h1,h2,h3⟩:=B6 (L:=L) (s:={s with ob:=upd s.ob p.1 (.dx p.2.1 p.2.2)});exact⟨h1,h2,h3⟩
theorem Bh:∀{L:List (Nat×Nat×DV)} {s:AS} (j:Nat),(∃p∈L,p.1=j/\(fx s L).ob j=.dx p.2.1 p.2.2)\/((∀p∈L,p.1≠j)/\(fx s L).ob j=s.ob j)
 |[],s,j=>.inr ⟨by simp,rfl⟩
 |p::L,s,j=>by
  rcases Bh (L:=L) (s:={s with ob:=upd s.ob p.1 (.dx p.2.1 p.2.2)}) j with⟨q,hq,h1,h2⟩|⟨h1,h2⟩
  ·exact .inl ⟨q,List.mem_cons_of_mem _ hq,h1,h2⟩
  ·by_cases e:p.1=j
   ·subst e;refine .inl ⟨p,List.mem_cons_self ..,rfl,?_⟩;rw[fx,h2];grind[af]
   ·refine .inr ⟨λq hq=>?_,?_⟩
    ·grind
    simp_all[fx,aJ,Ne.symm]
theorem MJ(h:aH w0 N s a w E){L:List (Nat×Nat×DV)}(hb:GP w0 w')(hsz:w.heap.size<=w'.heap.size)(hblk:∀b,b<w.heap.size->(∀p∈L,b∉E.m p.1)->w'.heap[b]? =w.heap[b]?)
 (hL:∀p∈L,p.1<s.n/\(∃x,s.ob p.1=.dx p.2.1 x)/\aR w' 0 [E.v p.1] [p.2.2] (E.m p.1)):aH w0 N (fx s L) a w' E:=by
 obtain⟨e1,e2,e3⟩:=B6 (L:=L) (s:=s)
 have hlv:(fx s L).lv=s.lv:=by
  funext j;unfold AS.lv;rw[e2];rcases Bh (L:=L) (s:=s) j with⟨p,hp,h1,h2⟩|⟨h1,h2⟩
  ·obtain⟨_,⟨x,hx⟩,_⟩:=hL p hp;rw[h2,<-h1,hx];rfl
  grind
 have hAb:∀b,E.A b->w'.heap[b]? =w.heap[b]?:=λb hbA=>hblk b (h.A_lt b hbA) (λp hp=>h.A_m b hbA p.1 (hL p hp).1)
 have hst:ft w E s.lv s.c w' E (fx s L).lv (fx s L).c:=by
  rw[hlv,e3];exact⟨λb hbA=>⟨hbA,hAb b hbA⟩,λi st _ h=>⟨h,rfl⟩,Nat.le_refl _⟩
 refine⟨h.size,h.defers,hb,λj hj=>?_,λt=>by rw[e1];exact(h.slot t).stay hst,λb hbA=>Nat.lt_of_lt_of_le (h.A_lt b hbA) hsz,by rw[e2];exact h.A_m,by rw[e2];exact h.A_o,by rw[e2];exact h.mm,by rw[e2];exact h.oo,
  by rw[e2];exact λi hi b hbm=>Nat.lt_of_lt_of_le (h.m_lt i hi b hbm) hsz,h.anc,by rw[e2];exact h.mF,by rw[e2];exact h.oF⟩
 rw[e2]at hj;rcases Bh (L:=L) (s:=s) j with⟨p,hp,h1,h2⟩|⟨h1,h2⟩
 ·subst h1;rw[h2];obtain⟨_,⟨x,hx⟩,ho⟩:=hL p hp;have hO:=h.obj p.1 hj;rw[hx]at hO;exact⟨by rw[e3];exact hO.1,hO.2.1,ho⟩
 ·rw[h2];refine(h.obj j hj).stay hst rfl rfl rfl (λb hbm=>hblk b (h.m_lt j hj b hbm) (λp hp hbp=>h.mm j p.1 hj (hL p hp).1 (λe=>h1 p hp e.symm) b hbm hbp)) (λb hbo=>h.A_o j hj b hbo)
theorem zK(h:aH w0 N s a w E):∀{cs:List AC} {ds ds':List DV} {L:List (Nat×Nat×DV)} {vals:List Value},VV s cs ds ds' L->(L.map (·.1)).Nodup->aD w E s.lv s.c cs vals->
 ∃fs,Gn w 0 vals ds fs/\fs.flatten=(L.map λp=>E.m p.1).flatten/\fs.flatten.Nodup/\(∀p∈L,p.1<s.n/\∃x,s.ob p.1=.dx p.2.1 x)/\
  ∀w',Gn w' 0 vals ds' fs->∀p∈L,aR w' 0 [E.v p.1] [p.2.2] (E.m p.1)
 |[],[],[],[],vals,_,_,hc=>by rw[hc.nil'];exact⟨[],trivial,rfl,by simp,by simp,by simp⟩
 |.d y::cs,x::ds,z::ds',L,vals,hm,hnd,hc=>by
  obtain⟨⟨v,rfl,rfl,rfl⟩,hm⟩:=hm;obtain⟨u,us,rfl,c1,c2⟩:=hc.cons';obtain⟨fs,h1,h2,h3,h4,h5⟩:=zK h hm hnd c2;obtain⟨rfl,hs⟩:=aL.scOf c1
  exact⟨[]::fs,⟨.sc hs .nil,h1⟩,by assumption,by assumption,h4,λw' hw=>h5 w' hw.2⟩
 |.nil::cs,x::ds,z::ds',L,vals,hm,hnd,hc=>by
  obtain⟨⟨t,k,hk,rfl,rfl⟩,hm⟩:=hm;obtain⟨u,us,rfl,c1,c2⟩:=hc.cons';obtain⟨fs,h1,h2,h3,h4,h5⟩:=zK h hm hnd c2;obtain rfl:u=.slice none 0 0:=c1;refine⟨[]::fs,⟨?_,h1⟩,by assumption,by assumption,h4,λw' hw=>h5 w' hw.2⟩;have:=aR.sl (w:=w) (base:=0) (v:=.slice none 0 0) (t:=t) (k:=k) (es:=[]) (cells:=[]) (g:=[]) (vs:=[]) (ds:=[]) (f:=[]) (World.ownsRow_nil _ _ _ _) hk (by simp) .nil .nil (by grind)
  assumption
 |.own i st::cs,x::ds,z::ds',p::L,vals,hm,hnd,hc=>by
  obtain⟨hi,rfl,hm⟩:=hm;obtain⟨u,us,rfl,c1,c2⟩:=hc.cons';obtain⟨hin,hob,hlv⟩:=am hi;rw[List.map_cons,List.nodup_cons]at hnd;obtain⟨fs,h1,h2,h3,h4,h5⟩:=zK h hm hnd.2 c2;obtain rfl:u=E.v i:=c1.2 hlv;have hO:=h.obj i hin;rw[hob]at hO;have ho:aR w 0 [E.v i] [x] (E.m i):=hO.2.2;refine⟨E.m i::fs,⟨ho,h1⟩,by grind,?_,?_,?_⟩
  ·rw[List.flatten_cons];refine List.nodup_append.2 ⟨ho.nodup,h3,λb hb b' hb' e=>?_⟩;subst e;rw[h2]at hb';obtain⟨m',hm',hbm⟩:=List.mem_flatten.1 hb';obtain⟨q,hq,rfl⟩:=List.mem_map.1 hm';exact h.mm i q.1 hin (h4 q hq).1 (λe=>hnd.1 (List.mem_map.2 ⟨q,hq,e.symm⟩)) b hb hbm
  ·grind
  ·intro w' hw q hq;rcases List.mem_cons.1 hq with rfl|hq
   ·exact hw.1
   ·exact h5 w' hw.2 q hq
theorem Ii{K:AS->Prop}{f:FuncId}{X Y:Operand}{ts:Array TypeId}{b:Bool}{cs:List AC}{ds ds':List DV}{k k':Int}{L:List (Nat×Nat×DV)}(ho:o.op=.call ⟨.value (.func f),#[X,Y],ts⟩)(hd:dB N o.dst=true)(hm:jb P f b ds k ds' k')
 (hX:s.ev X=.p b cs) (hY:s.ev Y=.p false [.d (.sc (.int .i64 k))]) (hL:VV s cs ds ds' L) (hnd:(L.map (·.1)).Nodup) (hk:K ((fx s L).put o.dst (.p false [.d (.sc (.int .i64 k'))]))):rB P N o K s:=by
 refine⟨_,?_,hk⟩;intro w0 a w E h;have eX:=aP h X;have eY:=aP h Y;rw[hX]at eX;rw[hY]at eY;have eY:=bA eY;obtain⟨vals,hp,hc⟩:=gU (show cM w E s.lv s.c b cs _ from eX);obtain⟨fs,g1,g2,g3,g4,g5⟩:=zK h hL hnd hc;unfold Oper.wp;rw[lU ho hm.1,Oper.upon_enter];have e:(#[X,Y].toList.map a.eval).toArray=#[a.eval X,.int .i64 k]:=by grind
 rw[e];refine(hm.2 w 0 _ vals fs hp g1 g3).mono ?_;rintro e w' ⟨rfl,g6,g7⟩;simp only
 have hmem:∀c,(∀p∈L,c∉E.m p.1)->c∉fs.flatten:=by
  grind
 have hrep:=MJ (w':=w') (L:=L) h ?_ g7.size (λc hc1 hc2=>g7.block c hc1 (hmem c hc2)) (λp hp=>⟨(g4 p hp).1,(g4 p hp).2,g5 w' g6 p hp⟩)
 ·exact⟨E,hrep.put (bX trivial) (cn hd)⟩
 ·refine⟨g7.os.trans h.bel.os,g7.tape.trans h.bel.tape,g7.output.trans h.bel.output,Nat.le_trans h.bel.size g7.size,λc hc1=>?_⟩;refine(g7.block c (Nat.lt_of_lt_of_le (Cx.lt hc1) h.bel.size) (hmem c λp hp hcp=>?_)).trans (h.bel.block c hc1);exact hc1 (h.mF p.1 (g4 p hp).1 c hcp)
end
attribute[go_sem] fx.eq_1 fx.eq_2
end Go.Proofs.YtliknccmjjncbaaGreat
namespace Go.Proofs.YtliknccmjjncbaaGreat
open Go.RowKit
def F8(Q:Exit->AS->Prop):Exit->AS->Prop
 |.normal,s=>Q .normal s
 |_,_=>False
def km(md:Region.Mode)(ops:Array Oper)(listed:Array Bool):Prop:=∀k ok,ops[k]? =some ok->listed.getD k false=true->∀e∈ok.after,Region.binds md e=true->listed.getD e.on false=true
section
variable {P:Program}{md:Region.Mode}{Q:Exit->Act->World->Prop}{l:List Oper}
end
end Go.Proofs.YtliknccmjjncbaaGreat
namespace Go.Proofs.YtliknccmjjncbaaGreat
open Go.RowKit
def FH:Op->Bool
 |.move _|.extract _ _|.binOp _ _ _ _ _|.unOp _ _ _|.fieldAddr _ _ _|.indexAddr _ _ _=>true
 |.assign _|.slice _ _ _ _ none|.nilCheck _=>true
 |.call ⟨.builtin .max,_,_⟩|.call ⟨.builtin .min,_,_⟩|.call ⟨.builtin .len,_,_⟩=>true
 |_=>false
def YZ:Op->Bool
 |.load _ (.tmp _)=>true
 |_=>false
theorem QL{P:Program}{w0:Cx}{w:World}{N:Nat}{s:AS}{a:Act}{E:En}(h:aH w0 N s a w E){t:TypeId}{f:Nat}{y x:AV}{v:Value}(hx:P0 P s t f y=some x)(hy:bi w E s.lv s.c y v):∃u,∀w',(Instr.fieldAt t v f).run P w'=.ok u w':=by
 unfold P0 at hx;split at hx
 ·rename_i fo k ag hf;split at hx
  ·rename_i hk;split at hx
   ·rename_i i st off;split at hx
    ·rename_i hs;obtain⟨ob,ho⟩:=Option.isSome_iff_exists.1 hs;obtain⟨hi,ho,hl⟩:=am ho;obtain⟨g,e1,rfl⟩:=(aE hy).2 hl;exact⟨_,λw'=>oG P hf hk⟩
    grind
   ·rename_i i st k' j off;split at hx
    ·rename_i hs;obtain⟨ob,ho⟩:=Option.isSome_iff_exists.1 hs;obtain⟨hi,ho,hl⟩:=am ho;obtain⟨g,n,cp,e1,rfl⟩:=(aE hy).2 hl;exact⟨_,λw'=>oG P hf hk⟩
    grind
   ·rename_i cs;obtain⟨b,off,vals,rfl,_⟩:=aE hy;exact⟨_,λw'=>oG P hf hk⟩
   ·rename_i i st;split at hx
    ·rename_i ob id t' x' cs' ho;obtain⟨hi,ho,hl⟩:=am ho;have h1:=h.obj i hi;rw[ho]at h1;obtain⟨g,u',_,e2,_⟩:=h1;have e1:=(aE hy).2 hl;rw[e2]at e1;subst e1;exact⟨_,λw'=>oG P hf hk⟩
    grind
   grind
  grind
 grind
theorem Ls{P:Program}{w0:Cx}{w:World}{N:Nat}{s:AS}{a:Act}{E:En}(h:aH w0 N s a w E){t:TypeId}{c:AC}{i:Int}{ki:IntKind}{x:AV}{v:Value}(hx:tJ P s t c i=some x)(hy:dw w E s.lv s.c c v):
 ∃u,∀w',(Instr.indexAt t v (.int ki i)).run P w'=.ok u w':=by
 unfold tJ at hx;split at hx
 ·rename_i hi0;obtain⟨j,rfl⟩:=Int.eq_ofNat_of_zero_le hi0;simp only[Int.toNat_natCast]at hx;split at hx
  ·rename_i el k' t' k es ht;split at hx
   ·rename_i hk;subst hk;split at hx
    ·rename_i e he;injection hx with hx;subst hx;obtain⟨b,off,cp,vals,rfl,hj,hA,h0,h1,hr,hat⟩:=aL.elem hy he;exact⟨_,λw'=>lw P ht hj⟩
    grind
   grind
  ·rename_i el k' id st ht;split at hx
   ·rename_i st' t' k es dp ho;obtain⟨hi,ho,hl⟩:=am ho;split at hx
    ·rename_i hk;obtain⟨rfl,hj⟩:=hk;injection hx with hx;subst hx;obtain⟨g,n,cp,vals,e1,_,_,e2⟩:=pZ h hi ho (List.getElem?_eq_getElem hj);subst e2;have:=hy.2 hl;subst this;rw[e1];exact⟨_,λw'=>lw P ht hj⟩
    grind
   ·rename_i st' t' k es ho;obtain⟨hi,ho,hl⟩:=am ho;split at hx
    ·rename_i hk;obtain⟨rfl,hj⟩:=hk;injection hx with hx;subst hx;obtain⟨g,n,cp,vals,e1,_,_,e2⟩:=AE h hi ho (List.getElem?_eq_getElem hj);subst e2;have:=hy.2 hl;subst this;rw[e1];exact⟨_,λw'=>lw P ht hj⟩
    grind
   ·rename_i st' t' k es ho;obtain⟨hi,ho,hl⟩:=am ho;split at hx
    ·rename_i hk;subst hk;split at hx
     ·rename_i e he;injection hx with hx;subst hx;have:=hy.2 hl;subst this;obtain⟨b,off,cp,vals,e1,hj,hA,h0,h1,hr,hat⟩:=aL.elem (xB h hi ho) he;rw[e1];exact⟨_,λw'=>lw P ht hj⟩
     grind
    grind
   grind
  ·rename_i el k' id st k lo n ht;split at hx
   ·rename_i st' t' k2 es dp ho;obtain⟨hi,ho,hl⟩:=am ho;split at hx
    ·rename_i hk;obtain⟨rfl,rfl,hj⟩:=hk;injection hx with hx;subst hx;obtain⟨A,M,cp,B,e1,e2,rfl,e4,e5⟩:=hy.2 hl;have h1:=h.obj id hi;rw[ho]at h1;obtain⟨cells,_,h2,h3,_⟩:=h1;obtain⟨A',c',e6,e7,e8⟩:=ba h2
     have hpos:0<es.length:=by
      rw[e1]at e6;grind
     obtain⟨g,n',cp',vals,e9,_⟩:=pZ h hi ho (List.getElem?_eq_getElem hpos);rw[e1]at e9;injection e9 with g1 g2 g3;subst g1;have hn:0<n:=by omega
     rw[e5 hn,Option.map_some,mi];exact⟨_,λw'=>lw P ht hj⟩
    grind
   grind
  grind
 grind
theorem Hd{P:Program}{w0:Cx}{w:World}{N:Nat}{s:AS}{a:Act}{E:En}{o:Oper}{x:AV}(hf:FH o.op=true)(hx:hV P s o.op=some x)(h:aH w0 N s a w E):∃v,∀w',(execOp a.eval o).run P w'=.ok (.value v) w':=by
 cases ho:o.op with
 |move y=>exact⟨a.eval y,λw'=>by simp[execOp,ho]⟩
 |assign y=>exact⟨a.eval y,λw'=>by simp[execOp,ho]⟩
 |nilCheck y=>
  rw[ho]at hx;simp only[hV]at hx;have e:=aP h y;unfold TF at hx;split at hx
  ·rename_i i st hy;split at hx
   ·rename_i ob id t' x' cs' hob;obtain⟨hi,hob,hl⟩:=am hob;rw[hy]at e;have h1:=h.obj i hi;rw[hob]at h1;obtain⟨g,u',_,e2,_⟩:=h1;have e1:=(aE e).2 hl;rw[e2]at e1;exact⟨a.eval y,λw'=>by simp[execOp,ho,e1]⟩
   grind
  ·rename_i i st off hy;split at hx
   ·rename_i hs;obtain⟨ob,hob⟩:=Option.isSome_iff_exists.1 hs;rw[hy]at e;obtain⟨g,_,e1⟩:=(aE e).2 (am hob).2.2;exact⟨a.eval y,λw'=>by simp[execOp,ho,e1]⟩
   grind
  ·rename_i i st k j off hy;split at hx
   ·rename_i hs;obtain⟨ob,hob⟩:=Option.isSome_iff_exists.1 hs;rw[hy]at e;obtain⟨g,n,cp,_,e1⟩:=(aE e).2 (am hob).2.2;exact⟨a.eval y,λw'=>by simp[execOp,ho,e1]⟩
   grind
  grind
 |extract y ix=>
  rw[ho]at hx;simp only[hV]at hx;have e:=aP h y;unfold Mz at hx;split at hx
  ·rename_i xs hxs;split at hx
   ·rename_i b cs hb;rw[hxs]at e;obtain⟨vs,e1,hl,hr⟩:=e;have hlt:ix<vs.length:=by rw[<-hl];grind
    exact⟨vs[ix],λw'=>by simp[execOp,ho,e1,Instr.extract,hlt]⟩
   grind
  grind
 |binOp op t y z ty=>
  rw[ho]at hx;simp only[hV]at hx;unfold Ic at hx;split at hx
  ·rename_i v0 hx0;unfold F3 at hx0;split at hx0
   ·rename_i p q h3 h4;split at hx0
    ·rename_i v hb;have e1:=aP h y;have e2:=aP h z;rw[h3]at e1;rw[h4]at e2;have e1:=bA e1;have e2:=bA e2;refine⟨v,λw'=>?_⟩;obtain⟨h5,h6⟩:=Jm hb y z w';simp only[execOp,ho,e1,e2];rw[Sem.run_bind,h5];rfl
    grind
   grind
  ·obtain⟨r,r1,rfl,r3⟩:=NA hx (aP h y) (aP h z) y z;refine⟨r,λw'=>?_⟩;simp only[execOp,ho]
   rw[Sem.run_bind,r3 w'];rfl
 |unOp op t y=>
  rw[ho]at hx;simp only[hV]at hx;unfold VU at hx;split at hx
  ·rename_i p h3;split at hx
   ·rename_i v hb;have e1:=aP h y;rw[h3]at e1;have e1:=bA e1;refine⟨v,λw'=>?_⟩;obtain⟨h5,h6⟩:=Lr (P:=P) hb w';simp[execOp,ho,e1,h5]
   grind
  grind
 |slice t y lo hi m=>
  rw[ho]at hf hx
  cases m with
  |some=>cases hf
  |none=>
   simp only[hV]at hx;split at hx
   ·rename_i l r h3 h4;obtain⟨u,h1,-⟩:=JS h h3 h4 hx (aP h y);exact⟨u,λw'=>by simp[execOp,ho,h1]⟩
   grind
 |fieldAddr t y f=>
  rw[ho]at hx;simp only[hV]at hx;obtain⟨u,hu⟩:=QL h hx (aP h y)
  exact⟨u,λw'=>by simp[execOp,ho,hu w']⟩
 |indexAddr t y ix=>
  rw[ho]at hx;simp only[hV]at hx;split at hx
  ·rename_i c ki i h1 h2;have e1:=aP h y;have e2:=aP h ix;rw[h1]at e1;rw[h2]at e2;have e2:=bA e2;obtain⟨u,hu⟩:=Ls (ki:=ki) h hx (aE e1);exact⟨u,λw'=>by simp[execOp,ho,e2,hu w']⟩
  grind
 |call c=>
  obtain⟨ce,args,ts⟩:=c;rw[ho]at hf hx
  have key:∀(mx:Bool) (y z:Operand),Su mx (s.ev y) (s.ev z)=some x->∃(k:IntKind) (b c:Int),a.eval y=.int k b/\a.eval z=.int k c:=by
   intro mx y z hx;unfold Su at hx;split at hx
   ·rename_i k b k' c g1 g2;split at hx
    ·rename_i e;subst e;have e1:=aP h y;have e2:=aP h z;rw[g1]at e1;rw[g2]at e2
     grind[bA]
    grind
   grind
  cases ce with
  |builtin bt=>
   cases bt
   case len=>
    simp only[hV]at hx;unfold tu at hx;split at hx
    ·rename_i y t h1 h2 h3;obtain rfl:args=#[y]:=by grind
     obtain rfl:ts=#[t]:=by grind
     split at hx
     ·rename_i c h4;split at hx
      ·rename_i n h5;have e1:=aP h y;rw[h4]at e1;exact⟨.int .i64 (n:Int),λw'=>by simp[execOp,ho,resolve,invoke,builtin,Gt (ty:=o.type) h h5 (aE e1) w']⟩
      grind
     grind
    ·grind
    ·grind
    grind
   case max=>
    simp only[hV]at hx;unfold tu at hx;split at hx
    ·grind
    ·rename_i y z _ h2;obtain rfl:args=#[y,z]:=by grind
     obtain⟨k,b,c,e1,e2⟩:=key _ _ _ hx;exact⟨_,λw'=>by simp[execOp,ho,resolve,invoke,builtin,e1,e2,run_max_int2];rfl⟩
    ·grind
    grind
   case min=>
    simp only[hV]at hx;unfold tu at hx;split at hx
    ·grind
    ·grind
    ·rename_i y z _ h2;obtain rfl:args=#[y,z]:=by grind
     obtain⟨k,b,c,e1,e2⟩:=key _ _ _ hx;exact⟨_,λw'=>by simp[execOp,ho,resolve,invoke,builtin,e1,e2,run_min_int2];rfl⟩
    grind
   all_goals cases hf
  |value _=>cases hf
  |invoke _ _=>cases hf
 |_=>rw[ho]at hf;cases hf
def PM(i:Nat):Edge:=⟨i,.data⟩
def bQ(l:List Oper)(n:Nat)(F:List Nat):List Oper:=match l[n]? with|some o=>l.set n {o with after:=o.after++(F.map PM).toArray}|none=>l
section
variable {P:Program}{md:Region.Mode}{Q:Exit->Act->World->Prop}{l:List Oper}{n:Nat}{F:List Nat}
theorem oJ{k:Nat}(h:k≠n):(bQ l n F)[k]? =l[k]?:=by
 grind[bQ]
theorem vN{o:Oper}(h:l[n]? =some o):(bQ l n F)[n]? =some {o with after:=o.after++(F.map PM).toArray}:=by
 grind[bQ,List.getElem?_set_self,List.getElem?_eq_some_iff]
theorem Kh:(bQ l n F).length=l.length:=by
 grind[bQ]
theorem Ji{k:Nat}{K:Act->World->Prop}{a:Act}{w:World}:wpOp P (bQ l n F).toArray Q k K a w=wpOp P l.toArray Q k K a w:=by
 have hy:∀t,yielded (bQ l n F).toArray t=yielded l.toArray t:=by
  intro t;funext g;unfold yielded
  grind[bQ,vN,oJ]
 unfold wpOp;by_cases h:k=n
 ·subst h
  cases ho:l[k]? with
  |none=>
   have:bQ l k F=l:=by grind[bQ]
   rw[this]
  |some o=>
   have h1:(bQ l k F).toArray[k]? =some {o with after:=o.after++(F.map PM).toArray}:=by grind[vN]
   have h2:l.toArray[k]? =some o:=by grind
   rw[h1,h2];simp only[hy];rfl
 grind[bQ,oJ]
theorem mq{k:Nat}{listed:Array Bool}(hk:k∈Region.ready md l.toArray listed)(hF:k=n->∀i∈F,listed.getD i false=true):k∈Region.ready md (bQ l n F).toArray listed:=by
 rw[mem_ready]at hk ⊢;obtain⟨h0,o,ho,hall⟩:=hk;refine⟨h0,?_⟩;by_cases h:k=n
 ·subst h;have ho':l[k]? =some o:=by grind
  refine⟨_,by simpa using vN (F:=F) ho',λe1 he1 hb=>?_⟩;simp only[Array.mem_append,List.mem_toArray,List.mem_map]at he1;rcases he1 with he1|⟨i,hi,rfl⟩
  ·grind
  ·exact hF rfl i hi
 grind[oJ]
theorem CD{k:Nat}{listed:Array Bool}(hk:k∈Region.ready md (bQ l n F).toArray listed):k∈Region.ready md l.toArray listed:=by
 rw[mem_ready]at hk ⊢
 grind[bQ,PM,vN,oJ]
def PL(md:Region.Mode)(l:List Oper)(n:Nat)(F:List Nat)(i:Nat)(e1:Edge):Bool:=
 (F.contains e1.on&&decide (e1.on<i))||(match l[n]? with
  |some o=>o.after.toList.any λe2=>Region.binds md e2&&(decide (e2.on=e1.on)||(match l[e2.on]? with|some o2=>o2.after.toList.any λe3=>Region.binds md e3&&decide (e3.on=e1.on)|none=>false))
  |none=>false)
def Hr(l:List Oper)(n:Nat)(F:List Nat):Bool:=
 Region.noSelect l.toArray&&(decide (n<l.length)&&F.all λi=>decide (i<n)&&(match l[i]? with
  |some oi=>oi.guard.isNone&&((FH oi.op||YZ oi.op)&&((oi.after.toList.all λe1=>!Region.binds .any e1||PL .any l n F i e1)&&
   ((List.range l.length).all λk=>decide (k=i)||(match l[k]? with|some ok=>(ok.after.toList.any λe=>Region.binds .any e&&decide (e.on=i))||((oi.after.toList.any λe=>Region.binds .any e&&decide (e.on=k))||oi.apart l.toArray ok)|none=>true))))
  |none=>false))
def JF(P:Program)(l:List Oper)(F:List Nat)(m:Nat)(S:World->Prop)(listed:Array Bool)(a:Act)(w:World):Prop:=(listed.getD m false=false->S w)/\∀i oi,i∈F->l[i]? =some oi->i∈Region.ready .any l.toArray listed->∃v,∀w,(FH oi.op=true\/S w)->(execOp a.eval oi).run P w=.ok (.value v) w
def Bv(P:Program)(md:Region.Mode)(ops:Array Oper)(Q:Exit->Act->World->Prop)(m:Nat)(S:World->Prop):Nat->Array Bool->Act->World->Prop
 |0,listed,a,w=>Region.ready md ops listed=[]/\Q .normal a w
 |fuel+1,listed,a,w=>(Region.ready md ops listed=[]->Q .normal a w)/\
  ∀i∈Region.ready md ops listed,wpOp P ops Q i (λa' w'=>((listed.setIfInBounds i true).getD m false=false->S w')/\Bv P md ops Q m S fuel (listed.setIfInBounds i true) a' w') a w
theorem AL{ops:Array Oper}{m:Nat}{S:World->Prop}:∀(fuel:Nat) (listed:Array Bool) (a:Act) (w:World),Bv P md ops Q m S fuel listed a w->wpAny P md ops Q fuel listed a w
 |0,_,_,_,h=>h
 |fuel+1,_,_,_,h=>⟨h.1,λi hi=>wpOp_mono (λa' w' h'=>AL fuel _ a' w' h'.2) (h.2 i hi)⟩
theorem rN{ops:Array Oper}{listed:Array Bool}{k:Nat}(hc:km md ops listed)(hk:k∈Region.ready md ops listed):km md ops (listed.setIfInBounds k true):=by
 intro k' ok' hok' hl e1 he1 hb;by_cases h:k'=k
 ·subst h;rw[mem_ready]at hk;obtain⟨_,o,ho,hall⟩:=hk;have:o=ok':=Option.some.inj (ho.symm.trans hok');subst this;exact getD_set_true (hall e1 he1 hb)
 ·rw[getD_set_ne false (Ne.symm h)]at hl;exact getD_set_true (hc k' ok' hok' hl e1 he1 hb)
theorem Ef{ops:Array Oper}{m i:Nat}{S Si:World->Prop}{oi:Oper}{v:Value}(hi:ops[i]? =some oi)(hsel:∀(j:Nat) (o:Oper) cs b,ops[j]? =some o->o.op≠.select cs b)
 (hQ:∀c a w,Q (.panic c) (a.put oi.dst v) w->Q (.panic c) a w) (hmi:m≠i)
 (hc:∀listed w,km md ops listed->listed.size=ops.size->listed.getD i false=false->(listed.getD m false=false->S w)->Si w):
 ∀(fuel:Nat) (listed:Array Bool) (a:Act) (w:World),km md ops listed->listed.size=ops.size->
  (∀j oj,ops[j]? =some oj->j≠i->listed.getD j true=false->(∀e∈oj.after,Region.binds md e=true->e.on≠i)->oi.apart ops oj=true)->
  i∈Region.ready md ops listed->YieldsIf P ops Si oi v a->(listed.getD m false=false->S w)->
  Bv P md ops Q m S fuel (listed.setIfInBounds i true) (a.put oi.dst v) w->Bv P md ops Q m S (fuel+1) listed a w:=by
 have hun:∀(listed:Array Bool),i∈Region.ready md ops listed->listed.getD i false=false:=λlisted hr=>by
  have:=(mem_ready.1 hr).1;rcases Nat.lt_or_ge i listed.size with h|h
  ·simpa[h]using this
  ·simp[Array.getElem?_eq_none h]
 have g0:∀(listed:Array Bool),(listed.setIfInBounds i true).getD m false=listed.getD m false:=λlisted=>getD_set_ne false (Ne.symm hmi)
 intro fuel
 induction fuel with
 |zero=>
  intro listed a w hcl hsz _ hr hy hS H;refine⟨λh=>(by rw[h]at hr;cases hr),λj hj=>?_⟩;by_cases hji:j=i
  ·subst hji;exact hy.wpOp hi (hc _ _ hcl hsz (hun _ hr) hS) ⟨λh=>hS (by rw[g0]at h;exact h),H⟩
  ·have:=ready_mono hj hji;rw[H.1]at this
   cases this
 |succ fuel ih=>
  intro listed a w hcl hsz hfree hr hy hS H;refine⟨λh=>(by rw[h]at hr;cases hr),λj hj=>?_⟩;by_cases hji:j=i
  ·subst hji;exact hy.wpOp hi (hc _ _ hcl hsz (hun _ hr) hS) ⟨λh=>hS (by rw[g0]at h;exact h),H⟩
  ·have h1:=H.2 j (ready_mono hj hji);obtain⟨hjun,oj,hoj,hall⟩:=mem_ready.1 hj
   have hnot:∀e∈oj.after,Region.binds md e=true->e.on≠i:=λe he hb heq=>by
    have h1:=hall e he hb;rw[heq,hun _ hr]at h1;cases h1
   have h2:=wpOp_putIf hoj (hfree j oj hoj hji hjun hnot) (λcs b=>hsel i oi cs b hi) (λcs b=>hsel j oj cs b hoj) hQ hy h1;refine wpOp_mono (λa' w' h3=>?_) h2
   have h4:((listed.setIfInBounds j true).getD m false=false->S w'):=λh=>h3.2.1 (by
    rw[Array.setIfInBounds_comm _ _ (Ne.symm hji),g0];exact h)
   refine⟨h4,ih (listed.setIfInBounds j true) a' w' (rN hcl hj) (by simpa using hsz) (λk ok hk hki hun hno=>?_) (ready_mono hr (Ne.symm hji)) h3.1 h4 ?_⟩
   ·refine hfree k ok hk hki ?_ hno;by_cases hjk:j=k
    ·subst hjk;exact hjun
    ·rw[getD_set_ne true hjk]at hun;exact hun
   ·rw[Array.setIfInBounds_comm _ _ hji];exact h3.2.2
def Yd(l:List Oper)(m i:Nat):Bool:=match l[m]? with
 |some om=>om.after.toList.any λe=>Region.binds .any e&&(decide (e.on=i)||(match l[e.on]? with|some o2=>o2.after.toList.any λe2=>Region.binds .any e2&&decide (e2.on=i)|none=>false))
 |none=>true
theorem UN{m i:Nat}(h:Yd l m i=true){listed:Array Bool}(hc:km .any l.toArray listed)(hs:listed.size=l.length)(hi:listed.getD i false=false):listed.getD m false=false:=by
 cases hm:listed.getD m false with
 |false=>rfl
 |true=>
  unfold Yd at h;split at h
  ·rename_i om hom;obtain⟨e,he,hb⟩:=List.any_eq_true.1 h;simp only[Bool.and_eq_true,Bool.or_eq_true,decide_eq_true_eq]at hb;have h1:=hc m om (by simpa using hom) hm e (by simpa using he) hb.1;rcases hb.2 with h2|h2
   ·rw[h2,hi]at h1;cases h1
   ·split at h2
    ·rename_i o2 ho2;obtain⟨e2,he2,hb2⟩:=List.any_eq_true.1 h2;simp only[Bool.and_eq_true,decide_eq_true_eq]at hb2;have h3:=hc e.on o2 (by simpa using ho2) h1 e2 (by simpa using he2) hb2.1;rw[hb2.2,hi]at h3;cases h3
    ·cases h2
  ·rename_i hom;have:l.length<=m:=List.getElem?_eq_none_iff.1 hom;rw[Array.getD_eq_getD_getElem?,Array.getElem?_eq_none (by omega)]at hm;cases hm
theorem LR{ops:Array Oper}{J:Array Bool->Act->World->Prop}{listed:Array Bool}{a:Act}{w:World}:∀{fuel:Nat},fI P md ops Q J fuel listed a w->J listed a w
 |0,h=>h.1
 |_+1,h=>h.1
theorem In{S:World->Prop}{m:Nat}(hE:Hr l n F=true)(hQ:∀e a w,e≠.normal->¬Q e a w)(hnm:n<=m)(hm:∀i∈F,∀oi,l[i]? =some oi->FH oi.op=true\/Yd l m i=true):
 ∀(fuel:Nat) (listed:Array Bool) (a:Act) (w:World),km .any l.toArray listed->listed.size=l.length->fI P .any (bQ l n F).toArray Q (JF P l F m S) fuel listed a w->Bv P .any l.toArray Q m S fuel listed a w:=by
 unfold Hr at hE;simp only[Bool.and_eq_true,decide_eq_true_eq,List.all_eq_true]at hE;obtain⟨hsel,hn,hF⟩:=hE
 have hFi:∀i∈F,∃oi,l[i]? =some oi/\i<n/\oi.guard=none/\(∀e1∈oi.after,Region.binds .any e1=true->PL .any l n F i e1=true)/\
  ∀k ok,l[k]? =some ok->k≠i->(∀e∈ok.after,Region.binds .any e=true->e.on≠i)->(∃e∈oi.after,Region.binds .any e=true/\e.on=k)\/oi.apart l.toArray ok=true:=by
  intro i hi;obtain⟨h1,h2⟩:=hF i hi;split at h2
  ·rename_i oi hoi;simp only[Bool.and_eq_true,List.all_eq_true]at h2;obtain⟨g1,g2,g3,g4⟩:=h2;refine⟨oi,hoi,h1,by simp_all,λe1 he hb=>?_,λk ok hk hne hno=>?_⟩
   ·have:=g3 e1 (by grind)
    grind
   grind
  grind
 have key:∀listed,km .any l.toArray listed->listed.size=l.length->n∈Region.ready .any l.toArray listed->∀(m i:Nat),i<=m->i∈F->listed.getD i false=false->∃i0∈F,i0∈Region.ready .any l.toArray listed:=by
  intro listed hc hs hr m;rw[mem_ready]at hr;obtain⟨h0,on,hon,hall⟩:=hr;have hon':l[n]? =some on:=by grind
  have dep:∀i oi e1,l[i]? =some oi->PL .any l n F i e1=true->listed.getD e1.on false=true\/(e1.on∈F/\e1.on<i):=by
   intro i oi e1 hoi hd;unfold PL at hd;simp only[Bool.or_eq_true,Bool.and_eq_true,decide_eq_true_eq,hon']at hd;rcases hd with⟨hd1,hd2⟩|hd
   ·grind
   ·left;obtain⟨e2,he2,hb⟩:=List.any_eq_true.1 hd;simp only[Bool.and_eq_true,Bool.or_eq_true,decide_eq_true_eq]at hb;have hl2:=hall e2 (by grind) hb.1;rcases hb.2 with h|h
    ·rw[<-h];omega
    ·split at h
     ·rename_i o2 ho2;obtain⟨e3,he3,hb3⟩:=List.any_eq_true.1 h;simp only[Bool.and_eq_true,decide_eq_true_eq]at hb3;rw[<-hb3.2];exact hc e2.on o2 (by grind) hl2 e3 (by grind) hb3.1
     grind
  induction m with
  |zero=>
   intro i him hi hun;obtain⟨oi,hoi,hin,hg,hdep,-⟩:=hFi i hi;refine⟨i,hi,mem_ready.2 ⟨getD_in (by rw[hs];omega) hun,oi,by grind,λe1 he1 hb=>?_⟩⟩
   grind
  |succ m ih=>
   intro i him hi hun;obtain⟨oi,hoi,hin,hg,hdep,-⟩:=hFi i hi;by_cases hall':∀e1∈oi.after,Region.binds .any e1=true->listed.getD e1.on false=true
   ·exact⟨i,hi,mem_ready.2 ⟨getD_in (by rw[hs];omega) hun,oi,by grind,hall'⟩⟩
   grind
 have hnF:∀i∈F,i≠n:=λi hi e=>by obtain⟨_,_,h,_⟩:=hFi i hi;omega
 intro fuel
 induction fuel with
 |zero=>
  rintro listed a w hc hs ⟨-,h1,h2⟩;refine⟨?_,h2⟩;rw[List.eq_nil_iff_forall_not_mem]at h1 ⊢;intro k hk;by_cases h:k=n
  ·subst h;by_cases hall:∀i∈F,listed.getD i false=true
   ·exact h1 k (mq hk λ_=>hall)
   ·simp only[Classical.not_forall]at hall;obtain⟨i,hi,hun⟩:=hall;obtain⟨i0,hi0,hr0⟩:=key listed hc hs hk i i (Nat.le_refl _) hi (by simpa using hun);exact h1 i0 (mq hr0 λe=>absurd e (hnF i0 hi0))
  ·exact h1 k (mq hk λe=>absurd e h)
 |succ fuel ih=>
  rintro listed a w hc hs ⟨⟨hS,hJ⟩,h1,h2⟩;by_cases hex:∃i,i∈F/\i∈Region.ready .any l.toArray listed
  ·obtain⟨i,hi,hr⟩:=hex;obtain⟨oi,hoi,hin,hg,-,hap⟩:=hFi i hi;have h3:=h2 i (mq hr λe=>absurd e (hnF i hi));rw[Ji]at h3;obtain⟨v,hv⟩:=hJ i oi hi hoi hr;have hSi:∀listed w,km .any l.toArray listed->listed.size=l.toArray.size->listed.getD i false=false->(listed.getD m false=false->S w)->(FH oi.op=true\/S w):=λlisted w hc hs hu hg=>(hm i hi oi hoi).imp id λh=>hg (UN h hc (by simpa using hs) hu)
   have hSw:=hSi listed w hc (by simpa using hs) (by
    have:=(mem_ready.1 hr).1;have hlt:i<listed.size:=by rw[hs];exact(List.getElem?_eq_some_iff.1 hoi).1
    simpa[hlt]using this) hS
   have hwt:Region.wanted oi (yielded l.toArray a.tmps)=true:=by simp[Region.wanted,hg]
   have hk:fI P .any (bQ l n F).toArray Q (JF P l F m S) fuel (listed.setIfInBounds i true) (a.put oi.dst v) w:=by
    unfold wpOp at h3;rw[show l.toArray[i]? =some oi from by simpa using hoi]at h3;simp only at h3;rw[if_pos hwt]at h3;rcases h3 with h3|⟨_,a',w',hq⟩
    ·unfold Oper.wp at h3;rw[hv w hSw,Oper.upon_value]at h3;exact h3
    ·exact absurd hq (hQ _ _ _ (by simp))
   refine Ef (Si:=λw=>FH oi.op=true\/S w) (by simpa using hoi) (Region.noSelect_spec hsel) (λc a w hq=>absurd hq (hQ _ _ _ (by simp))) (by omega) hSi fuel listed a w hc (by simpa using hs) (λk ok hok hne hunk hw=>by
    rcases hap k ok (by simpa using hok) hne hw with⟨e,he,hb,hk2⟩|h
    ·obtain⟨_,oi2,hoi2,hall2⟩:=mem_ready.1 hr;obtain rfl:oi2=oi:=Option.some.inj ((by simpa using hoi2:l[i]? =some oi2).symm.trans hoi);have h4:=hall2 e he hb;rw[hk2,getD_both hunk]at h4;cases h4
    ·exact h) hr (.inl ⟨hwt,hv⟩) hS ?_
   exact ih _ _ _ (rN hc hr) (by simpa using hs) hk
  ·have hre:∀k,k∈Region.ready .any l.toArray listed->k∈Region.ready .any (bQ l n F).toArray listed:=λk hk=>mq hk λh=>by
    subst h;intro i hi
    cases hli:listed.getD i false with
    |true=>rfl
    |false=>obtain⟨i0,h3,h4⟩:=key listed hc hs hk i i (Nat.le_refl _) hi hli;exact absurd ⟨i0,h3,h4⟩ hex
   refine⟨λh0=>h1 ?_,λk hk=>?_⟩
   ·rw[List.eq_nil_iff_forall_not_mem]at h0 ⊢;exact λk hk=>h0 k (CD hk)
   ·have h3:=h2 k (hre k hk);rw[Ji]at h3;exact wpOp_mono (λa' w' h=>⟨(LR h).1,ih _ _ _ (rN hc hk) (by simpa using hs) h⟩) h3
end
end Go.Proofs.YtliknccmjjncbaaGreat
namespace Go.Proofs.YtliknccmjjncbaaGreat
open Go.RowKit
section
variable {P:Program}{w0:Cx}{ws w w':World}{N m n:Nat}{s h H q q' qF:AS}{a:Act}{E:En}{o:Oper}{pr:Bool}{l:List Oper}{kds:List HK}{xs:List AV}{Q:Exit->AS->Prop}{F:List Nat}
theorem MN(hB:HH .any l n=true)(hnd:(dA (l.take n)).Nodup)(hh:ju P N pr l.toArray (l.take n) s s kds xs qF)(hw:w0.heap.size<=m)(hEm:∀i,i<s.n->∀b∈E.m i,b<m)
 {listed:Array Bool} {fs:Nat->List Nat} (inv:HeadInv .any l.toArray n listed) (hI:MG P w0 ws N m n s E l kds xs listed a w fs) {i:Nat} {oi:Oper} (hin:i<n) (hi:i∈Region.ready .any l.toArray listed) (hoil:l[i]? =some oi):
 aH w0 N {s with sl:=λt=>if(oi.looksAt l.toArray).contains t then(yG s (l.take i) xs).sl t else .und} a w (E.plus m w.heap.size (FQ n kds listed fs))/\
 cP (yG s (l.take i) xs) {s with sl:=λt=>if(oi.looksAt l.toArray).contains t then(yG s (l.take i) xs).sl t else .und} oi.op.operands.toList:=by
 obtain⟨hsel,hnl,hsink,hseq,hdep⟩:=mU hB;obtain⟨hkl,hxl⟩:=p9 hh;have htl:(l.take n).length=n:=by rw[List.length_take];omega
 rw[htl]at hkl hxl;obtain⟨hun,oi',hoi,hall⟩:=mem_ready.1 hi;obtain rfl:oi'=oi:=Option.some.inj ((by grind:l[i]? =some oi').symm.trans hoil);have htt:(l.take n).take i=l.take i:=by rw[List.take_take,Nat.min_eq_left (by omega)]
 have hlook:∀t∈oi'.looksAt l.toArray,bi w (E.plus m w.heap.size (FQ n kds listed fs)) s.lv s.c ((yG s (l.take i) xs).sl t) (a.tmps.getD t undef):=by
  intro t ht;by_cases hex:∃j oj,j<n/\l[j]? =some oj/\oj.dst=some t
  ·obtain⟨j,oj,hj,hoj,hdj⟩:=hex;obtain⟨hji,hwt⟩:=OY hB hin hoil hj hoj hdj ht
   have hlj:listed.getD j false=true:=by
    obtain⟨oi2,hoi2,e,he,hb,hon⟩:=Region.waitsFor_spec hwt;have:oi2=oi':=Option.some.inj (hoi2.symm.trans hoi)
    grind
   have hjx:j<xs.length:=by omega
   have hjk:j<kds.length:=by omega
   have hs:=(hI.fact j oj t _ _ hj hlj hoj hdj (List.getElem?_eq_getElem hjk) (List.getElem?_eq_getElem hjx)).2
   have hnd':(dA (l.take i)).Nodup:=by
    have:l.take n=l.take i++(l.take n).drop i:=by rw[<-htt,List.take_append_drop]
    rw[this]at hnd
    grind[dA,List.nodup_append]
   rw[Iv hnd' (by rw[List.getElem?_take,if_pos hji];omega) (List.getElem?_eq_getElem hjx) hdj];exact hs
  ·have hout:(yG s (l.take i) xs).sl t=s.sl t:=by
    refine zI λo ho hdo=>?_
    obtain⟨j,hj,rfl⟩:=List.mem_iff_getElem.1 ho;have hji:j<i:=by grind
    exact hex ⟨j,_,by omega,by rw[List.getElem?_eq_getElem (by have:=(List.getElem?_eq_some_iff.1 hoil).1;omega)],by rw[List.getElem_take]at hdo;omega⟩
   rw[hout];have:=hI.rep.slot t;simp only[df]at this
   rw[if_neg (by
    grind[List.contains_iff_mem,kE])]at this
   exact this.stay ⟨λb hb=>⟨.inl hb,rfl⟩,λi st _ h=>⟨h,rfl⟩,Nat.le_refl _⟩
 obtain⟨ha1,ha2,ha3⟩:=AW (l:=l.take i) (xs:=xs) (s:=s);refine⟨?_,ha1.symm,ha2.symm,λt ht=>?_⟩
 ·have hg:=Mr (Zp:=FQ n kds listed fs) hI.rep hw hEm
  have:=GN hg (sl':=λt=>if(oi'.looksAt l.toArray).contains t then(yG s (l.take i) xs).sl t else .und) (λt=>by
   split
   ·rename_i ht;exact hlook t (by grind)
   ·trivial)
  exact this
 ·have:t∈oi'.looksAt l.toArray:=List.mem_append_left _ (List.mem_filterMap.2 ⟨.tmp t,ht,rfl⟩)
  grind
def Q8(l:List Oper)(F:List Nat):Bool:=F.all λi=>match l[i]? with|some o=>FH o.op|none=>true
theorem He(n:Nat)(pr:Bool)(F:List Nat)(hE:Hr l n F=true)(hNL:Q8 l F=true)(hB:Ca (bQ l n F) n=true)(hh:ju P N pr (bQ l n F).toArray ((bQ l n F).take n) s s kds xs qF)
 (htail:lu P N (bQ l n F).toArray ((bQ l n F).drop n) (F8 Q) qF) {w0:Cx} {a:Act} {w:World} {E:En} (hr:aH w0 N s a w E):
 wpAny P .any l.toArray (AQ w0 N (F8 Q)) l.toArray.size (Array.replicate l.toArray.size false) a w:=by
 have hsz:l.toArray.size=(bQ l n F).length:=by simp[Kh]
 have hF:∀i∈F,∃oi,l[i]? =some oi/\i<n/\oi.guard=none/\FH oi.op=true:=by
  unfold Hr at hE;simp only[Bool.and_eq_true,decide_eq_true_eq,List.all_eq_true]at hE;intro i hi;obtain⟨h1,h2⟩:=hE.2.2 i hi;split at h2
  ·rename_i oi hoi;simp only[Bool.and_eq_true]at h2;unfold Q8 at hNL;have h3:=List.all_eq_true.1 hNL i hi;rw[hoi]at h3;simp_all
  grind
 refine AL _ _ _ _ (In (S:=λ_=>True) (m:=l.length) hE (λe a w he hq=>?_) (by unfold Hr at hE;simp only[Bool.and_eq_true,decide_eq_true_eq]at hE;omega) (λi hi oi hoi=>.inr (by simp[Yd])) _ _ _ _ (λj oj _ hl=>(by rw[getD_replicate_false]at hl;cases hl)) (by simp) ?_)
 ·obtain⟨s',E',h1,_⟩:=hq;cases e<;>first|exact he rfl|exact h1
 unfold Ca at hB;rw[Bool.and_eq_true,decide_eq_true_eq]at hB;obtain⟨hB,hnd⟩:=hB;have hnl:=(mU hB).2.1;generalize hl':bQ l n F=l' at*
 have hu:RY n (Array.replicate l.toArray.size false)=n:=by
  unfold RY
  have:(List.range n).filter (λi=>!(Array.replicate l.toArray.size false).getD i false)=List.range n:=by
   rw[List.filter_eq_self];intro i _;rw[getD_replicate_false];rfl
  rw[this];simp
 have hr':aH w0 N s a w E:=hr;have hEm:∀i,i<s.n->∀b∈E.m i,b<w.heap.size:=λi hi b hb=>hr'.m_lt i hi b hb
 have h:=yh (J:=JF P l F l.length (λ_=>True)) (m:=w.heap.size) (E:=E) (zJ hB) hnd hh hr'.bel.size hEm hr'.A_lt ?_ (Bt (zJ hB) (DQ (mU hB).2.2.2.1) hnd hh hr'.bel.size hEm hr'.A_lt htail ?_) n (Array.replicate l.toArray.size false) a w (λ_=>[]) hu
  ⟨by grind,λj oj _ hl=>(by rw[getD_replicate_false]at hl;cases hl),λt _ ht=>getD_in (by rw[Array.size_replicate,hsz];assumption) (getD_replicate_false _ _)⟩
  ⟨by
   have:TK l' n (Array.replicate l.toArray.size false)=[]:=by
    rw[List.eq_nil_iff_forall_not_mem];intro t ht;obtain⟨j,o,_,hl,_⟩:=kE.1 ht;rw[getD_replicate_false]at hl;cases hl
   rw[this];have e:df s []=s:=by rfl
   rw[e];omega,Nat.le_refl _,λj o d kd x _ hl=>(by rw[getD_replicate_false]at hl;cases hl),λj _ hl=>(by rw[getD_replicate_false]at hl;cases hl),λi j _ _ hl=>(by rw[getD_replicate_false]at hl;cases hl),λ_=>rfl⟩
 ·rw[show l.toArray.size=n+(l'.length-n)from by rw[hsz];omega];rw[show(Array.replicate l.toArray.size false)=Array.replicate (n+(l'.length-n)) false from by grind]at h;exact h
 ·intro listed a w fs inv hI;refine⟨λ_=>trivial,λi oi hi hoi hrd=>?_⟩;obtain⟨oi',hoi',hin,hg,hfl⟩:=hF i hi;obtain rfl:oi'=oi:=Option.some.inj (hoi'.symm.trans hoi);have hne:i≠n:=by omega
  have hrd':i∈Region.ready .any l'.toArray listed:=by rw[<-hl'];grind[mq,absurd]
  have hoil:l'[i]? =some oi':=by rw[<-hl',oJ hne];omega
  obtain⟨g1,g2⟩:=MN hB hnd hh hr'.bel.size hEm inv hI hin hrd' hoil;obtain⟨kd,x,qi,qi',hkd,hx,⟨d,hd,hdN⟩,hstp⟩:=oQ hh i oi' (by rw[List.getElem?_take,if_pos hin];omega);have htt:(l'.take n).take i=l'.take i:=by rw[List.take_take,Nat.min_eq_left (by omega)]
  rw[htt,hg]at hstp
  have hv:∃y,hV P (yG s (l'.take i) xs) oi'.op=some y:=by
   rcases hstp with⟨y,h1,_⟩|⟨f,args,ts,ys,res,ho,_⟩|⟨t,len,parts,el,k,es,esq,ho,_⟩|⟨t,cs,ho,_⟩|⟨y,z,_,_,h1,_⟩|⟨_,_,_,_,_,_,_,_,_,_,_,ho,_⟩|⟨_,_,_,_,_,_,_,_,ho,_⟩|⟨_,_,_,_,_,ho,_⟩|⟨_,⟨_,_,_,_,_,_,_,ho,_⟩|⟨_,_,_,_,_,_,_,_,_,_,_,ho,_⟩,_⟩
   ·refine⟨y,?_⟩;unfold oW at h1;split at h1
    ·rename_i ho;rw[ho]at hfl;cases hfl
    omega
   ·rw[ho]at hfl;cases hfl
   ·rw[ho]at hfl;cases hfl
   ·rw[ho]at hfl;cases hfl
   ·refine⟨y,?_⟩;unfold oW at h1;split at h1
    ·rename_i ho;rw[ho]at hfl;cases hfl
    omega
   ·rw[ho]at hfl;cases hfl
   ·rw[ho]at hfl;cases hfl
   ·rw[ho]at hfl;cases hfl
   ·rw[ho]at hfl;cases hfl
   ·rw[ho]at hfl;cases hfl
  obtain⟨y,hy⟩:=hv;rw[<-Gr g2]at hy;obtain⟨v,hv⟩:=Hd hfl hy g1;simp_all
 ·intro listed a w hall;refine⟨λ_=>trivial,λi oi hi hoi hrd=>?_⟩;obtain⟨_,_,hin,_⟩:=hF i hi;have h0:=(mem_ready.1 hrd).1;have:=hall i hin;rw[getD_both h0]at this;grind
theorem Ir{id:Nat}(n:Nat)(pr:Bool)(F:List Nat)(hm:P.follows .mixedOrders=true)(hE:Hr l n F=true)(hNL:Q8 l F=true)(hB:Ca (bQ l n F) n=true)(hh:ju P N pr (bQ l n F).toArray ((bQ l n F).take n) s s kds xs qF)
 (htail:lu P N (bQ l n F).toArray ((bQ l n F).drop n) (F8 Q) qF):tN P N (.region id l.toArray true) Q s:=λw0 a w E hr=>by
 refine Code.wp_mono (λe a w he=>?_) (wp_region_any hm (He n pr F hE hNL hB hh htail (hr.world' (Below.refl _ _).drew)));obtain⟨s',E',h1,h2⟩:=he
 cases e with
 |normal=>exact⟨s',E',h1,h2⟩
 |_=>exact h1.elim
end
end Go.Proofs.YtliknccmjjncbaaGreat
namespace Go.Proofs.YtliknccmjjncbaaGreat
open Go.RowKit
section
variable {P:Program}{w0:Cx}{ws w w':World}{N m n:Nat}{s h H q q' qF:AS}{a:Act}{E:En}{o:Oper}{l:List Oper}{kds:List HK}{xs:List AV}{Q:Exit->AS->Prop}{F:List Nat}{FL:List (TypeId×Nat×Nat)}{pv:Nat->Value}
end
end Go.Proofs.YtliknccmjjncbaaGreat
namespace Go.Proofs.YtliknccmjjncbaaGreat
open Go.RowKit
def Yz(w:World)(g:List Nat)(res:List Rs)(e:Ending)(w':World):Prop:=
 ∃v,e=.returned v/\ci w w' g/\∃(us:List Value) (fs:List (List Nat)),(if res.length=1 then us=[v]else v=.tuple us.toArray)/\bH w' 0 (λ_=>False) us res fs/\fs.flatten.Nodup/\∀b∈fs.flatten,b∈g\/w.heap.size<=b
def LH(P:Program)(f:FuncId)(args:List (Bool×List DV))(res:List Rs):Prop:=
 bc P f=true/\(∀r∈res,r.2.2=true)/\∃t k es rest,args=(false,[.sl t k es])::rest/\pz es.flatten/\
  ∀(w:World) (B:Nat->Prop) (v:Value) (vs:List Value) (g:List Nat),(∀b,B b->b<w.heap.size/\b∉g)->aR w 0 [v] [.sl t k es] g->dg w B vs rest->Calls P f (v::vs).toArray w (Yz w g res)
section
variable {P:Program}{w0:Cx}{w w':World}{N:Nat}{s:AS}{a:Act}{E:En}{o:Oper}
theorem GA{A:Nat->Prop}:∀{rs:List Rs} {vs:List Value} {fs:List (List Nat)},vs.length=rs.length->fs.length=rs.length->
 (∀(j:Nat) u r f,vs[j]? =some u->rs[j]? =some r->fs[j]? =some f->r.2.2=true/\∃vals:List Value,(if r.1 then u=.agg vals.toArray else vals=[u])/\aR w 0 vals r.2.1 f)->bH w 0 A vs rs fs
 |[],[],[],_,_,_=>trivial
 |r::rs,v::vs,f::fs,h1,h2,h3=>by
  refine⟨?_,GA (by grind) (by grind) λj u r f k1 k2 k3=>h3 (j+1) u r f (by assumption) (by assumption) (by assumption)⟩;obtain⟨q1,vals,q2,q3⟩:=h3 0 v r f rfl rfl rfl
  exact⟨vals,q2,by rw[if_pos q1];exact q3⟩
 |[],_::_,_,h1,_,_=>by grind
 |_::_,[],_,h1,_,_=>by grind
 |[],[],_::_,_,h2,_=>by grind
 |_::_,_::_,[],_,h2,_=>by grind
theorem Hz{rvs:List ResultVar}:∀{res:List Rs},(∀r∈res,r.2.2=true)->c9 P s rvs res s\/lD P s rvs res->c9 P s rvs res s:=by
 intro res hd h;rcases h with h|h
 ·exact h
 ·cases rvs with
  |nil=>cases res with
   |nil=>trivial
   |cons=>exact h.elim
  |cons rv rvs=>cases res with
   |nil=>exact h.elim
   |cons r rs=>
    obtain⟨b,ds,dp⟩:=r;have h1:dp=true:=hd _ (List.mem_cons_self ..);rw[h1]at h;cases h.1
end
end Go.Proofs.YtliknccmjjncbaaGreat
namespace Go.Proofs.YtliknccmjjncbaaGreat
open Go.RowKit
def Bo(w:World)(A:Nat->Prop)(vs:List Value)(xs:List (Bool×List AC)):Prop:=
 vs.length=xs.length/\∀(j:Nat) v b cs,vs[j]? =some v->xs[j]? =some (b,cs)->cM w ⟨λ_=>undef,λ_=>[],λ_=>[],A⟩ (λ_=>none) 0 b cs v
def sx(P:Program)(f:FuncId)(args:List (Bool×List AC))(res:List Rs):Prop:=
 bc P f=true/\∀(w:World) (B:Nat->Prop) (vs:List Value),(∀b,B b->b<w.heap.size)->Bo w B vs args->Calls P f vs.toArray w (Ri w B res)
def uS(args:List (Bool×List AC)):AS:=⟨λt=>match args[t]? with|some (b,cs)=>.p b cs|none=>.und,λ_=>.dead,0,0⟩
def ox(ys:List (Bool×List DV)):List (Bool×List AC):=ys.map λx=>(x.1,x.2.map .d)
def sH(ys:List (Bool×List DV)):List (Bool×List AC):=ys.map λx=>(false,[.rd x.2])
def yj(k:Nat)(ys:List (Bool×List DV)):List (Bool×List AC):=
 if k<1000 then ox (ys.take (ys.length-k))++sH (ys.drop (ys.length-k))else ox ys.dropLast++(match ys.getLast? with|some y=>[(false,[.fn (k-10000) y.2])]|none=>[])
section
variable {P:Program}{w0:Cx}{w w':World}{N:Nat}{s:AS}{a:Act}{E:En}{o:Oper}
theorem J3{A:Nat->Prop}{us vs:List Value}{xs ys:List (Bool×List AC)}(h:Bo w A us xs)(k:Bo w A vs ys):Bo w A (us++vs) (xs++ys):=by
 refine⟨by simp[h.1,k.1],λj v b cs h1 h2=>?_⟩;by_cases hj:j<us.length
 ·rw[List.getElem?_append_left hj]at h1;rw[List.getElem?_append_left (by rw[<-h.1];exact hj)]at h2;exact h.2 j v b cs h1 h2
 ·rw[List.getElem?_append_right (by omega)]at h1;rw[List.getElem?_append_right (by rw[<-h.1];omega),<-h.1]at h2;exact k.2 _ v b cs h1 h2
theorem J6{A:Nat->Prop}{us:List Value}{ys:List (Bool×List DV)}(h:dg w A us ys):Bo w A us (ox ys):=by
 refine⟨by simp[ox,h.1],λj v b cs h1 h2=>?_⟩;simp only[ox,List.getElem?_map,Option.map_eq_some_iff]at h2;obtain⟨y,h3,h4⟩:=h2;cases h4;have:=h.2 j v y h1 h3;unfold EJ at this;unfold cM
 grind[aD.ofRep]
theorem C3{A:Nat->Prop}:∀{ds:List DV} {us:List Value},UD w A ds us->Bo w A us (sH (ds.map λd=>(false,[d])))
 |[],[],_=>⟨rfl,λj v b cs h=>by grind⟩
 |d::ds,u::us,h=>by
  obtain⟨k1,k2⟩:=C3 h.2;refine⟨by simpa[sH]using k1,λj v b cs h1 h2=>?_⟩
  cases j with
  |zero=>
   simp[sH]at h1 h2;obtain⟨rfl,rfl⟩:=h2;subst h1;refine⟨rfl,λj x y h3 h4=>?_⟩
   cases j with
   |zero=>simp at h3 h4;subst h3 h4;exact h.1
   |succ j=>simp at h3
  |succ j=>exact k2 j v b cs (by simpa using h1) (by simpa[sH]using h2)
 |[],_::_,h=>h.elim
 |_::_,[],h=>h.elim
theorem Oc{args:List (Bool×List AC)}{vs:List Value}{B fr:Nat->Prop}{hfr:∀b,w.heap.size<=b->fr b}{cu:Option (Nat×Value)}{ow:Nat->Prop}{how:∀b,fr b->ow b}(hB:∀b,B b->b<w.heap.size)(ha:Bo w B vs args)(hN:vs.length<=N):
 aH ⟨w,B,fr,hfr,cu,ow,how⟩ N (uS args) {tmps:=vs.toArray++Array.replicate (N-vs.toArray.size) undef,defers:=[]} w ⟨λ_=>undef,λ_=>[],λ_=>[],B⟩:=by
 refine⟨by grind,rfl,⟨rfl,rfl,rfl,Nat.le_refl _,λ_ _=>rfl⟩,λi hi=>by grind[uS],λt=>?_,hB,λb hb i hi=>by grind,λi hi=>by grind,λi j hi=>by grind,λi j hi=>by grind,λi hi=>by grind,λb hb=>.inl hb,λi hi=>by grind,λi hi=>by grind⟩;simp only[uS];split
 ·rename_i b cs hx;have hlt:t<vs.length:=by rw[ha.1];grind
  have hv:(vs.toArray++Array.replicate (N-vs.toArray.size) undef).getD t undef=vs[t]:=by
   simp[Array.getElem?_append,hlt]
  rw[hv];have:=ha.2 t _ b cs (List.getElem?_eq_getElem hlt) hx;have hL:(uS args).lv=λ_=>none:=by funext i;simp[AS.lv,uS]
  exact hL▸this
 ·trivial
theorem T8{t i st T:Nat}{d:DV}(h:aH w0 N s a w E)(ht:s.sl t=.p false [.ptr i st 0])(hi:s.own? i st=some (.var st T [.d d])):
 ∃E',aH w0 N {s with ob:=upd s.ob i .dead,sl:=upd s.sl t (.p false [.rd [d]])} a w E':=by
 obtain⟨hin,hob,hlv⟩:=am hi;have hO:=h.obj i hin;rw[hob]at hO;obtain⟨g,vals,h0,h1,h2,h3,h4,h5,h6⟩:=hO;have hs:=h.slot t;rw[ht]at hs;have hp:=(aE hs).2 hlv;obtain⟨g',e1,e2⟩:=hp;rw[h1]at e1;cases e1;obtain⟨u,us,rfl,c1,c2⟩:=h6.cons';rw[c2.nil']at h5;have c1:aL w E.A [u] [d]:=c1;have hgm:g∈E.m i:=by rw[h2];simp
 have s1:=h.change (i:=i) (n':=s.n) (X:=.dead) (v':=E.v i) (m':=[]) (o':=[]) (A':=λb=>E.A b\/b=g) (c':=s.c) (w':=w) (Nat.le_refl _) (λj hj _=>hj) hin
  h.bel (Nat.le_refl _) (λ_ _ _=>rfl) (Nat.le_refl _) (.inr λst hs=>by cases hs) (λ_ hb=>.inl hb) (λb hb=>hb.imp id λe=>.inr (by rw[e];exact h.mF i hin g hgm))
  (λb hb=>⟨by rcases hb with hb|rfl
              ·exact h.A_lt b hb
              ·exact h.m_lt i hin _ hgm,by simp,λj hj hne hm=>by
   rcases hb with hb|rfl
   ·exact h.A_m b hb j hj hm
   ·exact h.mm i j hin hj (Ne.symm hne) _ hgm hm⟩) (by simp) (by simp) (λ_ _ _ _ _=>trivial) (by simp) (by simp)
 refine⟨_,⟨s1.size,s1.defers,s1.bel,s1.obj,λq=>?_,s1.A_lt,s1.A_m,s1.A_o,s1.mm,s1.oo,s1.m_lt,s1.anc,s1.mF,s1.oF⟩⟩;simp only[O3];split
 ·rename_i e;subst e;rw[e2];refine aN ⟨g,0,[u],rfl,.inr rfl,c1.mono λb hb=>.inl hb,?_⟩;intro p v hv
  cases p with
  |zero=>
   simp at hv;subst hv
   simpa using h5.cell 0
  |succ p=>simp at hv
 ·exact s1.slot q
theorem J9{f t:Nat}{caps:List Value}{args:Array Operand}{ts:Array TypeId}(ho:o.op=.call ⟨.value (.tmp t),args,ts⟩)(hv:a.eval (.tmp t)=.func (.func f) #[] caps.toArray)(hc:bc P f=true):
 (execOp a.eval o).run P w=.ok (.enter f ((args.toList.map a.eval)++caps).toArray) w:=by
 unfold bc at hc
 cases hf:P.funcs[f]? with
 |none=>grind
 |some fn=>
  simp[hf]at hc;have h1:fn.body.isNone=false:=by cases hb:fn.body<;>simp_all
  simp only[execOp,ho,resolve,hv,Deferred.ofValue,Sem.run_bind,Sem.run_pure,Result.andThen_ok,invoke,callFunc,run_program,hf];rw[if_neg (by grind)];simp[h1]
def IC(s:AS):List Operand->List DV->Prop
 |[],[]=>True
 |x::xs,d::ds=>s.ev x=.p false [.rd [d]]/\IC s xs ds
 |_,_=>False
theorem Ga(h:aH w0 N s a w E):∀{xs:List Operand} {ds:List DV},IC s xs ds->UD w E.A ds (xs.map a.eval)
 |[],[],_=>trivial
 |x::xs,d::ds,h1=>by
  have hx:=aP h x;rw[h1.1]at hx
  exact⟨aE hx,Ga h h1.2⟩
 |[],_::_,h1=>h1.elim
 |_::_,[],h1=>h1.elim
theorem Yw{f:FuncId}{xs:Array Operand}{ds:List DV}(ho:o.op=.makeFunc (.func f) #[] xs)(hx:IC s xs.toList ds):dH P o s (.p false [.fn f ds]) []:=by
 refine dH.of_run λw0 N a w E h=>⟨.func (.func f) #[] (xs.toList.map a.eval).toArray,?_,aN ⟨_,rfl,Ga h hx⟩⟩
 simp[execOp,ho,Instr.makeFunc];exact Array.toList_inj.1 (by simp)
theorem Ro(X:Bool){f t:Nat}{args:Array Operand}{ts:Array TypeId}{ys:List (Bool×List DV)}{ds:List DV}{res:List Rs}(ho:o.op=.call ⟨.value (.tmp t),args,ts⟩)(ht:s.sl t=.p false [.fn f ds])
 (hm:sx P f (ox ys++sH (ds.map λd=>(false,[d]))) res) (har:fW s args.toList ys):dH P o s (k8 res s.n s.c) (b7 X res s.c):=
 JT X λw0 N a w E h=>by
  have hs:=h.slot t;rw[ht]at hs;obtain⟨caps,h1,h2⟩:=aE hs;exact⟨_,E.A,J9 ho h1 hm.1,hm.2 w _ _ h.A_lt (J3 (J6 (nx h har)) (C3 h2)),.inr λ_ h=>h⟩
end
end Go.Proofs.YtliknccmjjncbaaGreat
namespace Go.Proofs.YtliknccmjjncbaaGreat
open Go.RowKit
def jO(vals:List Value):List Nat:=vals.flatMap λu=>u.ownBlock.toList
def JG(b:Bool)(v:Value):List Value:=if b then(match v with|.agg a=>a.toList|_=>[])else[v]
theorem pe{b:Bool}{v:Value}{vals:List Value}(h:if b then v=.agg vals.toArray else vals=[v]):JG b v=vals:=by
 unfold JG
 grind
def b8:List Rs->List Value->List Nat
 |(b,_,true)::rs,v::vs=>jO (JG b v)++b8 rs vs
 |(_,_,false)::rs,_::vs=>b8 rs vs
 |_,_=>[]
def Wi(w:World)(g f:List Nat)(res:List Rs)(e:Ending)(w':World):Prop:=
 ∃v,e=.returned v/\ci w w' g/\∃(us:List Value) (fs:List (List Nat)),(if res.length=1 then us=[v]else v=.tuple us.toArray)/\bH w' 0 (λ_=>False) us res fs/\fs.flatten.Nodup/\(∀b∈fs.flatten,b∈f\/w.heap.size<=b)/\∀b∈b8 res us,b∈g\/w.heap.size<=b
def ic(P:Program)(f:FuncId)(args:List Rs)(res:List Rs):Prop:=
 bc P f=true/\(∀r∈res,r.2.2=true)/\
  ∀(w:World) (B:Nat->Prop) (vs:List Value) (fs:List (List Nat)),(∀b,B b->b<w.heap.size/\b∉b8 args vs)->bH w 0 B vs args fs->fs.flatten.Nodup->(∀b∈fs.flatten,b∈b8 args vs\/B b)->
   Calls P f vs.toArray w (Wi w (b8 args vs) fs.flatten res)
def ID(args:List Rs):AS:={ (lF []).pushL (b7 false args 0)with sl:=λt=>match(iW args 0 0)[t]? with|some (b,cs)=>.p b cs|none=>.und}
section
variable {P:Program}{w0:Cx}{w w':World}{N:Nat}{s:AS}{a:Act}{E:En}{o:Oper}
theorem HQ{F:Nat->Prop}{E1 E2:En}{cs:List AC}{vals:List Value}{l:List Ob}{s1:AS}(h:aD w E1 s1.lv s1.c cs vals)(m1:aH w0 N (s1.pushL l) a w E2)(hst:iX l s1.c)(m3:rp s1.n (s1.pushL l).n F E1 E2):aD w E2 (s1.pushL l).lv (s1.pushL l).c cs vals:=by
 obtain⟨q1,q2,q3,q4⟩:=i8 l s1;refine h.stay ⟨λb hb=>⟨m3.A b hb,rfl⟩,λi st hst' hl=>?_,by omega⟩
 have hin:i<s1.n:=by
  unfold AS.lv at hl
  grind[xV]
 refine⟨?_,(m3.same i hin).1⟩;simp_all[AS.lv,if_pos]
def Bj(w:World)(E:En)(L:Nat->Option Nat)(c:Nat):List Rs->List (Bool×List AC)->List Value->Prop
 |(_,_,true)::rs,x::xs,v::vs=>cM w E L c x.1 x.2 v/\Bj w E L c rs xs vs
 |(_,_,false)::rs,_::xs,_::vs=>Bj w E L c rs xs vs
 |[],[],[]=>True
 |_,_,_=>False
theorem E6{b0:Nat}{A0:Nat->Prop}:∀(rs:List Rs) {vs:List Value} {fs:List (List Nat)} {s:AS} {E:En},aH w0 N s a w E->bH w b0 A0 vs rs fs->(∀b∈fs.flatten,w0.ow b/\(w0.B b\/w0.fr b))->(∀b∈b8 rs vs,w0.fr b)->fs.flatten.Nodup->(∀b∈fs.flatten,(b∈b8 rs vs->¬E.A b)/\∀j,j<s.n->b∉E.m j/\b∉E.o j)->
 ∃E',aH w0 N (s.pushL (b7 false rs s.c)) a w E'/\Bj w E' (s.pushL (b7 false rs s.c)).lv (s.pushL (b7 false rs s.c)).c rs (iW rs s.n s.c) vs/\rp s.n (s.pushL (b7 false rs s.c)).n (· ∈fs.flatten) E E'/\∀b∈fs.flatten,b∈b8 rs vs\/E'.A b
 |[],vs,fs,s,E,h,hq,hO,hT,hnd,hf=>by
  cases vs with
  |cons=>exact hq.elim
  |nil=>cases fs with
   |cons=>exact hq.elim
   |nil=>exact⟨E,h,trivial,rp.refl,λb hb=>by cases hb⟩
 |(b,ds,dp)::rs,vs,fs,s,E,h,hq,hO,hT,hnd,hf=>by
  cases vs with
  |nil=>exact hq.elim
  |cons v vs=>cases fs with
   |nil=>exact hq.elim
   |cons f fs=>
    obtain⟨⟨vals,hv,hd⟩,hq⟩:=hq;rw[List.flatten_cons]at hnd hf hO;have hnd':=List.nodup_append.1 hnd
    cases dp with
    |true=>
     have hd:aR w b0 vals ds f:=hd;have htop:b8 ((b,ds,true)::rs) (v::vs)=jO vals++b8 rs vs:=by grind[b8,pe]
     rw[htop]at hT hf ⊢;obtain⟨E1,k1,k2,k3,k4⟩:=OB (X:=false) hd (λb hb=>hO b (List.mem_append_left _ hb)) (λu hu b hb=>hT b (List.mem_append_left _ (List.mem_flatMap.2 ⟨u,hu,hb⟩))) (λe=>by cases e) h (λb hb=>⟨λe=>(hf b (List.mem_append_left _ hb)).1 (e.elim (λe=>by cases e) λ⟨u,hu,h2⟩=>List.mem_append_left _ (List.mem_flatMap.2 ⟨u,hu,h2⟩)),(hf b (List.mem_append_left _ hb)).2⟩);obtain⟨p1,p2,p3,p4⟩:=i8 (kf false ds s.c) s
     have hfs:∀b∈fs.flatten,(b∈b8 rs vs->¬E1.A b)/\∀j,j<(s.pushL (kf false ds s.c)).n->b∉E1.m j/\b∉E1.o j:=by
      intro b hb;obtain⟨q1,q2⟩:=hf b (List.mem_append_right _ hb);have hbf:b∉f:=λhbf=>hnd'.2.2 b hbf b hb rfl
      refine⟨λht hA1=>?_,λj hj=>?_⟩
      ·rcases k3.A' b hA1 with h1|h1
       ·grind
       grind
      ·by_cases hjn:j<s.n
       ·obtain⟨_,e2,e3⟩:=k3.same j hjn;rw[e2,e3];grind
       ·exact⟨λhm=>hbf (k3.new j (by omega) hj b (.inl hm)),λhm=>hbf (k3.new j (by omega) hj b (.inr hm))⟩
     obtain⟨E2,m1,m2,m3,m4⟩:=E6 rs k1 hq (λb hb=>hO b (List.mem_append_right _ hb)) (λb hb=>hT b (List.mem_append_right _ hb)) hnd'.2.1 hfs
     have e:s.pushL (b7 false ((b,ds,true)::rs) s.c)=(s.pushL (kf false ds s.c)).pushL (b7 false rs (s.pushL (kf false ds s.c)).c):=by
      rw[p2,b7,xW]
     rw[e];refine⟨E2,m1,?_,?_,λx hx=>?_⟩
     ·grind[iW,Bj,mZ,HQ,vx]
     ·refine(k3.trans (H:=(· ∈(f::fs).flatten)) m3 (by omega) (λb hb=>?_) (λb hb=>?_))
      ·rw[List.flatten_cons];grind
      grind
     ·rw[List.flatten_cons]at hx;rcases List.mem_append.1 hx with hx|hx
      ·rcases k4 rfl x hx with⟨u,hu,hb⟩|hA
       ·exact .inl (List.mem_append_left _ (List.mem_flatMap.2 ⟨u,hu,hb⟩))
       ·exact .inr (m3.A x hA)
      grind
    |false=>
     have hd:f=[]/\aL w A0 vals ds:=hd;obtain⟨rfl,hr⟩:=hd;obtain⟨E2,m1,m2,m3,m4⟩:=E6 rs h hq (λb hb=>hO b (List.mem_append_right _ hb)) hT hnd'.2.1 (λb hb=>hf b (List.mem_append_right _ hb));refine⟨E2,m1,m2,?_,?_⟩
     ·rw[List.flatten_cons,List.nil_append];exact m3
     assumption
theorem Mm{vs:List Value}{B A:Nat->Prop}{fr:Nat->Prop}{hfr:∀b,w.heap.size<=b->fr b}{cu:Option (Nat×Value)}{ow:Nat->Prop}{how:∀b,fr b->ow b}(hA:∀b,A b->B b)(hB:∀b,B b->b<w.heap.size)(hN:vs.length<=N):
 aH ⟨w,B,fr,hfr,cu,ow,how⟩ N (lF []) {tmps:=vs.toArray++Array.replicate (N-vs.toArray.size) undef,defers:=[]} w ⟨λ_=>undef,λ_=>[],λ_=>[],A⟩:=
 ⟨by grind,rfl,⟨rfl,rfl,rfl,Nat.le_refl _,λ_ _=>rfl⟩,λi hi=>by grind[lF],λt=>by simp only[lF,List.getElem?_nil];trivial,λb hb=>hB b (hA b hb),λb hb i hi=>by grind,λi hi=>by grind,λi j hi=>by grind,
  λi j hi=>by grind,λi hi=>by grind,λb hb=>.inl (hA b hb),λi hi=>by grind,λi hi=>by grind⟩
theorem DG{b0:Nat}{A0:Nat->Prop}:∀{rs:List Rs} {vs:List Value} {fs:List (List Nat)},bH w b0 A0 vs rs fs->vs.length=rs.length
 |[],[],_,_=>rfl
 |[],_::_,_,h=>h.elim
 |_::_,[],_,h=>h.elim
 |_::_,_::_,[],h=>h.elim
 |_::rs,_::vs,_::fs,h=>by simp[DG h.2]
theorem m5{L:Nat->Option Nat}{c b0:Nat}{A0:Nat->Prop}:∀{rs:List Rs} {vs:List Value} {fs:List (List Nat)} {n' c':Nat},Bj w E L c rs (iW rs n' c') vs->bH w b0 A0 vs rs fs->(∀b,A0 b->E.A b)->lj w E L c (iW rs n' c') vs
 |[],[],_,_,_,_,_,_=>trivial
 |[],_::_,_,_,_,_,h,_=>h.elim
 |_::_,[],_,_,_,_,h,_=>h.elim
 |_::_,_::_,[],_,_,_,h,_=>h.elim
 |(b,ds,true)::rs,v::vs,f::fs,n',c',hp,hq,hA=>⟨hp.1,m5 hp.2 hq.2 hA⟩
 |(b,ds,false)::rs,v::vs,f::fs,n',c',hp,hq,hA=>by
  obtain⟨vals,hv,hd⟩:=hq.1;have hd:f=[]/\aL w A0 vals ds:=hd;exact⟨mZ hv (aD.ofRep (hd.2.mono hA)),m5 hp hq.2 hA⟩
theorem C8{L:Nat->Option Nat}{c:Nat}:∀{xs:List (Bool×List AC)} {vs:List Value} {t:Nat} {b:Bool} {cs:List AC},lj w E L c xs vs->xs[t]? =some (b,cs)->∃v,vs[t]? =some v/\cM w E L c b cs v
 |[],_,t,b,cs,_,h=>by grind
 |_::_,[],_,_,_,h,_=>h.elim
 |x::xs,v::vs,0,b,cs,h,hx=>by
  simp at hx;subst hx
  exact⟨v,rfl,h.1⟩
 |x::xs,v::vs,t+1,b,cs,h,hx=>by
  obtain⟨u,h1,h2⟩:=C8 h.2 (by simpa using hx)
  grind
theorem AT:∀{rs:List Rs} {vs:List Value} {fs:List (List Nat)} {b:Nat},vs.length=rs.length->fs.length=rs.length->b∈b8 rs vs->∃(j:Nat) (u:Value) (r:Rs) (f:List Nat),vs[j]? =some u/\rs[j]? =some r/\fs[j]? =some f/\b∈jO (JG r.1 u)
 |[],_,_,b,_,_,h=>by grind[b8]
 |_::_,[],_,b,h1,_,_=>by grind
 |_::_,_::_,[],b,_,h2,_=>by grind
 |(bb,ds,true)::rs,v::vs,f::fs,b,h1,h2,h=>by
  simp only[b8]at h;rcases List.mem_append.1 h with h|h
  ·exact⟨0,v,_,f,rfl,rfl,rfl,h⟩
  ·obtain⟨j,u,r,f',k1,k2,k3,k4⟩:=AT (rs:=rs) (vs:=vs) (fs:=fs) (by grind) (by grind) h
   exact⟨j+1,u,r,f',by assumption,by assumption,by assumption,k4⟩
 |(bb,ds,false)::rs,v::vs,f::fs,b,h1,h2,h=>by
  obtain⟨j,u,r,f',k1,k2,k3,k4⟩:=AT (rs:=rs) (vs:=vs) (fs:=fs) (by grind) (by grind) h;exact⟨j+1,u,r,f',by assumption,by assumption,by assumption,k4⟩
theorem GT{f:FuncId}{fn:Func}{c:Code}{args:List Rs}{res:List Rs}(hf:P.funcs[f]? =some fn)(hb:fn.body=some c)(hc:bc P f=true)(hN:args.length<=fn.ntmps)
 (hdp:∀r∈res,r.2.2=true) (h:tN P fn.ntmps c (DO P fn.results.toList res) (ID args)):ic P f args res:=by
 refine⟨hc,hdp,λw B vs fs hB hq hnd hin=>?_⟩;refine calls_of_wp hf hb ?_;have hlen:=DG hq
 have htop:∀b∈b8 args vs,b∈fs.flatten:=by
  clear hB hin hnd h
  induction args generalizing vs fs with
  |nil=>grind[b8]
  |cons r rs ih=>
   cases vs with
   |nil=>grind
   |cons v vs=>cases fs with
    |nil=>exact hq.elim
    |cons f fs=>
     obtain⟨bb,ds,dp⟩:=r;intro b hb;rw[List.flatten_cons];have ih:=ih (vs:=vs) (fs:=fs) (by grind) hq.2 (by grind)
     cases dp with
     |false=>exact List.mem_append_right _ (ih b hb)
     |true=>
      obtain⟨vals,hv,hd⟩:=hq.1;simp only[b8,pe hv]at hb;rcases List.mem_append.1 hb with hb|hb
      ·obtain⟨u,hu,hb⟩:=List.mem_flatMap.1 hb
       grind[List.mem_append_left,Ar]
      grind
 have h0:=Mm (w:=w) (vs:=vs) (N:=fn.ntmps) (B:=B) (A:=λb=>B b/\b∉fs.flatten) (fr:=λb=>b∈b8 args vs\/w.heap.size<=b) (hfr:=λ_ h=>.inr h) (cu:=none) (ow:=λb=>b∈fs.flatten\/w.heap.size<=b) (how:=λb h=>h.imp (htop b) id)
  (λb hb=>hb.1) (λb hb=>(hB b hb).1) (by omega)
 obtain⟨E',k1,k2,k3,k4⟩:=E6 args h0 hq (λb hb=>⟨.inl hb,(hin b hb).symm.imp id .inl⟩) (λb hb=>.inl hb) hnd (λb hb=>⟨λ_ hA=>hA.2 hb,λj hj=>by grind⟩)
 have hAll:=m5 k2 hq (λb hb=>by
  by_cases hbf:b∈fs.flatten
  ·grind
  ·exact k3.A b ⟨hb,hbf⟩)
 have h1:aH ⟨w,B,λb=>b∈b8 args vs\/w.heap.size<=b,λ_ h=>.inr h,none,λb=>b∈fs.flatten\/w.heap.size<=b,λb h=>h.imp (htop b) id⟩ fn.ntmps (ID args) {tmps:=vs.toArray++Array.replicate (fn.ntmps-vs.toArray.size) undef,defers:=[]} w E':=by
  refine⟨k1.size,k1.defers,k1.bel,k1.obj,λt=>?_,k1.A_lt,k1.A_m,k1.A_o,k1.mm,k1.oo,k1.m_lt,k1.anc,k1.mF,k1.oF⟩;show bi w E' _ _ (match(iW args 0 0)[t]? with|some (b,cs)=>.p b cs|none=>.und) _;split
  ·rename_i b cs hx;obtain⟨v,hv,hp⟩:=C8 hAll hx;have hlt:t<vs.length:=(List.getElem?_eq_some_iff.1 hv).1
   have hgd:(vs.toArray++Array.replicate (fn.ntmps-vs.toArray.size) undef).getD t undef=v:=by
    have:vs[t]=v:=(List.getElem?_eq_some_iff.1 hv).2;simp[Array.getElem?_append,hlt,this]
   show cM _ _ _ _ b cs _;rw[hgd];exact hp
  ·trivial
 refine Code.wp_mono (λe a' w' he=>?_) (h _ _ w _ h1);obtain⟨s,E,hq',hr⟩:=he
 have key:c9 P s fn.results.toList res s\/lD P s fn.results.toList res->a'.defers=[]/\∃v,(results fn a'.tmps).run P w'=.ok v w'/\Wi w (b8 args vs) fs.flatten res (.returned v) w':=by
  intro hq';obtain⟨us,fs',r1,r2,r3,r4,r5,r6⟩:=pF hr (Hz hdp hq') hr ft.refl;have r6':=λ(j:Nat) (u:Value) (r:Rs) (f:List Nat) (k1:us[j]? =some u) (k2:res[j]? =some r) (k3:fs'[j]? =some f)=>(by grind:r.2.2=true/\∃vals:List Value,(if r.1 then u=.agg vals.toArray else vals=[u])/\aR w' 0 vals r.2.1 f)
  obtain⟨v,q1,q2⟩:=pS r1;refine⟨hr.defers,v,q1,v,rfl,⟨hr.bel.os,hr.bel.tape,hr.bel.output,hr.bel.size,λb hb hn=>hr.bel.block b (λhf=>hf.elim hn (λhf=>by have:w.heap.size<=b:=hf;omega))⟩,us,fs',by rw[r2]at q2;exact q2,GA r2 r3 r6',r4,λb hb=>?_,λb hb=>?_⟩
  ·obtain⟨j,hj,h1⟩:=r5 b hb;exact h1.elim (λh2=>(hr.mF j hj b h2).imp (htop b) id) (hr.oF j hj b)
  ·obtain⟨j,u,r,f,k1,k2,k3,k4⟩:=AT r2 r3 hb;obtain⟨-,vals,q2,-,q4⟩:=r6 j u r f k1 k2 k3;rw[pe q2]at k4;obtain⟨x,hx,hb2⟩:=List.mem_flatMap.1 k4;obtain⟨j2,hj2,h1⟩:=q4 x hx b hb2;exact hr.mF j2 hj2 b h1
 cases e with
 |normal=>exact key hq'
 |ret=>exact key hq'
 |_=>exact hq'.elim
end
end Go.Proofs.YtliknccmjjncbaaGreat
namespace Go.Proofs.YtliknccmjjncbaaGreat
open Go.RowKit
section
variable {P:Program}{w0:Cx}{w w':World}{N:Nat}{s:AS}{a:Act}{E:En}{o:Oper}
theorem aH.wrote(h:aH w0 N s a w E){g:List Nat}(hw:ci w w' g)(hg:∀b∈g,¬E.A b/\w0.fr b/\∀j,j<s.n->b∉E.m j):aH w0 N s a w' E:=by
 have hstay:ft w E s.lv s.c w' E s.lv s.c:=⟨λb hb=>⟨hb,hw.block b (h.A_lt b hb) λhbg=>(hg b hbg).1 hb⟩,λi st _ hl=>⟨hl,rfl⟩,Nat.le_refl _⟩
 exact⟨h.size,h.defers,⟨hw.os.trans h.bel.os,hw.tape.trans h.bel.tape,hw.output.trans h.bel.output,Nat.le_trans h.bel.size hw.size,λb hb=>(hw.block b (Nat.lt_of_lt_of_le (Cx.lt hb) h.bel.size) (λhbm=>hb (hg b hbm).2.1)).trans (h.bel.block b hb)⟩,
  λi hi=>(h.obj i hi).stay hstay rfl rfl rfl (λb hbm=>hw.block b (h.m_lt i hi b hbm) λhbg=>(hg b hbg).2.2 i hi hbm) (λb hbo=>h.A_o i hi b hbo),
  λt=>(h.slot t).stay hstay,λb hb=>Nat.lt_of_lt_of_le (h.A_lt b hb) hw.size,h.A_m,h.A_o,h.mm,h.oo,λi hi b hbm=>Nat.lt_of_lt_of_le (h.m_lt i hi b hbm) hw.size,h.anc,h.mF,h.oF⟩
theorem AI{b0:Nat}{A0:Nat->Prop}:∀{rs:List Rs} {vs:List Value} {fs:List (List Nat)},bH w b0 A0 vs rs fs->∀b∈b8 rs vs,b∈fs.flatten
 |[],[],_,_=>by grind[b8]
 |[],_::_,_,h=>h.elim
 |_::_,[],_,h=>h.elim
 |_::_,_::_,[],h=>h.elim
 |(b',ds,true)::rs,v::vs,f::fs,h=>by
  intro b hb;obtain⟨vals,hv,hd⟩:=h.1;rw[List.flatten_cons];simp only[b8,pe hv]at hb;rcases List.mem_append.1 hb with hb|hb
  ·obtain⟨u,hu,hb⟩:=List.mem_flatMap.1 hb
   grind[List.mem_append_left,Ar]
  ·exact List.mem_append_right _ (AI h.2 b hb)
 |(b',ds,false)::rs,v::vs,f::fs,h=>by
  intro b hb;rw[List.flatten_cons];exact List.mem_append_right _ (AI h.2 b hb)
structure V9(w0:Cx)(N:Nat)(s s':AS)(a:Act)(w:World)(E:En)(us:List Value)(ds:List DV)(E':En)(f:List Nat):Prop where
 rep:aH w0 N s' a w E'
 own:aR w 0 us ds f
 A':E'.A=E.A
 v:E'.v=E.v
 m':∀i,∀b∈E'.m i,b∈E.m i
 o':∀i,∀b∈E'.o i,b∈E.o i
 from_:∀b∈f,∃j,j<s.n/\(b∈E.m j\/b∈E.o j)
 nm:∀b∈f,∀j,j<s.n->b∉E'.m j/\b∉E'.o j
 top:∀b∈f,b∈jO us\/E.A b
 tm:∀b∈jO us,∃j,j<s.n/\b∈E.m j
def uq(s s':AS)(xs:List AC)(ds:List DV):Prop:=
 s'.n=s.n/\s'.c=s.c/\s'.sl=s.sl/\(∀i st,s'.lv i=some st->s.lv i=some st)/\
  ∀w0 N a w E us,aH w0 N s a w E->aD w E s.lv s.c xs us->∃E' f,V9 w0 N s s' a w E us ds E' f
theorem Oj:uq s s [] []:=
 ⟨rfl,rfl,rfl,λ_ _ h=>h,λw0 N a w E us h hc=>⟨E,[],h,by rw[hc.nil'];exact .nil,rfl,rfl,λ_ _ h=>h,λ_ _ h=>h,by simp,by simp,by simp,by rw[hc.nil'];simp[jO]⟩⟩
theorem Rj{s':AS}{v:Value}{xs:List AC}{ds:List DV}(h:uq s s' xs ds):uq s s' (.d (.sc v)::xs) (.sc v::ds):=by
 obtain⟨h1,h2,h3,h4,h5⟩:=h;refine⟨h1,h2,h3,h4,λw0 N a w E us hr hc=>?_⟩;obtain⟨u,us,rfl,c1,c2⟩:=hc.cons';obtain⟨E',f,hg⟩:=h5 w0 N a w E us hr c2;obtain⟨rfl,hs⟩:=aL.scOf c1
 have e:jO (u::us)=jO us:=by
  cases u<;>simp[Sc,jO,Value.ownBlock]at hs ⊢
 exact⟨E',f,hg.rep,.sc hs hg.own,hg.A',hg.v,hg.m',hg.o',hg.from_,hg.nm,by rw[e];exact hg.top,by rw[e];exact hg.tm⟩
theorem Ki{s':AS}{t k:Nat}{xs:List AC}{ds:List DV}(hk:0<k)(h:uq s s' xs ds):uq s s' (.nil::xs) (.sl t k []::ds):=by
 obtain⟨h1,h2,h3,h4,h5⟩:=h;refine⟨h1,h2,h3,h4,λw0 N a w E us hr hc=>?_⟩;obtain⟨u,us,rfl,c1,c2⟩:=hc.cons';obtain⟨E',f,hg⟩:=h5 w0 N a w E us hr c2;obtain rfl:u=.slice none 0 0:=c1;have e:jO (.slice none 0 0::us)=jO us:=by rfl
 refine⟨E',f,hg.rep,?_,hg.A',hg.v,hg.m',hg.o',hg.from_,hg.nm,by rw[e];exact hg.top,by rw[e];exact hg.tm⟩;have:=aR.sl (v:=.slice none 0 0) (t:=t) (k:=k) (es:=[]) (cells:=[]) (g:=[]) (World.ownsRow_nil _ _ _ _) hk (by simp) .nil hg.own (by simpa[Value.ownBlock]using hg.own.nodup)
 assumption
theorem NH{s':AS}{i st t k:Nat}{es:List (List DV)}{xs:List AC}{ds:List DV}(hi:s.own? i st=some (.row st t k es true))(h:uq (s.kill i) s' xs ds):uq s s' (.own i st::xs) (.sl t k es::ds):=by
 obtain⟨h1,h2,h3,h4,h5⟩:=h;refine⟨h1,h2,h3,λj st hl=>uK j st (h4 j st hl),λw0 N a w E us hr hc=>?_⟩;obtain⟨u,us,rfl,c1,c2⟩:=hc.cons';obtain⟨hin,hob,hlv⟩:=am hi;have hu:u=E.v i:=c1.2 hlv;subst hu;have hO:=hr.obj i hin;rw[hob]at hO;obtain⟨cells,hst,g1,g2,g3,g4,g5⟩:=hO;simp only[if_pos]at g5
 have hown:aR w 0 [E.v i] [.sl t k es] (E.m i++E.o i):=by
  have:=aR.sl (vs:=[]) (ds:=[]) (f:=[]) g1 g2 g3 g5 .nil (by
   rw[List.append_nil,<-g4];refine List.nodup_append.2 ⟨?_,g5.nodup,λb hb b' hb' e=>?_⟩
   ·rw[g4];cases (E.v i).ownBlock<;>simp
   ·subst e;exact hr.A_m b (hr.A_o i hin b hb') i hin hb)
  rwa [List.append_nil,<-g4]at this
 have k1:=JK hr hin
 have ev:upd E.v i (E.v i)=E.v:=by
  funext j;grind[af,aJ]
 have c2':aD w ⟨upd E.v i (E.v i),upd E.m i [],upd E.o i [],E.A⟩ (s.kill i).lv (s.kill i).c xs us:=
  c2.stay ⟨λb hb=>⟨hb,rfl⟩,λj st _ hl=>⟨uK j st hl,by simp_all⟩,Nat.le_refl _⟩
 obtain⟨E2,f,hg⟩:=h5 w0 N a w _ us k1 c2'
 have dm:∀j,∀b∈upd E.m i [] j,j≠i/\b∈E.m j:=by
  grind[af,aJ]
 have dO:∀j,∀b∈upd E.o i [] j,j≠i/\b∈E.o j:=by
  grind[af,aJ]
 have dis:∀b∈E.m i++E.o i,∀j,j<s.n->b∉upd E.m i [] j/\b∉upd E.o i [] j:=by
  intro b hb j hj;rcases List.mem_append.1 hb with hb|hb
  ·exact⟨λh=>by obtain⟨e,h⟩:=dm j b h;exact hr.mm i j hin hj (Ne.symm e) b hb h,λh=>by obtain⟨e,h⟩:=dO j b h;exact hr.A_m b (hr.A_o j hj b h) i hin hb⟩
  ·exact⟨λh=>by obtain⟨e,h⟩:=dm j b h;exact hr.A_m b (hr.A_o i hin b hb) j hj h,λh=>by obtain⟨e,h⟩:=dO j b h;exact hr.oo i j hin hj (Ne.symm e) b hb h⟩
 have e:jO (E.v i::us)=E.m i++jO us:=by grind[jO]
 refine⟨E2,(E.m i++E.o i)++f,hg.rep,hown.app hg.own (λb hb hbf=>?_),hg.A',hg.v.trans ev,λj b hb=>(dm j b (hg.m' j b hb)).2,λj b hb=>(dO j b (hg.o' j b hb)).2,?_,?_,?_,?_⟩
 ·obtain⟨j,hj,hbj⟩:=hg.from_ b hbf;exact hbj.elim (dis b hb j hj).1 (dis b hb j hj).2
 ·intro b hb;rcases List.mem_append.1 hb with hb|hb
  ·grind
  ·obtain⟨j,hj,hbj⟩:=hg.from_ b hb;exact⟨j,hj,hbj.imp (λh=>(dm j b h).2) (λh=>(dO j b h).2)⟩
 ·intro b hb j hj;rcases List.mem_append.1 hb with hb|hb
  ·exact⟨λh=>(dis b hb j hj).1 (hg.m' j b h),λh=>(dis b hb j hj).2 (hg.o' j b h)⟩
  ·exact hg.nm b hb j hj
 ·intro b hb;rw[e];rcases List.mem_append.1 hb with hb|hb
  ·rcases List.mem_append.1 hb with hb|hb
   ·grind
   ·exact .inr (hr.A_o i hin b hb)
  ·exact(hg.top b hb).imp (λh=>List.mem_append_right _ h) id
 ·intro b hb;rw[e]at hb;rcases List.mem_append.1 hb with hb|hb
  ·grind
  ·obtain⟨j,hj,h⟩:=hg.tm b hb;exact⟨j,hj,(dm j b h).2⟩
def vg(s0 sF:AS):List Operand->List Rs->AS->Prop
 |x::xs,(b,ds,true)::rs,s=>match s0.ev x with
  |.p b' cs=>b'=b/\∃s1,uq s s1 cs ds/\vg s0 sF xs rs s1
  |_=>False
 |x::xs,(b,ds,false)::rs,s=>match s0.ev x with
  |.p b' cs=>b'=b/\IA sF cs ds/\vg s0 sF xs rs s
  |_=>False
 |[],[],s=>s=sF
 |_,_,_=>False
structure V0(w0:Cx)(N:Nat)(s0:AS)(E0:En)(s sF:AS)(a:Act)(w:World)(E:En)(vs:List Value)(rs:List Rs)(E':En)(fs:List (List Nat)):Prop where
 rep:aH w0 N sF a w E'
 q:bH w 0 (AM sF E') vs rs fs
 nd:fs.flatten.Nodup
 n:sF.n=s.n
 c:sF.c=s.c
 A':E'.A=E.A
 stay:ft w E0 s0.lv s0.c w E' sF.lv sF.c
 m':∀i,∀b∈E'.m i,b∈E.m i
 o':∀i,∀b∈E'.o i,b∈E.o i
 from_:∀b∈fs.flatten,∃j,j<s.n/\(b∈E.m j\/b∈E.o j)
 nm:∀b∈fs.flatten,∀j,j<s.n->b∉E'.m j/\b∉E'.o j
 top:∀b∈fs.flatten,b∈b8 rs vs\/E.A b
 tm:∀b∈b8 rs vs,∃j,j<s.n/\b∈E.m j
theorem A8{s0 sF:AS}{E0:En}(h0:aH w0 N s0 a w E0):∀{xs:List Operand} {rs:List Rs} {s:AS} {E:En},vg s0 sF xs rs s->aH w0 N s a w E->ft w E0 s0.lv s0.c w E s.lv s.c->
 ∃E' fs,V0 w0 N s0 E0 s sF a w E (xs.map a.eval) rs E' fs
 |[],[],s,E,ht,h,hst=>by
  have ht:s=sF:=ht;subst ht
  exact⟨E,[],h,trivial,by simp,rfl,rfl,rfl,hst,λ_ _ h=>h,λ_ _ h=>h,by simp,by simp,by simp,by simp[b8]⟩
 |[],_::_,_,_,ht,_,_=>ht.elim
 |x::xs,[],_,_,ht,_,_=>ht.elim
 |x::xs,(b,ds,true)::rs,s,E,ht,h,hst=>by
  simp only[vg]at ht;split at ht
  ·rename_i b' cs he;obtain⟨rfl,s1,⟨t1,t2,t3,t4,t5⟩,ht⟩:=ht;have hev:=aP h0 x;rw[he]at hev;obtain⟨vals,hp,hcell⟩:=gU hev;obtain⟨E1,f,hg⟩:=t5 w0 N a w E vals h (hcell.stay hst)
   have hst':ft w E0 s0.lv s0.c w E1 s1.lv s1.c:=by
    refine⟨λb hb=>⟨by rw[hg.A'];exact(hst.A b hb).1,rfl⟩,λi st hlt hl=>?_,by rw[t2];exact hst.c⟩;obtain⟨k1,k2⟩:=hst.L i st hlt (t4 i st hl);exact⟨k1,by rw[hg.v];exact k2⟩
   obtain⟨E2,fs,r⟩:=A8 h0 ht hg.rep hst';have etop:b8 ((b',ds,true)::rs) (a.eval x::xs.map a.eval)=jO vals++b8 rs (xs.map a.eval):=by grind[b8,pe]
   refine⟨E2,f::fs,r.rep,⟨⟨vals,hp,hg.own⟩,r.q⟩,?_,r.n.trans t1,r.c.trans t2,r.A'.trans hg.A',r.stay,λi b hb=>hg.m' i b (r.m' i b hb),λi b hb=>hg.o' i b (r.o' i b hb),?_,?_,?_,?_⟩
   ·rw[List.flatten_cons];refine List.nodup_append.2 ⟨hg.own.nodup,r.nd,λy hy z hz e=>?_⟩;subst e;obtain⟨j,hj,hbj⟩:=r.from_ y hz;rw[t1]at hj;exact hbj.elim (hg.nm y hy j hj).1 (hg.nm y hy j hj).2
   ·intro y hy;rw[List.flatten_cons]at hy;rcases List.mem_append.1 hy with hy|hy
    ·exact hg.from_ y hy
    ·obtain⟨j,hj,hbj⟩:=r.from_ y hy;exact⟨j,by rw[t1]at hj;exact hj,hbj.imp (hg.m' j y) (hg.o' j y)⟩
   ·intro y hy j hj;rw[List.flatten_cons]at hy;rcases List.mem_append.1 hy with hy|hy
    ·exact⟨λh=>(hg.nm y hy j hj).1 (r.m' j y h),λh=>(hg.nm y hy j hj).2 (r.o' j y h)⟩
    ·exact r.nm y hy j (by rw[t1];exact hj)
   ·intro y hy;rw[List.flatten_cons]at hy;rw[List.map_cons,etop];rcases List.mem_append.1 hy with hy|hy
    ·exact(hg.top y hy).imp (λh=>List.mem_append_left _ h) id
    ·exact(r.top y hy).imp (λh=>List.mem_append_right _ h) (λh=>by rw[<-hg.A'];exact h)
   ·intro y hy;rw[List.map_cons,etop]at hy;rcases List.mem_append.1 hy with hy|hy
    ·exact hg.tm y hy
    ·obtain⟨j,hj,hb⟩:=r.tm y hy;exact⟨j,by rw[t1]at hj;exact hj,hg.m' j y hb⟩
  grind
 |x::xs,(b,ds,false)::rs,s,E,ht,h,hst=>by
  simp only[vg]at ht;split at ht
  ·rename_i b' cs he;obtain⟨rfl,hrd,ht⟩:=ht;have hev:=aP h0 x;rw[he]at hev;obtain⟨vals,hp,hcell⟩:=gU hev;obtain⟨E2,fs,r⟩:=A8 h0 ht h hst
   exact⟨E2,[]::fs,r.rep,⟨⟨vals,hp,rfl,HE r.rep (hcell.stay r.stay) hrd⟩,r.q⟩,by rw[List.flatten_cons];exact r.nd,r.n,r.c,r.A',r.stay,r.m',r.o',by rw[List.flatten_cons];exact r.from_,by rw[List.flatten_cons];exact r.nm,
    by rw[List.flatten_cons];exact r.top,r.tm⟩
  grind
theorem OQ{f:FuncId}{args:Array Operand}{ts:Array TypeId}{rs res:List Rs}{sF:AS}(ho:o.op=.call ⟨.value (.func f),args,ts⟩)(hd:dB N o.dst=true)(hm:ic P f rs res)(ht:vg s sF args.toList rs s):
 eb P N o s ((sF.pushL (b7 false res sF.c)).put o.dst (k8 res sF.n sF.c)):=by
 intro w0 a w E h;obtain⟨hc,hdp,hm⟩:=hm;obtain⟨E1,fs,r⟩:=A8 h ht h ft.refl;have hts:=AI r.q
 have hB:∀b,AM sF E1 b->b<w.heap.size/\b∉b8 rs (args.toList.map a.eval):=by
  intro b hb;refine⟨?_,λhbt=>?_⟩
  ·rcases hb with hb|⟨j,hj,hjd,hb⟩
   ·exact r.rep.A_lt b hb
   ·exact r.rep.m_lt j hj b hb
  ·rcases hb with hb|⟨j,hj,hjd,hb⟩
   ·obtain⟨j,hj,h1⟩:=r.tm b hbt;exact h.A_m b (by rw[<-r.A'];exact hb) j hj h1
   ·exact(r.nm b (hts b hbt) j (by rw[<-r.n];exact hj)).1 hb
 unfold Oper.wp;rw[lU ho hc,Oper.upon_enter];refine(hm w _ _ fs hB r.q r.nd (λb hb=>(r.top b hb).imp id λh=>.inl (by rw[r.A'];exact h))).mono ?_;rintro e w' ⟨v,rfl,hw,us,fs',hv,hq,hnd,hfg,htg⟩;simp only
 have htf:∀b∈b8 rs (args.toList.map a.eval),¬E1.A b/\w0.fr b/\∀j,j<sF.n->b∉E1.m j:=by
  intro b hb;obtain⟨j,hj,h1⟩:=r.tm b hb;exact⟨λhA=>h.A_m b (by rw[<-r.A'];exact hA) j hj h1,h.mF j hj b h1,λj hj=>(r.nm b (hts b hb) j (by rw[<-r.n];exact hj)).1⟩
 have hrep:=r.rep.wrote hw htf
 obtain⟨E2,q1,q2,q3,-⟩:=E6 res hrep hq (λb hb=>by
  rcases hfg b hb with h6|h6
  ·obtain⟨j,hj,h1⟩:=r.from_ b h6;refine⟨h1.elim (λh2=>w0.how _ (h.mF j hj b h2)) (h.oF j hj b),?_⟩;rcases r.top b h6 with h7|h7
   ·grind
   ·exact h.anc b h7
  ·have:=w0.hfr b (Nat.le_trans h.bel.size h6);exact⟨w0.how _ this,.inr this⟩) (λb hb=>(htg b hb).elim (λh6=>(htf b h6).2.1) λh6=>w0.hfr b (Nat.le_trans h.bel.size h6)) hnd (λb hb=>by
  refine⟨λhbt hA=>?_,λj hj=>?_⟩
  ·rcases htg b hbt with h6|h6
   ·grind
   ·have:=r.rep.A_lt b hA;omega
  ·rcases hfg b hb with h6|h6
   ·exact r.nm b h6 j (by rw[<-r.n];exact hj)
   ·refine⟨λhm=>?_,λhm=>?_⟩
    ·have:=r.rep.m_lt j hj b hm;omega
    ·have:=r.rep.A_lt b (r.rep.A_o j hj b hm);omega)
 exact⟨E2,q1.put (Bi (m5 q2 hq (λ_ h=>h.elim)) hv) (cn hd)⟩
def Hq:List Bool->List (Bool×List DV)->List Rs
 |g::gs,(b,ds)::ys=>(b,ds,g)::Hq gs ys
 |_,_=>[]
def Bf:Nat->Nat->List Bool
 |0,_=>[]
 |n+1,b=>(b % 2==1)::Bf n (b / 2)
end
end Go.Proofs.YtliknccmjjncbaaGreat
namespace Go.Proofs.YtliknccmjjncbaaGreat
open Go.RowKit
abbrev VC:=Bool×DV
def XF(w:World)(A:Nat->Prop)(v:Value)(d:DV):Prop:=∃t k es cells,d=.sl t k es/\w.ownsRow 0 t k v es.length cells/\0<k/\(∀e∈es,e.length=k)/\aL w A cells es.flatten
def DM(w:World)(A:Nat->Prop):List VC->List Value->List Nat->Prop
 |(false,d)::cs,v::vs,f=>aL w A [v] [d]/\DM w A cs vs f
 |(true,d)::cs,v::vs,f=>∃f',f=v.ownBlock.toList++f'/\XF w A v d/\DM w A cs vs f'
 |[],[],f=>f=[]
 |_,_,_=>False
def Zh(w w':World)(B:Nat->Prop)(g:Nat)(f f':List Nat)(b:Nat):Prop:=B b\/((b∈f\/w.heap.size<=b)/\b<w'.heap.size/\b≠g/\b∉f')
def Wc(w:World)(B:Nat->Prop)(g:Nat)(f:List Nat)(T:TypeId)(cs':List VC)(res:List (Bool×List DV))(e:Ending)(w':World):Prop:=
 ∃v,e=.returned v/\ci w w' (g::f)/\∃(vals':List Value) (f':List Nat) (us:List Value),mG w' g T vals'.toArray/\f'.Nodup/\g∉f'/\(∀b∈f',b∈f\/w.heap.size<=b)/\DM w' (Zh w w' B g f f') cs' vals' f'/\
  (if res.length=1 then us=[v]else v=.tuple us.toArray)/\dg w' (Zh w w' B g f f') us res
def TO(P:Program)(fn:FuncId)(T:TypeId)(cs:List VC)(args:List (Bool×List DV))(cs':List VC)(res:List (Bool×List DV)):Prop:=
 bc P fn=true/\∀(w:World) (B:Nat->Prop) (g:Nat) (vals:List Value) (f:List Nat) (vs:List Value),(∀b,B b->b<w.heap.size/\b≠g/\b∉f)->g∉f->f.Nodup->mG w g T vals.toArray->DM w B cs vals f->dg w B vs args->
  Calls P fn (.pointer (some ⟨g,0,none⟩)::vs).toArray w (Wc w B g f T cs' res)
section
variable {P:Program}{w0:Cx}{w w':World}{N:Nat}{s:AS}{a:Act}{E:En}{o:Oper}
def GI(pv:Bool)(st:Nat)(T:TypeId)(cs:List AC):Ob:=if pv then .pvr st T cs else .var st T cs
theorem Ai{pv:Bool}{st:Nat}{T:TypeId}{cs:List AC}:(GI pv st T cs).st=some st:=by cases pv<;>rfl
theorem Ed{cu:Option (Nat×Value)}{L:Nat->Option Nat}{c i st:Nat}{pv:Bool}{T:TypeId}{cs:List AC}(h:Pr cu w 0 E L c i (GI pv st T cs)):
 ∃g vals,st<c/\E.v i=.pointer (some ⟨g,0,none⟩)/\E.m i=[g]/\E.o i=[]/\mG w g T (vals:List Value).toArray/\aD w E L c cs vals/\(pv=true->∃u,cu=some (g,u)):=by
 cases pv with
 |true=>obtain⟨g,vals,h1,h2,h3,h4,h5,h6,h7⟩:=h;grind
 |false=>obtain⟨g,vals,h1,h2,h3,h4,_,h5,h6⟩:=h;grind
theorem Ou{cu:Option (Nat×Value)}{L:Nat->Option Nat}{c i st g:Nat}{pv:Bool}{T:TypeId}{cs:List AC}{vals:List Value}(h1:st<c)(h2:E.v i=.pointer (some ⟨g,0,none⟩))(h3:E.m i=[g])(h4:E.o i=[])(h5:mG w g T vals.toArray)(h6:aD w E L c cs vals)
 (h7:pv=true->∃u,cu=some (g,u)):Pr cu w 0 E L c i (GI pv st T cs):=by
 cases pv with
 |true=>exact⟨g,vals,h1,h2,h3,h4,h5,h6,h7 rfl⟩
 |false=>exact⟨g,vals,h1,h2,h3,h4,Nat.zero_le _,h5,h6⟩
end
end Go.Proofs.YtliknccmjjncbaaGreat
namespace Go.Proofs.YtliknccmjjncbaaGreat
open Go.RowKit
section
variable {P:Program}{w0:Cx}{w w':World}{N:Nat}{s s':AS}{a:Act}{E:En}{o:Oper}
def CG(s:AS)(k:Nat)(c:AC)(news:List (List DV)):Prop:=
 ∀w0 N a w E v,aH w0 N s a w E->dw w E s.lv s.c c v->∃(A:Option Addr) (cp:Nat) (us:List Value) (S:Nat->Prop),v=.slice A news.length cp/\Rd w S k A news.length cp us/\aL w E.A us news.flatten/\∀e∈news,e.length=k
theorem Ua{t k:Nat}{es:List (List DV)}:CG s k (.d (.sl t k es)) es:=by
 intro w0 N a w E v h hc;obtain⟨A,cp,us,e1,e2,e3,e4⟩:=xZ (show aL w E.A [v] [.sl t k es]from hc)
 grind
theorem C2{k:Nat}{c:AC}(h:c=.nil\/c=.emp):CG s k c []:=by
 intro w0 N a w E v hr hc
 have:∃A,v=.slice A 0 0:=by
  rcases h with rfl|rfl
  ·exact⟨none,hc⟩
  ·exact hc
 obtain⟨A,rfl⟩:=this;exact⟨A,0,[],λ_=>True,rfl,⟨by simp,Nat.le_refl _,Nat.zero_le _,λh=>absurd h (by simp)⟩,.nil,by simp⟩
theorem mS(h:aH w0 N s a w E){i st t k:Nat}{es:List (List DV)}{dp:Bool}(hi:s.own? i st=some (.row st t k es dp)):∃cells,w.ownsRow 0 t k (E.v i) es.length cells/\0<k/\(∀e∈es,e.length=k)/\aL w E.A cells es.flatten:=by
 obtain⟨hin,hob,hlv⟩:=am hi;have hO:=h.obj i hin;rw[hob]at hO;obtain⟨cells,hst,h1,h2,h3,h4,h5⟩:=hO;refine⟨cells,h1,h2,h3,?_⟩
 cases dp with
 |true=>simp only[if_pos]at h5;exact h5.rep.mono λb hb=>h.A_o i hin b hb
 |false=>grind
theorem Qw(h:aH w0 N s a w E){i st t k:Nat}{es:List (List DV)}{dp:Bool}(hi:s.own? i st=some (.row st t k es dp)):∃E',aH w0 N (s.frz i st (.sl t k es)) a w E':=by
 obtain⟨cells,q1,q2,q3,q4⟩:=mS h hi;obtain⟨hin,hob,hlv⟩:=am hi;have hO:=h.obj i hin;rw[hob]at hO;obtain⟨_,hst,_,_,_,h4,_⟩:=hO
 refine⟨_,h.change (i:=i) (n':=s.n) (X:=.frz st (.sl t k es)) (v':=E.v i) (m':=[]) (o':=[]) (A':=λb=>E.A b\/b∈E.m i) (c':=s.c) (w':=w) (Nat.le_refl _) (λj hj _=>hj) hin
  h.bel (Nat.le_refl _) (λ_ _ _=>rfl) (Nat.le_refl _) (.inl ⟨hin,by rw[hob];rfl,rfl⟩) (λ_ hb=>.inl hb) (λb hb=>hb.imp id λhb=>.inr (h.mF i hin b hb)) (λb hb=>?_) (by simp) (by simp) ?_ (by simp) (by simp)⟩
 ·rcases hb with hb|hb
  ·exact⟨h.A_lt b hb,by simp,λj hj _=>h.A_m b hb j hj⟩
  ·exact⟨h.m_lt i hin b hb,by simp,λj hj hne=>h.mm i j hin hj (Ne.symm hne) b hb⟩
 ·rintro s'' rfl E' rfl hstay;refine⟨hst,by grind[af],by grind[af],?_⟩;simp only[af];exact E4 q1 (λb hb=>.inr (by rw[h4,hb];simp)) q2 q3 (q4.mono λb hb=>.inl hb)
theorem LE{i st t k:Nat}{es:List (List DV)}{dp:Bool}(hi:s.own? i st=some (.row st t k es dp)):CG s k (.own i st) es:=by
 intro w0 N a w E v h hc;obtain⟨cells,h1,h2,h3,h4⟩:=mS h hi;obtain rfl:v=E.v i:=hc.2 (am hi).2.2;obtain⟨A,cp,e1,_,_⟩:=ba h1;rw[e1]at h1;exact⟨A,cp,cells,λ_=>True,e1,(Rd.of_own h1).mono λ_ _=>trivial,h4,h3⟩
theorem LA{i st t k:Nat}{es:List (List DV)}(hi:s.own? i st=some (.frz st (.sl t k es))):CG s k (.own i st) es:=by
 intro w0 N a w E v h hc;obtain⟨hin,hob,hlv⟩:=am hi;obtain rfl:v=E.v i:=hc.2 hlv;obtain⟨A,cp,us,e1,e2,e3,e4⟩:=xZ ((xB h hin hob).mono λ_ h=>h)
 grind
theorem ML{i st t k lo n:Nat}{es:List (List DV)}{dp:Bool}(hi:s.own? i st=some (.row st t k es dp)):CG s k (.sub i st k lo n) ((es.drop lo).take n):=by
 intro w0 N a w E v h hc;obtain⟨cells,h1,h2,h3,h4⟩:=mS h hi;obtain⟨A,M,cp,B,e2,e3,e4,e5,e6⟩:=hc.2 (am hi).2.2;obtain⟨A',cp',e7,h8,h9⟩:=ba h1;rw[e2]at e7;injection e7 with e7 e8 e9;subst e7 e8 e9;rw[e2]at h1;have hrd:=Rd.of_own h1;have hl:((es.drop lo).take n).length=n:=by rw[List.length_take,List.length_drop];omega
 have hf:((es.drop lo).take n).flatten=(es.flatten.drop (lo*k)).take (n*k):=eO h3;refine⟨B,cp-lo,(cells.drop (lo*k)).take (n*k),λ_=>True,by rw[hl];exact e4,?_,by rw[hf];exact(h4.drop _).take _,λe he=>h3 e (List.mem_of_mem_drop (List.mem_of_mem_take he))⟩;rw[hl];refine⟨by rw[List.length_take,List.length_drop,hrd.1,Nat.min_eq_left];rw[<-Nat.sub_mul];exact Nat.mul_le_mul_right _ (by omega),by omega,by omega,λhn=>?_⟩;obtain⟨g,cap',hv,hb,hlt⟩:=h1.form (by omega);injection hv with e7 e8 e9;subst e7;have hadd:∀(b off j:Nat),(⟨b,off,none⟩:Addr).add j=⟨b,off+j,none⟩:=by intro b off j;unfold Addr.add;split<;>simp_all
 refine⟨⟨g,0+lo*k,none⟩,by rw[e6 hn];grind,trivial,λj u hu=>?_⟩;rw[List.getElem?_take]at hu;split at hu
 ·rw[List.getElem?_drop]at hu;have:=h1.cells (g:=g) rfl _ _ hu;rw[hadd]at this ⊢;rw[Nat.add_assoc];omega
 grind
def AS.shal(s:AS)(i st t k:Nat)(es:List (List DV)):AS:={s with ob:=upd s.ob i (.row st t k es false)}
theorem Oy{i st t k:Nat}{es:List (List DV)}{dp:Bool}(hi:s.own? i st=some (.row st t k es dp)):(s.shal i st t k es).own? i st=some (.row st t k es false):=by
 obtain⟨hin,hob,hlv⟩:=am hi;simp_all[AS.own?,AS.shal,af,Ob.st]
theorem II(h:aH w0 N s a w E){i st t k:Nat}{es:List (List DV)}{dp:Bool}(hi:s.own? i st=some (.row st t k es dp)):∃E',aH w0 N (s.shal i st t k es) a w E'/\E'.v i=E.v i:=by
 obtain⟨cells,q1,q2,q3,q4⟩:=mS h hi;obtain⟨hin,hob,hlv⟩:=am hi;have hO:=h.obj i hin;rw[hob]at hO;obtain⟨_,hst,_,_,_,h4,_⟩:=hO
 refine⟨_,h.change (i:=i) (n':=s.n) (X:=.row st t k es false) (v':=E.v i) (m':=E.m i) (o':=[]) (A':=E.A) (c':=s.c) (w':=w) (Nat.le_refl _) (λj hj _=>hj) hin
  h.bel (Nat.le_refl _) (λ_ _ _=>rfl) (Nat.le_refl _) (.inl ⟨hin,by rw[hob];rfl,rfl⟩) (λ_ hb=>hb) (λ_ hb=>.inl hb)
  (λb hb=>⟨h.A_lt b hb,h.A_m b hb i hin,λj hj _=>h.A_m b hb j hj⟩)
  (λb hb=>⟨h.m_lt i hin b hb,λj hj hne=>h.mm i j hin hj (Ne.symm hne) b hb⟩) (by simp) (by
   rintro s'' rfl E' rfl hstay;refine⟨cells,hst,by grind[af],q2,q3,by grind[af],?_⟩
   simp_all[Bool.false_eq_true,if_false,af,trivial]) (h.mF i hin) (by simp),by grind[af]⟩
def AS.cutS(s:AS)(i t k n:Nat)(es:List (List DV)):AS:={s with ob:=upd s.ob i (.row s.c t k (es.take n) false),c:=s.c+1}
theorem Oe{i t k n:Nat}{es:List (List DV)}(hi:i<s.n):(s.cutS i t k n es).own? i s.c=some (.row s.c t k (es.take n) false):=by
 simp_all[AS.own?,AS.cutS,af,Ob.st]
theorem IE(h:aH w0 N s a w E){i st t k n N0 cp:Nat}{A:Option Addr}{es:List (List DV)}{dp:Bool}(hi:s.own? i st=some (.row st t k es dp))(hE:E.v i=.slice A N0 cp)(hn:n<=es.length):
 ∃E',aH w0 N (s.cutS i t k n es) a w E'/\E'.v i=.slice A n cp/\∀j,j≠i->E'.v j=E.v j:=by
 obtain⟨cells,q1,q2,q3,q4⟩:=mS h hi;obtain⟨hin,hob,hlv⟩:=am hi;have hO:=h.obj i hin;rw[hob]at hO;obtain⟨_,hst,_,_,_,h4,_⟩:=hO;obtain⟨A',c',e6,_,_⟩:=ba q1;rw[hE]at e6;injection e6 with g1 g2 g3;subst g2 g3;rw[hE]at q1;have h1':=DX q1 hn
 have hft:(es.take n).flatten=es.flatten.take (n*k):=by
  have:=eO (l:=0) (m:=n) q3
  grind
 refine⟨_,h.change (i:=i) (n':=s.n) (X:=.row s.c t k (es.take n) false) (v':=.slice A n cp) (m':=E.m i) (o':=[]) (A':=E.A) (c':=s.c+1) (w':=w) (Nat.le_refl _) (λj hj _=>hj) hin
  h.bel (Nat.le_refl _) (λ_ _ _=>rfl) (by omega) (.inr λst he=>by grind[Ob.st]) (λ_ hb=>hb) (λ_ hb=>.inl hb)
  (λb hb=>⟨h.A_lt b hb,h.A_m b hb i hin,λj hj _=>h.A_m b hb j hj⟩)
  (λb hb=>⟨h.m_lt i hin b hb,λj hj hne=>h.mm i j hin hj (Ne.symm hne) b hb⟩) (by simp) (by
   rintro s'' rfl E' rfl hstay;refine⟨cells.take (n*k),by omega,?_,q2,λe he=>q3 e (List.mem_of_mem_take he),?_,?_⟩
   ·grind[af,List.length_take,Nat.min_eq_left]
   ·simp only[af];rw[h4,hE];cases A<;>rfl
   ·simp only[Bool.false_eq_true,if_false,af]
    rw[hft];exact⟨trivial,q4.take _⟩) (h.mF i hin) (by simp),by grind[af],λj hj=>by grind[aJ]⟩
theorem KH(h:aH w0 N s a w E){el k:Nat}(hk:0<k):∃E',aH w0 N (s.push (.row s.c el k [] false)) a w E'/\E'.v s.n=.slice none 0 0:=by
 refine⟨_,h.pushOb (X:=.row s.c el k [] false) (v':=.slice none 0 0) (m':=[]) (o':=[]) (w':=w) rfl (Below.refl _ _) (by simp) (by simp) (by simp) (by
  rintro E' rfl hstay;refine⟨[],by omega,by simp only[af];exact World.ownsRow_nil _ _ _ _,hk,by simp,by simp only[af];rfl,?_⟩
  simp only[Bool.false_eq_true,if_false,af];exact⟨trivial,.nil⟩),by grind[af]⟩
theorem Rr{s':AS}{X Y:Operand}{t el:TypeId}{k i st by_:Nat}{es news:List (List DV)}{zs:List Value}{c:AC}
 (ho:o.op=.call ⟨.builtin .append,#[X,Y],#[t,t]⟩) (hd:∀q,o.dst=some q->q<N) (ht:dN P t=some (el,k)) (hz:aT P el=some zs) (hzl:zs.length=k) (hby:dW P el=some by_)
 (hT:∀w0 N a w E,aH w0 N s a w E->∃E',aH w0 N s' a w E'/\a.eval X=E'.v i) (hY:s'.ev Y=.p false [c]) (hsrc:CG s' k c news) (hi':s'.own? i st=some (.row st el k es false))
 (h63:es.length+news.length<=maxLen) (hbytes:(es.length+news.length)*by_<=140737488355328):
 eb P N o s ({s' with ob:=upd s'.ob i (.row s'.c el k (es++news) false),c:=s'.c+1}.put o.dst (.p false [.own i s'.c])):=by
 intro w0 a w E0 h0;obtain⟨E,h,hX⟩:=hT w0 N a w E0 h0;have e2:=aP h Y;rw[hY]at e2;obtain⟨A,cp,us,S,eY,hrd,hrep,hun⟩:=hsrc w0 N a w E _ h (aE e2);obtain⟨cells,h1,h2,h3,h5⟩:=mS h hi';obtain⟨hin,hob,hlv⟩:=am hi';have hO:=h.obj i hin;rw[hob]at hO;obtain⟨_,hst,_,_,_,h4,_⟩:=hO;obtain⟨hu,hsz⟩:=ka ht;unfold aT at hz;unfold cG at hsz;unfold dW at hby
 cases hi:P.info? el with
 |none=>grind
 |some ie=>
  simp[hi]at hsz hby
  cases hzz:ie.zero with
  |none=>grind
  |some z=>
   simp[hi,hzz]at hz;have hzc:z.cells.size=k:=by rw[<-hzl,<-hz];simp
   unfold Oper.wp;obtain⟨v',w',bD,hown,hgr,hblk⟩:=jH (P:=P) w 0 t o.type el ie z k by_ hu hi hzz hsz hby hzc h2 (E.v i) es.length cells h1 S A news.length cp us hrd hrep.one h63 hbytes (Nat.zero_le _)
   have hrun':(execOp a.eval o).run P w=.ok (.value v') w':=by
    simp only[execOp,ho,resolve,invoke,builtin,Sem.run_bind,Sem.run_pure,Result.andThen_ok,List.map_toArray,List.map_cons,List.map_nil,hX,eY,bD]
   rw[hrun',Oper.upon_value];have hmge:∀b,(E.v i).ownBlock=some b->w0.fr b:=λb hb=>h.mF i hin b (by rw[h4,hb];simp)
   have hbel:GP w0 w':=⟨hgr.os.trans h.bel.os,hgr.tape.trans h.bel.tape,hgr.output.trans h.bel.output,Nat.le_trans h.bel.size hgr.size,λb hb=>(hgr.block b (Nat.lt_of_lt_of_le (Cx.lt hb) h.bel.size) (λe=>hb (hmge b e.symm))).trans (h.bel.block b hb)⟩
   have hm':∀b∈v'.ownBlock.toList,b∈E.m i\/b=w.heap.size:=by
    grind
   have hAm:∀b,E.A b->b∉v'.ownBlock.toList:=by
    intro b hbA hbm;rcases hm' b hbm with h6|h6
    ·exact h.A_m b hbA i hin h6
    ·have:=h.A_lt b hbA;omega
   have hsame:∀b,E.A b->w'.heap[b]? =w.heap[b]?:=λb hb=>hgr.block b (h.A_lt b hb) (λe=>h.A_m b hb i hin (by rw[h4,<-e];simp))
   have hch:=h.change (i:=i) (n':=s'.n) (X:=.row s'.c el k (es++news) false) (v':=v') (m':=v'.ownBlock.toList) (o':=[]) (A':=E.A) (c':=s'.c+1) (w':=w') (Nat.le_refl _) (λj hj _=>hj) hin
    hbel hgr.size (λq hq hm=>hgr.block q hq (λe=>hm hin (by rw[h4,<-e];simp))) (by omega) (.inr λst he=>by grind[Ob.st]) (λ_ hb=>hb) (λ_ hb=>.inl hb)
    (λb hb=>⟨Nat.lt_of_lt_of_le (h.A_lt b hb) hgr.size,hAm b hb,λj hj _=>h.A_m b hb j hj⟩)
    (λb hb=>⟨(fZ hown (by grind)).2,λj hj hne hbj=>by
     rcases hm' b hb with h6|h6
     ·exact h.mm i j hin hj (Ne.symm hne) b h6 hbj
     ·have:=h.m_lt j hj b hbj;omega⟩) (by simp) (by
     rintro s'' rfl E' rfl hstay;refine⟨_,by omega,by simp only[af,List.length_append];exact hown,h2,?_,by grind[af],?_⟩
     ·grind
     ·simp only[Bool.false_eq_true,if_false,af,List.flatten_append];exact⟨trivial,(h5.app hrep).keep λb hb=>hsame b hb⟩) (λb hb=>by
     rcases hm' b hb with h6|h6
     ·grind
     ·exact w0.hfr b (by rw[h6];exact h.bel.size)) (by simp)
   refine⟨_,hch.put (x:=.p false [.own i s'.c]) ?_ hd⟩;exact aN ⟨by simp,λ_=>by grind[af]⟩
def AS.cutC(s:AS)(i st j:Nat)(pv:Bool)(T:TypeId)(acs:List AC)(r t k n:Nat)(es:List (List DV)):AS:={s.cutS r t k n es with ob:=upd (s.cutS r t k n es).ob i (GI pv st T (acs.set j (.own r s.c)))}
theorem PD(h:aH w0 N s a w E){i st j r sr t k n:Nat}{pv:Bool}{T:TypeId}{acs:List AC}{es:List (List DV)}{dp:Bool}(hi:s.own? i st=some (GI pv st T acs))(hj:acs[j]? =some (.sub r sr k 0 n))(hr:s.own? r sr=some (.row sr t k es dp))(hn:n<=es.length):
 ∃E',aH w0 N (s.cutC i st j pv T acs r t k n es) a w E':=by
 obtain⟨hin,hob,hlv⟩:=am hi;obtain⟨rin,rob,rlv⟩:=am hr;have hne:i≠r:=λe=>by subst e;rw[hob]at rob;cases pv<;>cases rob
 have h0:=h.obj i hin;rw[hob]at h0;obtain⟨g,vals,q0,q1,q2,q3,q4,q5,q6⟩:=Ed h0;have hjl:j<vals.length:=by rw[<-q5.1];grind
 have hu:=q5.2 j _ _ hj (List.getElem?_eq_getElem hjl);obtain⟨A,M,cp,B,e2,e3,e4,e5,e6⟩:=hu.2 rlv;obtain rfl:=e5 rfl;obtain⟨E1,h1,hv,hvo⟩:=IE h hr e2 hn;have hin':i<(s.cutS r t k n es).n:=hin;have hob':(s.cutS r t k n es).ob i=GI pv st T acs:=by simp_all[AS.cutS,aJ]
 have hO:=h1.obj i hin';rw[hob']at hO;obtain⟨g',vals',p0,p1,p2,p3,p4,p5,p6⟩:=Ed hO;have hg:g'=g:=by rw[hvo i hne,q1]at p1;grind
 subst hg
 have hvals:vals'=vals:=by
  have h4:(some (Obj.cells vals'.toArray T):Option Obj)=some (Obj.cells vals.toArray T):=p4.symm.trans q4
  grind
 subst hvals
 refine⟨_,h1.change (i:=i) (n':=(s.cutS r t k n es).n) (X:=GI pv st T (acs.set j (.own r s.c))) (v':=E1.v i) (m':=E1.m i) (o':=[]) (A':=E1.A) (c':=(s.cutS r t k n es).c) (w':=w) (Nat.le_refl _) (λj hj _=>hj) hin'
  h1.bel (Nat.le_refl _) (λ_ _ _=>rfl) (Nat.le_refl _) (.inl ⟨hin',by rw[hob',Ai,Ai],rfl⟩) (λ_ hb=>hb) (λ_ hb=>.inl hb)
  (λb hb=>⟨h1.A_lt b hb,h1.A_m b hb i hin',λj hj _=>h1.A_m b hb j hj⟩)
  (λb hb=>⟨h1.m_lt i hin' b hb,λj hj hne=>h1.mm i j hin' hj (Ne.symm hne) b hb⟩) (by simp) (by
   rintro s'' rfl E' rfl hstay;refine Ou (vals:=vals') p0 (by grind[af]) (by grind[af]) (by grind[af]) p4 ?_ p6;have q5':=p5.stay hstay;refine⟨by simpa using q5'.1,λp x u hp hu=>?_⟩;rw[List.getElem?_set]at hp;split at hp
   ·rename_i e;subst e;split at hp
    ·injection hp with hp;subst hp;refine⟨by simp[AS.cutS],λ_=>?_⟩;simp_all[upd,aJ,Ne.symm,List.getElem?_eq_getElem]
    grind
   ·exact q5'.2 _ _ _ hp hu) (h1.mF i hin') (by simp)⟩
def AS.datD(s:AS)(i st j:Nat)(pv:Bool)(T:TypeId)(acs:List AC)(d:DV):AS:={s with ob:=upd s.ob i (GI pv st T (acs.set j (.d d)))}
theorem JH(h:aH w0 N s a w E){i st j:Nat}{pv:Bool}{T:TypeId}{acs:List AC}{c:AC}{d:DV}(hi:s.own? i st=some (GI pv st T acs))(hj:acs[j]? =some c)(hc:∀u,dw w E s.lv s.c c u->aL w E.A [u] [d]):∃E',aH w0 N (s.datD i st j pv T acs d) a w E':=by
 obtain⟨hin,hob,hlv⟩:=am hi;have hO:=h.obj i hin;rw[hob]at hO;obtain⟨g,vals,q0,q1,q2,q3,q4,q5,q6⟩:=Ed hO
 refine⟨_,h.change (i:=i) (n':=s.n) (X:=GI pv st T (acs.set j (.d d))) (v':=E.v i) (m':=E.m i) (o':=[]) (A':=E.A) (c':=s.c) (w':=w) (Nat.le_refl _) (λj hj _=>hj) hin
  h.bel (Nat.le_refl _) (λ_ _ _=>rfl) (Nat.le_refl _) (.inl ⟨hin,by rw[hob,Ai,Ai],rfl⟩) (λ_ hb=>hb) (λ_ hb=>.inl hb)
  (λb hb=>⟨h.A_lt b hb,h.A_m b hb i hin,λj hj _=>h.A_m b hb j hj⟩)
  (λb hb=>⟨h.m_lt i hin b hb,λj hj hne=>h.mm i j hin hj (Ne.symm hne) b hb⟩) (by simp) (by
   rintro s'' rfl E' rfl hstay;refine Ou (vals:=vals) q0 (by simp only[af];exact q1) (by simp only[af];exact q2) (by simp only[af]) q4 ?_ q6;have q5':=q5.stay hstay;refine⟨by simpa using q5'.1,λp x u hp hu=>?_⟩;rw[List.getElem?_set]at hp;split at hp
   ·rename_i e;subst e;split at hp
    ·injection hp with hp;subst hp;exact hc u (q5.2 _ _ _ hj hu)
    ·cases hp
   ·exact q5'.2 _ _ _ hp hu) (h.mF i hin) (by simp)⟩
def AS.nilD(s:AS)(i st el k j:Nat)(pv:Bool)(T:TypeId)(acs:List AC):AS:=s.datD i st j pv T acs (.sl el k [])
theorem PI(h:aH w0 N s a w E){i st el k j:Nat}{pv:Bool}{T:TypeId}{acs:List AC}(hk:0<k)(hi:s.own? i st=some (GI pv st T acs))(hj:acs[j]? =some .nil):∃E',aH w0 N (s.nilD i st el k j pv T acs) a w E':=
 JH h hi hj λu hu=>by
  obtain rfl:u=.slice none 0 0:=hu;have h0:=aR.sl (w:=w) (base:=0) (v:=.slice none 0 0) (t:=el) (k:=k) (es:=[]) (cells:=[]) (g:=[]) (vs:=[]) (ds:=[]) (f:=[]) (World.ownsRow_nil _ _ _ _) hk (by simp) .nil .nil (by simp[Value.ownBlock]);exact h0.rep.mono λb hb=>by simp[Value.ownBlock]at hb
theorem Qe(h:aH w0 N s a w E){i st j i2 st2:Nat}{pv:Bool}{T:TypeId}{acs:List AC}{d:DV}(hi:s.own? i st=some (GI pv st T acs))(hj:acs[j]? =some (.own i2 st2))(h2:s.own? i2 st2=some (.frz st2 d)):∃E',aH w0 N (s.datD i st j pv T acs d) a w E':=
 JH h hi hj λu hu=>by
  obtain⟨hin,hob,hlv⟩:=am h2;have hO:=h.obj i2 hin;rw[hob]at hO;obtain rfl:u=E.v i2:=hu.2 hlv;exact hO.2.2.2
theorem PB{X Y:Operand}{t el:TypeId}{k by_:Nat}{zs:List Value}{c:AC}
 (ho:o.op=.call ⟨.builtin .append,#[X,Y],#[t,t]⟩) (hd:∀q,o.dst=some q->q<N) (ht:dN P t=some (el,k)) (hz:aT P el=some zs) (hzl:zs.length=k)
 (hX:s.ev X=.p false [.emp]) (hY:s.ev Y=.p false [c]) (hsrc:CG s k c []):eb P N o s (s.put o.dst (.p false [.emp])):=by
 intro w0 a w E h;have e1:=aP h X;have e2:=aP h Y;rw[hX]at e1;rw[hY]at e2;obtain⟨A,cp,us,S,eY,hrd,hrep,hun⟩:=hsrc w0 N a w E _ h (aE e2);obtain⟨A0,eX⟩:=aE e1;obtain⟨hu,hsz⟩:=ka ht;unfold aT at hz;unfold cG at hsz
 cases hi:P.info? el with
 |none=>grind
 |some ie=>
  simp[hi]at hsz;unfold Oper.wp;have bD:=nI (P:=P) (w:=w) t o.type el ie k hu hi hsz A0 A cp
  have hrun':(execOp a.eval o).run P w=.ok (.value (.slice A0 0 0)) w:=by
   simp only[execOp,ho,resolve,invoke,builtin,Sem.run_bind,Sem.run_pure,Result.andThen_ok,List.map_toArray,List.map_cons,List.map_nil,eX,eY,List.length_nil,bD]
  rw[hrun',Oper.upon_value];exact⟨_,h.put (x:=.p false [.emp]) (aN ⟨A0,rfl⟩) hd⟩
theorem Ps{X Y:Operand}{t el:TypeId}{k by_:Nat}{news:List (List DV)}{zs:List Value}{c:AC}
 (ho:o.op=.call ⟨.builtin .append,#[X,Y],#[t,t]⟩) (hd:∀q,o.dst=some q->q<N) (ht:dN P t=some (el,k)) (hz:aT P el=some zs) (hzl:zs.length=k) (hk:0<k) (hby:dW P el=some by_)
 (hX:s.ev X=.p false [.emp]) (hY:s.ev Y=.p false [c]) (hsrc:CG s k c news) (hne:0<news.length)
 (h63:news.length<=maxLen) (hbytes:news.length*by_<=140737488355328):
 eb P N o s ((s.push (.row s.c el k news false)).put o.dst (.p false [.own s.n s.c])):=by
 intro w0 a w E h;have e1:=aP h X;have e2:=aP h Y;rw[hX]at e1;rw[hY]at e2;obtain⟨A,cp,us,S,eY,hrd,hrep,hun⟩:=hsrc w0 N a w E _ h (aE e2);obtain⟨A0,eX⟩:=aE e1;obtain⟨hu,hsz⟩:=ka ht;unfold aT at hz;unfold cG at hsz;unfold dW at hby
 cases hi:P.info? el with
 |none=>grind
 |some ie=>
  simp[hi]at hsz hby
  cases hzz:ie.zero with
  |none=>grind
  |some z=>
   simp[hi,hzz]at hz;have hzc:z.cells.size=k:=by rw[<-hzl,<-hz];simp
   unfold Oper.wp;obtain⟨v',w',bD,hown,hb⟩:=jx (P:=P) (w:=w) t o.type el ie z k by_ hu hi hzz hsz hby hzc hk A0 S A news.length cp us hrd hrep.one h63 hbytes hne
   have hrun':(execOp a.eval o).run P w=.ok (.value v') w':=by
    simp only[execOp,ho,resolve,invoke,builtin,Sem.run_bind,Sem.run_pure,Result.andThen_ok,List.map_toArray,List.map_cons,List.map_nil,eX,eY,bD]
   rw[hrun',Oper.upon_value];have h0:=h.world hb (A':=E.A) (λ_ h=>h) (λb hb=>.inl hb);have hm:∀b∈v'.ownBlock.toList,w.heap.size<=b/\b<w'.heap.size:=λb hbm=>fZ hown (by grind)
   have h1:=h0.pushOb (X:=.row s.c el k news false) (v':=v') (m':=v'.ownBlock.toList) (o':=[]) (w':=w') rfl (Below.refl _ _) (λb hbm=>
    ⟨(hm b hbm).2,λhA=>by have:=h.A_lt b hA;have:=hm b hbm;omega,λj hj hmj=>by have:=h.m_lt j hj b hmj;have:=hm b hbm;omega⟩) (by simp) (by simp) (by
    rintro E' rfl hstay;refine⟨us,by omega,by simp only[af];grind[oC],hk,hun,by grind[af],?_⟩;simp only[Bool.false_eq_true,if_false,af]
    exact⟨trivial,(hrep.keep λb hbA=>hb.block b (h.A_lt b hbA)).mono λb hb=>.inl hb⟩) (λb hbm=>w0.hfr b (Nat.le_trans h.bel.size (hm b hbm).1))
   exact⟨_,h1.put (x:=.p false [.own s.n s.c]) (aN ⟨by simp[AS.push],λ_=>by grind[af]⟩) hd⟩
theorem Qi{t t':TypeId}{x y:Operand}{i st k j off:Nat}{dp:Bool}{es:List (List DV)}{e ds:List DV}{xs:List AC}(ho:o.op=.store t x y)(hd:o.dst=none)(hx:s.ev x=.p false [.elt i st k j off])
 (hi:s.own? i st=some (.row st t' k es dp)) (he:es[j]? =some e) (hy:bV s (s.ev y)=some xs) (hsz:cG P t=some xs.length) (hl:off+xs.length<=k) (hrd:CN s xs ds):
 eb P N o s (s.shal i st t' k (es.set j (plug off ds e))):=by
 intro w0 a w E h;have hp:=aP h x;rw[hx]at hp;obtain⟨g,n,cp,hEv,e2⟩:=(aE hp).2 (am hi).2.2;obtain⟨c1,c2⟩:=cZ h hy (aP h y);have hrep:=Eu h c1 hrd;obtain⟨cells,h1,h2,h3,h5⟩:=mS h hi;obtain⟨hin,hob,hlv⟩:=am hi;have hO:=h.obj i hin;rw[hob]at hO;obtain⟨_,hst,_,_,_,h4,_⟩:=hO;obtain⟨A',c',hv',_,_⟩:=ba h1;rw[hEv]at hv';injection hv' with _ hnn _;subst hnn;rw[hEv]at h1 h4;simp[Value.ownBlock,Option.toList_some]at h4;have hlen:(a.eval y).cells.toList.length=xs.length:=c1.1.symm;have hdl:ds.length=xs.length:=by have:=hrep.len;omega
 have hj:j<es.length:=(List.getElem?_eq_some_iff.1 he).1;have hcl:cells.length=es.length*k:=h1.1;have hjk:(j+1)*k<=es.length*k:=Nat.mul_le_mul_right _ hj;rw[Nat.succ_mul]at hjk
 have bD:=Ao (P:=P) (w:=w) (b:=g) (off:=j*k+off) (v:=a.eval y) (by rw[hlen];exact hsz) (λq hq=>by
  have:=h1.cellAt (j*k+off+q) (by omega)
  rw[this,List.getElem?_eq_getElem (by omega)];rfl) (λq=>h1.frozenAt q) c2
 unfold Oper.wp
 have hrun':(execOp a.eval o).run P w=.ok .skip (w.setCells g (j*k+off) (a.eval y).cells.toList):=by
  simp only[execOp,ho,e2];rw[Sem.run_bind,bD];rfl
 rw[hrun',Oper.upon_skip,hd];obtain⟨k1,k2,k3,k4,k5⟩:=cj (g:=g) (us:=(a.eval y).cells.toList) (off:=j*k+off) (w:=w);obtain⟨p1,p2⟩:=nh (a.eval y).cells.toList w cells (j*k+off) h1;rw[jS _ _ _ (by omega)]at p1
 have hnew:aL w E.A (cells.take (j*k+off)++(a.eval y).cells.toList++cells.drop (j*k+off+(a.eval y).cells.toList.length)) ((es.set j (plug off ds e)).flatten):=by
  rw[Dy h3 he (by omega)];unfold plug;rw[hlen,<-hdl];exact((h5.take _).app hrep).app (h5.drop _)
 exact⟨_,h.change (i:=i) (n':=s.n) (X:=.row st t' k (es.set j (plug off ds e)) false) (v':=E.v i) (m':=E.m i) (o':=[]) (A':=E.A) (c':=s.c) (w':=w.setCells g (j*k+off) (a.eval y).cells.toList) (Nat.le_refl _) (λj hj _=>hj) hin
  (h.bel.setCells (h.mF i hin g (by rw[h4];simp))) (by rw[k1];omega) (λq hk hm=>k2 q (λe=>hm hin (by rw[h4,e];simp))) (Nat.le_refl _) (.inl ⟨hin,by rw[hob];rfl,rfl⟩) (λ_ hb=>hb) (λ_ hb=>.inl hb)
  (λb hb=>⟨by rw[k1];exact h.A_lt b hb,h.A_m b hb i hin,λj hj _=>h.A_m b hb j hj⟩) (λb hb=>⟨by rw[k1];exact h.m_lt i hin b hb,λj hj hne=>h.mm i j hin hj (Ne.symm hne) b hb⟩) (by simp) (by
   rintro s'' rfl E' rfl hstay;refine⟨_,hst,by simp[af,List.length_set,hEv];exact p1,h2,λe' he'=>?_,by simp[af,hEv];exact h4,?_⟩
   ·grind[AY]
   ·simp only[Bool.false_eq_true,if_false,af]
    exact⟨trivial,hnew.keep λb hb=>k2 b λe=>h.A_m b hb i hin (by rw[h4,e];simp)⟩) (h.mF i hin) (by simp)⟩
end
end Go.Proofs.YtliknccmjjncbaaGreat
namespace Go.Proofs.YtliknccmjjncbaaGreat
open Go.RowKit
def TD(t:TypeId)(x:DV)(cs:List DV):DV:=.sl t 0 [[x],cs]
def Yr(w:World)(B:Nat->Prop)(g:Nat)(u:Value)(t:TypeId)(x:DV)(res:List Rs)(cs':List DV)(e:Ending)(w':World):Prop:=
 ∃v,e=.returned v/\ci w w' [g]/\(∃(us:List Value) (fs:List (List Nat)),(if res.length=1 then us=[v]else v=.tuple us.toArray)/\bH w' w.heap.size (λ_=>False) us res fs/\fs.flatten.Nodup)/\PX w' B g u t x cs'
def Uc(P:Program)(f:FuncId)(t:TypeId)(x:DV)(cs:List DV)(args:List (Bool×List DV))(res:List Rs)(cs':List DV):Prop:=
 bc P f=true/\(∀r∈res,r.2.2=true)/\∀(w:World) (B:Nat->Prop) (g:Nat) (u:Value) (vs:List Value),(∀b,B b->b<w.heap.size/\b≠g)->g<w.heap.size->PX w B g u t x cs->dg w B vs args->
  Calls P f (.pointer (some ⟨g,0,none⟩)::vs).toArray w (Yr w B g u t x res cs')
def SP(P:Program)(f:FuncId)(args:List (Bool×List DV))(t:TypeId)(x:DV)(cs':List DV):Prop:=
 bc P f=true/\∀(w:World) (B:Nat->Prop) (vs:List Value),(∀b,B b->b<w.heap.size)->dg w B vs args->
  Calls P f vs.toArray w λe w'=>∃g u,e=.returned (.pointer (some ⟨g,0,none⟩))/\w.heap.size<=g/\g<w'.heap.size/\Below w.heap.size w w'/\PX w' (λb=>B b\/(w.heap.size<=b/\b<w'.heap.size/\b≠g)) g u t x cs'
section
variable {P:Program}{w0:Cx}{w w':World}{N:Nat}{s:AS}{a:Act}{E:En}{o:Oper}
def s9(P:Program)(N:Nat)(o:Oper)(s s':AS)(X:Option Nat):Prop:=
 ∀w0 a w E,aH w0 N s a w E->o.wp P a w (λa' w'=>(∃E',aH w0 N s' a' w' E')/\(∃v,a'=a.put o.dst v)/\w.heap.size<=w'.heap.size/\
  ∀b,b<w.heap.size->(∀x,X=some x->∀g,a.tmps.getD x undef=.pointer (some ⟨g,0,none⟩)->b≠g)->w'.heap[b]? =w.heap[b]?) (λ_ _ _=>False)
theorem s9.step{s':AS}{X:Option Nat}(h:s9 P N o s s' X):eb P N o s s':=λw0 a w E hr=>Oper.wp_mono (λ_ _ h=>h.1) (h w0 a w E hr)
theorem dH.toK{x:AV}{news:List Ob}(h:dH P o s x news)(hd:∀k,o.dst=some k->k<N):s9 P N o s ((s.pushL news).put o.dst x) none:=by
 intro w0 a w E hr;refine Oper.wp_mono (λa' w' hp=>?_) (h w0 N a w E hr);obtain⟨v,E',rfl,hb,_,h1,h2⟩:=hp;exact⟨⟨E',h1.put h2 hd⟩,⟨v,rfl⟩,hb.size,λb hlt _=>hb.block b hlt⟩
end
inductive eC(P:Program):Nat->List (Bool×List DV)->List Rs->Prop
 |n {f ys res}:aB P f ys res->eC P f ys res
 |p {f ys res}:LH P f ys res->eC P (1000000+f) ys res
 |c {f t x cs ys res cs'}:Uc P f t x cs ys res cs'->eC P (2000000+f) ((false,[TD t x cs])::ys) (res++[(false,[TD t x cs'],true)])
 |w {f ys t x cs'}:SP P f ys t x cs'->eC P (3000000+f) ys [(false,[TD t x cs'],true)]
 |g {f bits ys res}:bits<1000->ic P f (Hq (Bf ys.length bits) ys) res->eC P ((4+bits)*1000000+f) ys res
 |v {f bits T cs ys cs' res}:bits<64->TO P f T ((Bf cs.length bits).zip cs) ys ((Bf cs.length bits).zip cs') res->eC P ((1000000+(T*64+bits))*1000000+f) ((true,cs)::ys) ((true,cs',true)::res.map λr=>(r.1,r.2,true))
 |a {f k ys res}:k<900000->sx P f (yj k ys) res->eC P ((2000+k)*1000000+f) ys res
theorem eC.plain{P:Program}{f:Nat}{ys:List (Bool×List DV)}{res:List Rs}(h:eC P f ys res)(hf:f<1000000):aB P f ys res:=by
 cases h with
 |n h=>exact h
 |p h=>omega
 |c h=>omega
 |w h=>omega
 |g _ h=>omega
 |v _ h|a _ h=>omega
end Go.Proofs.YtliknccmjjncbaaGreat
namespace Go.Proofs.YtliknccmjjncbaaGreat
open Go.RowKit
section
variable {P:Program}{md:Region.Mode}{Q:Exit->Act->World->Prop}{l l':List Oper}{σ:Nat->Nat}{n:Nat}
end
end Go.Proofs.YtliknccmjjncbaaGreat
namespace Go.Proofs.YtliknccmjjncbaaGreat
open Go.RowKit
def mY{α:Type}(es:List α)(a m b m':Nat):List α:=plug a ((es.drop b).take (min m' m)) es
section
variable {P:Program}{w0:Cx}{w w':World}{N:Nat}{s:AS}{a:Act}{E:En}{o:Oper}
theorem OR{t ty el:TypeId}{i:TypeInfo}{k:Nat}(ht:P.underlying t=some (.slice el))(hi:P.info? el=some i)(hsz:i.size=k){X Y:Option Addr}{n c n' c' g off:Nat}{news:List Value}
 (hn:news.length=min n' n*k) (hX:0<min n' n->X=some ⟨g,off,none⟩) (hY:0<min n' n->∃ad,Y=some ad/\∀j u,news[j]? =some u->w.cell? (ad.add j)=some u)
 (hc:∀j,j<news.length->(w.cell? ⟨g,off+j,none⟩).isSome=true) (hf:∀j,w.frozen? ⟨g,j,none⟩=false) (h1:∀v∈news,v.oneCell'=true):
 (Builtin.copy_ #[t,t] ty #[.slice X n c,.slice Y n' c']).run P w=.ok (.int .i64 (min n' n:Nat)) (w.setCells g off news):=by
 rcases Nat.eq_zero_or_pos (min n' n)with h0|h0
 ·have hnil:news=[]:=List.eq_nil_of_length_eq_zero (by rw[hn,h0,Nat.zero_mul]);subst hnil;have hm:Nat.min n' n=0:=h0;cases X<;>cases Y<;>simp[Builtin.copy_,run_underlying ht,sizeOf,typeInfo,hi,Builtin.lenOf,hm,Builtin.firstCells,loadCells,loadCellsFrom,storeCells,h0]<;>exact⟨rfl,rfl⟩
 ·obtain rfl:=hX h0;obtain⟨ad,rfl,hcl⟩:=hY h0;have hl:=run_loadCells_list (P:=P) w ad news hcl;rw[hn]at hl;have hst:=run_storeCells_cells (P:=P) g off news 0 w (λj hj=>by grind) (λj hj=>hf _) h1;rw[Nat.add_zero]at hst;have hm:Nat.min n' n=min n' n:=rfl;simp[Builtin.copy_,run_underlying ht,sizeOf,typeInfo,hi,hsz,Builtin.lenOf,hm,Builtin.firstCells,hl,hst];rfl
theorem Ni{es:List (List DV)}{k lo n lo' n':Nat}(hk:∀e∈es,e.length=k)(h1:lo+n<=es.length)(h2:lo'+n'<=es.length):
 (mY es lo n lo' n').flatten=plug (lo*k) ((es.flatten.drop (lo'*k)).take (min n' n*k)) es.flatten/\(mY es lo n lo' n').length=es.length/\∀e∈mY es lo n lo' n',e.length=k:=by
 have hl:((es.drop lo').take (min n' n)).length=min n' n:=by rw[List.length_take,List.length_drop];omega
 have hfl:=cO hk;have hb:lo'*k+min n' n*k<=es.length*k:=by rw[<-Nat.add_mul];exact Nat.mul_le_mul_right _ (by omega)
 have hl2:((es.flatten.drop (lo'*k)).take (min n' n*k)).length=min n' n*k:=by rw[List.length_take,List.length_drop,hfl];omega
 refine⟨?_,?_,?_⟩
 ·unfold mY plug;rw[List.flatten_append,List.flatten_append,eO hk,hl,hl2];have e1:(es.take lo).flatten=es.flatten.take (lo*k):=by have:=eO (l:=0) (m:=lo) hk;grind
  have e2:(es.drop (lo+min n' n)).flatten=es.flatten.drop (lo*k+min n' n*k):=by
   have:=eO (l:=lo+min n' n) (m:=es.length) hk;rw[List.take_of_length_le (by rw[List.length_drop];omega),List.take_of_length_le (by rw[List.length_drop,hfl];omega),Nat.add_mul]at this;omega
  rw[e1,e2]
 ·grind[mY,AY]
 grind[mY,plug,List.mem_of_mem_take,List.mem_of_mem_drop]
theorem fY{A:Nat->Prop}{vs:List Value}{ds:List DV}(h:aR w 0 vs ds [])(n:Nat):aR w 0 (vs.take n) (ds.take n) []/\aR w 0 (vs.drop n) (ds.drop n) []:=by
 obtain⟨f1,f2,e,h1,h2⟩:=h.split n;simp_all
theorem KW{vs:List Value}{ds:List DV}{f:List Nat}(h:aR w 0 vs ds f)(hf:pz ds):aR w 0 vs ds []:=aR.flat h.rep hf
theorem QT{X Y:Operand}{t el:TypeId}{k i st lo n lo' n':Nat}{es:List (List DV)}(ho:o.op=.call ⟨.builtin .copy,#[X,Y],#[t,t]⟩)(hd:∀q,o.dst=some q->q<N)(ht:dN P t=some (el,k))
 (hX:s.ev X=.p false [.sub i st k lo n]) (hY:s.ev Y=.p false [.sub i st k lo' n']) (hi:s.own? i st=some (.row st el k es true)) (hfl:pz es.flatten):
 eb P N o s ({s with ob:=upd s.ob i (.row st el k (mY es lo n lo' n') true)}.put o.dst (.p false [.d (.sc (.int .i64 ((min n' n:Nat):Int)))])):=by
 intro w0 a w E h;obtain⟨hin,hob,hlv⟩:=am hi;have e1:=aP h X;have e2:=aP h Y;rw[hX]at e1;rw[hY]at e2;obtain⟨A,M,cp,B,a1,a2,a3,a4,a5⟩:=(aE e1).2 hlv;obtain⟨A',M',cp',B',b1,b2,b3,b4,b5⟩:=(aE e2).2 hlv;rw[a1]at b1;injection b1 with b1a b1b b1c;subst b1a b1b b1c;have hO:=h.obj i hin;rw[hob]at hO;obtain⟨cells,hst,h1,h2,h3,h4,h5⟩:=hO;simp only[if_pos]at h5;have h5':=KW h5 hfl;rw[a1]at h1 h4;obtain⟨A2,c2,hv2,hMe,hmx⟩:=ba h1;injection hv2 with _ hM _;subst hM;obtain⟨hu,hsz⟩:=ka ht;unfold cG at hsz
 cases hin2:P.info? el with
 |none=>grind
 |some ie=>
  simp[hin2]at hsz;have hcl:cells.length=es.length*k:=h1.1;have hbn:lo'*k+min n' n*k<=es.length*k:=by rw[<-Nat.add_mul];exact Nat.mul_le_mul_right _ (by omega)
  have hbn2:lo*k+min n' n*k<=es.length*k:=by rw[<-Nat.add_mul];exact Nat.mul_le_mul_right _ (by omega)
  obtain⟨q1,q2⟩:=fY (A:=λ_=>True) h5' (lo'*k);obtain⟨q3,q4⟩:=fY (A:=λ_=>True) q2 (min n' n*k);have hnl:((cells.drop (lo'*k)).take (min n' n*k)).length=min n' n*k:=by rw[List.length_take,List.length_drop,hcl];omega
  obtain⟨fc1,fc2,fc3⟩:=Ni (lo:=lo) (n:=n) (lo':=lo') (n':=n') h3 a2 b2
  obtain⟨g,hg⟩:∃g,(0<min n' n->A=some ⟨g,0,none⟩)/\(0<min n' n->g∈E.m i):=by
   rcases Nat.eq_zero_or_pos (min n' n)with h0|h0
   ·exact⟨0,λh=>by omega,λh=>by omega⟩
   ·obtain⟨g,cap,hv,hb,hlt⟩:=h1.form (by omega);injection hv with hv _ _;exact⟨g,λ_=>hv,λ_=>by rw[h4,hv];simp[Value.ownBlock]⟩
  obtain⟨hgA,hgm⟩:=hg
  have hcell:0<min n' n->∀j u,cells[j]? =some u->w.cell? ⟨g,j,none⟩=some u:=λh0 j u hu=>by
   have hA:=hgA h0;subst hA;have:=h1.cells (g:=g) rfl j u hu
   rwa [me]at this
  have bD:=OR (P:=P) (w:=w) (ty:=o.type) hu hin2 hsz (X:=B) (Y:=B') (n:=n) (c:=cp-lo) (n':=n') (c':=cp-lo') (g:=if 0<min n' n then g else w.heap.size) (off:=lo*k) (news:=(cells.drop (lo'*k)).take (min n' n*k)) hnl
   (λh0=>by rw[a5 (by omega),hgA h0,if_pos h0,Option.map_some,me])
   (λh0=>⟨⟨g,lo'*k,none⟩,by rw[b5 (by omega),hgA h0,Option.map_some,me],λj u hu=>by
    have hadd:(⟨g,lo'*k,none⟩:Addr).add j=⟨g,lo'*k+j,none⟩:=by unfold Addr.add;split<;>simp_all
    rw[hadd]
    grind⟩)
   (λj hj=>by
    rw[hnl]at hj
    have h0:0<min n' n:=by
     grind
    rw[if_pos h0,hcell h0 _ _ (List.getElem?_eq_getElem (by omega))];rfl)
   (λj=>by
    by_cases h0:0<min n' n
    ·rw[if_pos h0];have hA:=hgA h0;subst hA;exact h1.frozenAt j
    ·rw[if_neg h0]
     simp[World.frozen?])
   q3.rep.one
  unfold Oper.wp
  have hrun':(execOp a.eval o).run P w=.ok (.value (.int .i64 ((min n' n:Nat):Int))) (w.setCells (if 0<min n' n then g else w.heap.size) (lo*k) ((cells.drop (lo'*k)).take (min n' n*k))):=by
   simp only[execOp,ho,resolve,invoke,builtin,Sem.run_bind,Sem.run_pure,Result.andThen_ok,List.map_toArray,List.map_cons,List.map_nil,a3,b3,bD]
  rw[hrun',Oper.upon_value];generalize hg':(if 0<min n' n then g else w.heap.size)=g' at *;generalize hnews:(cells.drop (lo'*k)).take (min n' n*k)=news at *;obtain⟨k1,k2,k3,k4,k5⟩:=cj (g:=g') (us:=news) (off:=lo*k) (w:=w)
  have hsame:∀b,b∉E.m i->b<w.heap.size->(w.setCells g' (lo*k) news).heap[b]? =w.heap[b]?:=λb hb hlt=>k2 b (λe=>by
   grind)
  have hbel:GP w0 (w.setCells g' (lo*k) news):=by
   by_cases h0:0<min n' n
   ·rw[if_pos h0]at hg';subst hg';exact h.bel.setCells (h.mF i hin _ (hgm h0))
   ·have:news=[]:=List.eq_nil_of_length_eq_zero (by rw[hnl,Nat.eq_zero_of_not_pos h0,Nat.zero_mul]);subst this;exact h.bel
  have hown:(w.setCells g' (lo*k) news).ownsRow 0 el k (.slice A es.length cp) es.length (plug (lo*k) news cells):=by
   by_cases h0:0<min n' n
   ·rw[if_pos h0]at hg';subst hg';have hA:=hgA h0;subst hA;obtain⟨p1,p2⟩:=nh news w cells (lo*k) h1;rw[jS _ _ _ (by omega)]at p1;exact p1
   ·have:news=[]:=List.eq_nil_of_length_eq_zero (by rw[hnl,Nat.eq_zero_of_not_pos h0,Nat.zero_mul]);subst this;simpa[plug,World.setCells]using h1
  have hnew:aR w 0 (plug (lo*k) news cells) (mY es lo n lo' n').flatten []:=by
   rw[fc1];unfold plug;obtain⟨r1,r2⟩:=fY (A:=λ_=>True) h5' (lo*k);obtain⟨r3,r4⟩:=fY (A:=λ_=>True) h5' (lo*k+min n' n*k);have hdl:((es.flatten.drop (lo'*k)).take (min n' n*k)).length=min n' n*k:=by rw[List.length_take,List.length_drop,cO h3];omega
   rw[hnl,hdl];exact(r1.app q3 (by simp)).app r4 (by simp)
  have hch:=h.change (i:=i) (n':=s.n) (X:=.row st el k (mY es lo n lo' n') true) (v':=E.v i) (m':=E.m i) (o':=[]) (A':=E.A) (c':=s.c) (w':=w.setCells g' (lo*k) news) (Nat.le_refl _) (λj hj _=>hj) hin
   hbel (by rw[k1];omega) (λq hq hm=>hsame q (hm hin) hq) (Nat.le_refl _) (.inl ⟨hin,by rw[hob];rfl,rfl⟩) (λ_ hb=>hb) (λ_ hb=>.inl hb)
   (λb hb=>⟨by rw[k1];exact h.A_lt b hb,h.A_m b hb i hin,λj hj _=>h.A_m b hb j hj⟩) (λb hb=>⟨by rw[k1];exact h.m_lt i hin b hb,λj hj hne=>h.mm i j hin hj (Ne.symm hne) b hb⟩)
   (by simp) (by
    rintro s'' rfl E' rfl hstay;refine⟨_,hst,by simp only[af,fc2,a1];exact hown,h2,fc3,by grind[af],?_⟩;simp only[if_pos,af]
    exact hnew.keep (by simp)) (h.mF i hin)
  refine⟨_,hch.put (x:=.p false [.d (.sc (.int .i64 ((min n' n:Nat):Int)))]) ?_ hd⟩;exact bX trivial
end
end Go.Proofs.YtliknccmjjncbaaGreat
