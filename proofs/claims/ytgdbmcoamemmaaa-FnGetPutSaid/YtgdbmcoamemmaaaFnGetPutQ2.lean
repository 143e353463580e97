/- Proved: for every input the law 'FnGetPut' returns true and its arguments read behind the call as before: part 2 of its proof. No condition. -/
import Derived.WalkKit
import Derived.Lib.Hide
import Derived.WalkSpells
import Derived.Laws.OwnMore
import Derived.Deep.AppendLies
import Derived.Deep.Draws
import Derived.Maps.AppendAt
import Derived.RegionTactic
import Derived.OwnWalk
import Derived.Below
import Derived.Laws.AppendOwnNone
import Derived.Deep.QuietTactic
import Derived.BigQuiet
import Derived.StillTailTactics
import Derived.Laws.Cells
import Derived.Laws.IdiomCopy
import Derived.ChangeKeysEq
import Derived.Laws.BytesArg
import Derived.Laws.StructEq
import Derived.Laws.Tables
import Derived.Great.BuildSlice
import Derived.StillTail
import Derived.OrdersHeld
import Derived.Test.YtgdbmcoamemmaaaFnGetPutQ1
set_option linter.unusedVariables false
set_option linter.unusedSimpArgs false
namespace Go.Proofs.Ytgdbmcoamemmaaa
open Go.RowKit
def Re(s s':AS):Prop:=∀w0 N a w E,aB w0 N s a w E->∃E',aB w0 N s' a w E'
theorem Re.refl(s:AS):Re s s:=λ_ _ _ _ E h=>⟨E,h⟩
theorem Re.trans{s t u:AS}(h:Re s t)(k:Re t u):Re s u:=λw0 N a w E hr=>by
 obtain⟨E',h'⟩:=h w0 N a w E hr;exact k w0 N a w E' h'
def qR(φ:Nat->Nat):AC->AC
 |.own i st=>.own (φ i) st
 |.ptr i st off=>.ptr (φ i) st off
 |.elt i st k j off=>.elt (φ i) st k j off
 |.sub i st k lo n=>.sub (φ i) st k lo n
 |x=>x
def Hs(φ:Nat->Nat):AV->AV
 |.p b cs=>.p b (cs.map (qR φ))
 |.tup xs=>.tup (xs.map λx=>(x.1,x.2.map (qR φ)))
 |.und=>.und
def Dc(φ:Nat->Nat):Ob->Ob
 |.var st t cs=>.var st t (cs.map (qR φ))
 |.arr st t k es=>.arr st t k (es.map λe=>e.map (qR φ))
 |.pvr st t cs=>.pvr st t (cs.map (qR φ))
 |.opn st t k es h=>.opn st t k es (h.map λq=>(q.1,q.2.1,φ q.2.2.1,q.2.2.2))
 |x=>x
theorem Nn(φ:Nat->Nat)(x:Ob):(Dc φ x).st=x.st:=by cases x<;>rfl
section
variable {w0:Cx}{w:World}{E:En}{N:Nat}{s s':AS}{a:Act}
theorem aB.reindex(h:aB w0 N s a w E){φ:Nat->Nat}(hφ:∀i,i<s'.n->φ i<s.n)(inj:∀i j,i<s'.n->j<s'.n->φ i=φ j->i=j)(hc:s.c<=s'.c)
 (ho:∀i,i<s'.n->s'.ob i=.dead\/Dc φ (s'.ob i)=s.ob (φ i)) (hs:∀t,s'.sl t=.und\/Hs φ (s'.sl t)=s.sl t):
 aB w0 N s' a w ⟨λi=>E.v (φ i),λi=>E.m (φ i),λi=>E.o (φ i),E.A⟩:=by
 have hL:∀i st,s'.lv i=some st->s.lv (φ i)=some st:=by
  intro i st hl;unfold AS.lv at hl ⊢;split at hl
  ·rename_i hi;rw[if_pos (hφ i hi)];rcases ho i hi with e|e
   ·rw[e]at hl;cases hl
   ·rw[<-e,Nn];exact hl
  grind
 have hC:∀(x:AC) (u:Value),dK w E s.lv s.c (qR φ x) u->dK w ⟨λi=>E.v (φ i),λi=>E.m (φ i),λi=>E.o (φ i),E.A⟩ s'.lv s'.c x u:=by
  intro x u hx
  cases x with
  |d y=>exact hx
  |nil=>exact hx
  |own i st=>exact⟨Nat.lt_of_lt_of_le hx.1 hc,λhl=>hx.2 (hL i st hl)⟩
  |ptr i st off=>exact⟨Nat.lt_of_lt_of_le hx.1 hc,λhl=>hx.2 (hL i st hl)⟩
  |elt i st k j off=>exact⟨Nat.lt_of_lt_of_le hx.1 hc,λhl=>hx.2 (hL i st hl)⟩
  |sub i st k lo n=>exact⟨Nat.lt_of_lt_of_le hx.1 hc,λhl=>hx.2 (hL i st hl)⟩
  |emp=>exact hx
  |rd cs=>exact hx
 have hCs:∀(cs:List AC) (us:List Value),ay w E s.lv s.c (cs.map (qR φ)) us->ay w ⟨λi=>E.v (φ i),λi=>E.m (φ i),λi=>E.o (φ i),E.A⟩ s'.lv s'.c cs us:=by
  intro cs us hx;refine⟨by simpa using hx.1,λj x u h1 h2=>hC x u (hx.2 j _ u (by rw[List.getElem?_map,h1];rfl) h2)⟩
 have hP:∀(b:Bool) (cs:List AC) (v:Value),dM w E s.lv s.c b (cs.map (qR φ)) v->dM w ⟨λi=>E.v (φ i),λi=>E.m (φ i),λi=>E.o (φ i),E.A⟩ s'.lv s'.c b cs v:=by
  intro b cs v hx;unfold dM at hx ⊢
  grind
 refine⟨h.size,h.defers,h.bel,λi hi=>?_,λt=>?_,h.A_lt,λb hb i hi=>h.A_m b hb _ (hφ i hi),λi hi=>h.A_o _ (hφ i hi),λi j hi hj hne=>h.mm _ _ (hφ i hi) (hφ j hj) (λe=>hne (inj i j hi hj e)),
  λi j hi hj hne=>h.oo _ _ (hφ i hi) (hφ j hj) (λe=>hne (inj i j hi hj e)),λi hi=>h.m_lt _ (hφ i hi),h.anc,λi hi=>h.mF _ (hφ i hi),λi hi=>h.oF _ (hφ i hi)⟩
 ·have hO:=h.obj (φ i) (hφ i hi);rcases ho i hi with e|e
  ·rw[e];trivial
  ·rw[<-e]at hO
   cases hx:s'.ob i with
   |var st t cs=>
    rw[hx]at hO;obtain⟨g,vals,h1,h2,h3,h4,h5,h6,h7⟩:=hO
    exact⟨g,vals,Nat.lt_of_lt_of_le h1 hc,h2,h3,h4,h5,h6,hCs _ _ h7⟩
   |arr st t k es=>
    rw[hx]at hO;obtain⟨g,vals,h1,h2,h3,h4,h5,h6,h7,h8,h9,h10⟩:=hO;rw[List.length_map]at h2 h6;refine⟨g,vals,Nat.lt_of_lt_of_le h1 hc,h2,h3,h4,h5,h6,h7,h8,λe he=>?_,hCs _ _ ?_⟩
    ·have:=h9 _ (List.mem_map.2 ⟨e,he,rfl⟩);grind
    grind
   |row st t k es deep=>
    rw[hx]at hO;obtain⟨cells,h1,h2,h3,h4,h5,h6⟩:=hO
    exact⟨cells,Nat.lt_of_lt_of_le h1 hc,h2,h3,h4,h5,h6⟩
   |frz st x=>rw[hx]at hO;exact⟨Nat.lt_of_lt_of_le hO.1 hc,hO.2⟩
   |dx st x=>rw[hx]at hO;exact⟨Nat.lt_of_lt_of_le hO.1 hc,hO.2⟩
   |cur st id t x cs=>
    rw[hx]at hO;obtain⟨g,u,h0,h1,h2,h3,h4,h5⟩:=hO
    exact⟨g,u,Nat.lt_of_lt_of_le h0 hc,h1,h2,h3,h4,h5⟩
   |pvr st t cs=>
    rw[hx]at hO;obtain⟨g,vals,h1,h2,h3,h4,h6,h7,h8⟩:=hO
    exact⟨g,vals,Nat.lt_of_lt_of_le h1 hc,h2,h3,h4,h6,hCs _ _ h7,h8⟩
   |opn st t k es q=>
    rw[hx]at hO;obtain⟨cells,g,h0,h1,h2,h3,h4,h5,h6,h7,h8⟩:=hO;have hq:∀{α:Type} (x:α) (l:List α),lU k x (q.map λq=>(q.1,q.2.1,φ q.2.2.1,q.2.2.2)) l=lU k x q l:=λx l=>by cases q<;>rfl
    rw[hq,hq]at h7;refine⟨cells,g,Nat.lt_of_lt_of_le h0 hc,h1,h2,h3,h4,h5,h6,h7,λp hp=>?_⟩
    grind
   |dead=>trivial
 ·have hS:=h.slot t;rcases hs t with e|e
  ·rw[e];trivial
  ·rw[<-e]at hS
   cases hx:s'.sl t with
   |p b cs=>rw[hx]at hS;exact hP b cs _ hS
   |tup xs=>
    rw[hx]at hS;obtain⟨vs,h1,h2,h3⟩:=hS;refine⟨vs,h1,by grind,λj b cs u k1 k2=>hP b cs u (h3 j b _ u ?_ k2)⟩
    rw[List.getElem?_map,k1];rfl
   |und=>trivial
theorem Re.reindex{φ:Nat->Nat}(hφ:∀i,i<s'.n->φ i<s.n)(inj:∀i j,i<s'.n->j<s'.n->φ i=φ j->i=j)(hc:s.c<=s'.c)
 (ho:∀i,i<s'.n->s'.ob i=.dead\/Dc φ (s'.ob i)=s.ob (φ i)) (hs:∀t,s'.sl t=.und\/Hs φ (s'.sl t)=s.sl t):Re s s':=
 λw0 N a w E h=>⟨_,h.reindex hφ inj hc ho hs⟩
end
section
variable {P:Program}{N:Nat}{Q:Exit->AS->Prop}{s s':AS}{o:Oper}
theorem O1{c:Code}(h:Re s s')(k:sW P N c Q s'):sW P N c Q s:=λw0 a w E hr=>by
 obtain⟨E',h'⟩:=h w0 N a w E hr;exact k w0 a w E' h'
theorem Gy{ops:Array Oper}{l:List Oper}(h:Re s s')(k:lk P N ops l Q s'):lk P N ops l Q s:=λw0 a w E hr=>by
 obtain⟨E',h'⟩:=h w0 N a w E hr;exact k w0 a w E' h'
theorem kZ.re{s2:AS}{X:Option Nat}(h:kZ P N o s s' X)(hr:Re s' s2):kZ P N o s s2 X:=λw0 a w E hR=>Oper.wp_mono (λa' w' ⟨⟨E',h1⟩,h2⟩=>⟨hr w0 N a' w' E' h1,h2⟩) (h w0 a w E hR)
theorem Li(h:Q .normal s):sW P N .skip Q s:=λw0 a w E hr=>wp_skip ⟨s,E,h,hr⟩
theorem Kx{id:Nat}(h:Q (.exit id) s):sW P N (.exit id) Q s:=λw0 a w E hr=>wp_exit ⟨s,E,h,hr⟩
theorem Mj(h:Q .ret s):sW P N .ret Q s:=λw0 a w E hr=>wp_ret ⟨s,E,h,hr⟩
def UR(P:Program)(N:Nat)(y:Code)(Q:Exit->AS->Prop):Exit->AS->Prop
 |.normal,s=>sW P N y Q s
 |e,s=>Q e s
theorem LF{x y:Code}(h:sW P N x (UR P N y Q) s):sW P N (.seq x y) Q s:=λw0 a w E hr=>by
 refine wp_seq (Code.wp_mono (λe a w he=>?_) (h w0 a w E hr));obtain⟨s',E',h1,h2⟩:=he
 cases e with
 |normal=>exact h1 w0 a w E' h2
 |_=>exact⟨s',E',h1,h2⟩
theorem GZ{id:Nat}{x:Code}(h:sW P N x (Hw id Q) s):sW P N (.block id x) Q s:=λw0 a w E hr=>by
 refine wp_block (Code.wp_mono (λe a w he=>?_) (h w0 a w E hr));obtain⟨s',E',h1,h2⟩:=he
 cases e with
 |exit id'=>
  simp[Hw]at h1;show(if id'=id then AQ w0 N Q .normal _ _ else AQ w0 N Q (.exit id') _ _);split
  ·rename_i he;rw[if_pos he]at h1;exact⟨s',E',h1,h2⟩
  ·rename_i he;rw[if_neg he]at h1;exact⟨s',E',h1,h2⟩
 |_=>exact⟨s',E',h1,h2⟩
theorem Di{c:Operand}{x y:Code}{b:Bool}(hb:s.ev c=.p false [.d (.sc (.bool b))])(h:sW P N (if b then x else y) Q s):sW P N (.cond c x y) Q s:=λw0 a w E hr=>by
 have:=aL hr c;rw[hb]at this;refine wp_cond_split (bU this) (λhb=>?_) (λhb=>?_)
 ·subst hb;exact h w0 a w E hr
 ·subst hb;exact h w0 a w E hr
theorem D7{id:Nat}{ops:Array Oper}(h:lk P N ops ops.toList Q s):sW P N (.region id ops false) Q s:=λw0 a w E hr=>wp_region_list (h w0 a w E hr)
theorem Fk{c:Code}(I:AS->Nat->Prop)(m:Nat)(h0:I s m)(round:∀s m,I s m->sW P N c (λe s'=>match e with|.normal=>∃m' s'',m'<m/\Re s' s''/\I s'' m'|e=>Q e s') s):sW P N (.loop c) Q s:=by
 intro w0 a w E hrep b k cs
 have key:∀m s a w E,I s m->aB w0 N s a w E->∃e a' w',AQ w0 N Q e a' w'/\Arrives P (lone (b.at a (.code c::.inLoop c::k)) cs w) b k cs e a' w':=by
  intro m
  induction m using Nat.strongRecOn with
  |_ m ih=>
   intro s a w E hI hr;obtain⟨e,a₁,w₁,⟨s1,E1,hq,hr1⟩,harr⟩:=round s m hI w0 a w E hr b (.inLoop c::k) cs
   cases e with
   |normal=>
    obtain⟨m',s2,hlt,hre,hI'⟩:=hq;obtain⟨E2,hr2⟩:=hre w0 N a₁ w₁ E1 hr1;obtain⟨e₂,a₂,w₂,hq₂,harr₂⟩:=ih m' hlt _ a₁ w₁ E2 hI' hr2
    exact⟨e₂,a₂,w₂,hq₂,.of_steps (Steps.trans harr (.one step_inLoop)) harr₂⟩
   |exit id=>exact⟨_,a₁,w₁,⟨s1,E1,hq,hr1⟩,.pass (x:=.inLoop c) rfl (λ_ _=>.inl (by simp)) harr⟩
   |goto l=>exact⟨_,a₁,w₁,⟨s1,E1,hq,hr1⟩,.pass (x:=.inLoop c) rfl (λ_ _=>.inl (by simp)) harr⟩
   |ret=>exact⟨_,a₁,w₁,⟨s1,E1,hq,hr1⟩,.pass (x:=.inLoop c) rfl (λ_ _=>.inl (by simp)) harr⟩
   |panic ch=>exact⟨_,a₁,w₁,⟨s1,E1,hq,hr1⟩,.pass (x:=.inLoop c) rfl (λ_ _=>.inl (by simp)) harr⟩
   |outgrown=>exact⟨_,a₁,w₁,⟨s1,E1,hq,hr1⟩,.pass (x:=.inLoop c) rfl (λ_ _=>.inl (by simp)) harr⟩
 obtain⟨e,a',w',hq,harr⟩:=key m s a w E h0 hrep;exact⟨e,a',w',hq,.of_steps (.one step_loop) harr⟩
theorem Hq{f:FuncId}{fn:Func}{c:Code}{args:List (Bool×List DV)}{res:List Rs}(hf:P.funcs[f]? =some fn)(hb:fn.body=some c)(hc:a9 P f=true)(hN:args.length<=fn.ntmps)
 (h:sW P fn.ntmps c (GB P fn.results.toList res) (iA args)):aI P f args res:=by
 refine⟨hc,λw B vs hB ha=>?_⟩;refine calls_of_wp hf hb ?_;refine Code.wp_mono (λe a' w' he=>?_) (h (TV w B) _ w _ (A3 hB ha (by rw[ha.1];exact hN)));obtain⟨s,E,hq,hr⟩:=he;have key:=λhq=>J8 (P:=P) (fn:=fn) (res:=res) hr hq
 cases e with
 |normal=>exact key hq
 |ret=>exact key hq
 |_=>exact hq.elim
end
end Go.Proofs.Ytgdbmcoamemmaaa
namespace Go.Proofs.Ytgdbmcoamemmaaa
open Go.RowKit
inductive SC where
 |d (i:Nat)
 |nil
 |own (i st:Nat)
 |ptr (i st off:Nat)
 |elt (i st k j off:Nat)
 |rd (cs:List Nat)
 |sub (i st k lo n:Nat)
 |emp
 deriving DecidableEq
inductive SV where
 |p (agg:Bool) (cs:List SC)
 |tup (xs:List (Bool×List SC))
inductive SO where
 |var (st:Nat) (t:TypeId) (cs:List SC)
 |row (st:Nat) (t:TypeId) (k x:Nat)
 |frz (st x:Nat)
 |dx (st x:Nat)
 |cur (st:Nat) (id:Bool) (t:TypeId) (z:Nat)
 |arr (st:Nat) (t:TypeId) (k:Nat) (es:List (List SC))
 |opn (st k x:Nat) (q:Option (Nat×Nat×Nat×Nat))
 |pvr (st:Nat) (t:TypeId) (cs:List SC)
 |shr (st:Nat) (t:TypeId) (k x:Nat)
 |dead
def SO.st:SO->Option Nat
 |.var st _ _|.row st _ _ _|.frz st _|.dx st _|.arr st _ _ _|.cur st _ _ _|.opn st _ _ _|.pvr st _ _|.shr st _ _ _=>some st
 |.dead=>none
structure Sy where
 sl:List (Nat×SV)
 ob:List (Nat×SO)
 n:Nat
 c:Nat
 m:Nat
 kn:List (Nat×Bool)
def aK{α:Type}:List (Nat×α)->Nat->Option α
 |[],_=>none
 |(j,x)::r,i=>if j=i then some x else aK r i
def Sy.own(S:Sy)(i st:Nat):Option SO:=(aK S.ob i).bind λo=>if o.st=some st then some o else none
def Sy.put(S:Sy)(d:Option Nat)(v:SV):Sy:=match d with|some t=>{S with sl:=(t,v)::S.sl}|none=>S
inductive PO where
 |k (v:Value)
 |e (t k:Nat)
 |sc (x:Nat)
 |isI (x:Nat)
 |flat (x:Nat)
 |isL (t k x:Nat)
 |bin (op:BinOp) (b:Bool) (x y:Nat)
 |un (op:UnOp) (x:Nat)
 |cvI (k:IntKind) (x:Nat)
 |cvS (x:Nat)
 |cvB (x:Nat)
 |lenS (x:Nat)
 |lenL (x:Nat)
 |chr (x i:Nat)
 |idx (k x i:Nat)
 |chk (k x i:Nat)
 |cutS (x:Nat) (lo hi:Option Nat)
 |cutL (k x:Nat) (lo hi:Option Nat)
 |app (el k b x y:Nat)
 |mk (el k:Nat) (rows:List (List Nat))
 |make (el k b:Nat) (z:List DV) (n:Nat)
 |set (k x j off:Nat) (vs:List Nat)
 |mm (mx:Bool) (x y:Nat)
 |eqS (neg:Bool) (ks:List Kd) (xs ys:List Nat)
 |cutI (x:Nat) (lo hi:Option Nat)
 |cutJ (z m:Nat) (lo hi:Option Nat)
 |atJ (z m i:Nat)
 |viewD (x z m:Nat)
 |cutP (x z m:Nat)
 |emp (x:Nat)
 |unc (z n:Nat)
 |cuS (z off v:Nat)
 |stop (k:Nat)
 |cpy (k x lo n lo' n':Nat)
def pB:Value->Bool
 |.bool _|.int _ _|.string _=>true
 |_=>false
def mK:DV->Bool
 |.sc v=>pB v
 |_=>false
def gI(ρ:List DV)(i:Nat):Option Int:=match ρ[i]? with|some (.sc (.int _ z))=>some z|_=>none
def zA(ρ:List DV):Option Nat->Option (Option Int)
 |none=>some none
 |some i=>(gI ρ i).map some
def gL(ρ:List DV):List Nat->Option (List DV)
 |[]=>some []
 |i::r=>match ρ[i]?,gL ρ r with|some x,some xs=>some (x::xs)|_,_=>none
def CZ(ρ:List DV):List (List Nat)->Option (List (List DV))
 |[]=>some []
 |i::r=>match gL ρ i,CZ ρ r with|some x,some xs=>some (x::xs)|_,_=>none
def hU(op:BinOp)(b:Bool)(x y:Value):Option Value:=
 match x,y with
 |.int k a,.int k' c=>dP op k k' a c
 |.string a,.string c=>sA op a c
 |.bool a,.bool c=>if b then(match op with
  |.eql=>some (.bool (a==c))
  |.neq=>some (.bool (!(a==c)))
  |_=>none)else none
 |_,_=>none
def t6:Option Value->Option (List DV)
 |some v=>some [.sc v]
 |none=>none
def zy:List Kd->List DV->List DV->Option Bool
 |[],[],[]=>some true
 |k::ks,.sc a::xs,.sc b::ys=>(match PL k a b,zy ks xs ys with|some p,some q=>some (p&&q)|_,_=>none)
 |_,_,_=>none
def aA(ρ:List DV):PO->Option (List DV)
 |.k v=>if pB v then some [.sc v]else none
 |.e t k=>some [.sl t k []]
 |.sc x=>match ρ[x]? with|some d=>if mK d then some []else none|none=>none
 |.isI x=>match ρ[x]? with|some (.sc (.int _ _))=>some []|_=>none
 |.flat x=>match ρ[x]? with|some (.sl _ _ es)=>if es.flatten.all mK then some []else none|_=>none
 |.isL t k x=>match ρ[x]? with|some (.sl t' k' es)=>if t'=t/\k'=k/\es.flatten.all mK=true then some []else none|_=>none
 |.bin op b x y=>match ρ[x]?,ρ[y]? with|some (.sc u),some (.sc v)=>t6 (hU op b u v)|_,_=>none
 |.un op x=>match ρ[x]? with|some (.sc u)=>t6 (N8 op u)|_=>none
 |.cvI k x=>match ρ[x]? with|some (.sc (.int _ n))=>some [.sc (.int k (k.wrap n))]|_=>none
 |.cvS x=>match ρ[x]? with|some (.sc (.string s))=>some [.sc (.string s)]|_=>none
 |.cvB x=>match ρ[x]? with|some (.sl _ 1 es)=>(match jI es with|some xs=>some [.sc (.string (strOfNums xs))]|none=>none)|_=>none
 |.lenS x=>match ρ[x]? with|some (.sc (.string s))=>some [.sc (.int .i64 s.size)]|_=>none
 |.lenL x=>match ρ[x]? with|some (.sl _ _ es)=>some [.sc (.int .i64 es.length)]|_=>none
 |.chr x i=>match ρ[x]?,ρ[i]? with
  |some (.sc (.string s)),some (.sc (.int _ z))=>if 0<=z then(match s[z.toNat]? with|some u=>some [.sc (.int .u8 u.toNat)]|none=>none)else none
  |_,_=>none
 |.idx k x i=>match ρ[x]?,ρ[i]? with
  |some (.sl _ k' es),some (.sc (.int _ z))=>if k'=k/\0<=z then(match es[z.toNat]? with|some e=>if e.length=k then some e else none|none=>none)else none
  |_,_=>none
 |.chk k x i=>match ρ[x]?,ρ[i]? with
  |some (.sl _ k' es),some (.sc (.int _ z))=>if k'=k/\0<=z/\z.toNat<es.length then some []else none
  |_,_=>none
 |.cutS x lo hi=>match ρ[x]?,zA ρ lo,zA ρ hi with
  |some (.sc (.string s)),some l,some h=>(match mv l h s.size with|some (a,b)=>some [.sc (.string (s.extract a b))]|none=>none)
  |_,_,_=>none
 |.cutL k x lo hi=>match ρ[x]?,zA ρ lo,zA ρ hi with
  |some (.sl t k' es),some l,some h=>if k'=k then(match mv l h es.length with|some (a,b)=>some [.sl t k ((es.drop a).take (b-a))]|none=>none)else none
  |_,_,_=>none
 |.app el k b x y=>match ρ[x]?,ρ[y]? with
  |some (.sl t1 k1 es),some (.sl _ k2 fs)=>if t1=el/\k1=k/\k2=k/\es.length+fs.length<=9223372036854775807/\(es.length+fs.length)*b<=140737488355328 then some [.sl el k (es++fs)]else none
  |_,_=>none
 |.mk el k rows=>match CZ ρ rows with|some es=>if es.all (λe=>e.length==k)then some [.sl el k es]else none|none=>none
 |.make el k b z n=>match ρ[n]? with
  |some (.sc (.int .i64 n))=>if 0<=n/\b*n.toNat<=281474976710656/\n.toNat<=9223372036854775807 then some [.sl el k (List.replicate n.toNat z)]else none
  |_=>none
 |.set k x j off vs=>match ρ[x]?,ρ[j]?,gL ρ vs with
  |some (.sl t k' es),some (.sc (.int _ z)),some ds=>if k'=k/\0<=z/\off+ds.length<=k then(match es[z.toNat]? with|some e=>some [.sl t k (es.set z.toNat (plug off ds e))]|none=>none)else none
  |_,_,_=>none
 |.mm mx x y=>match ρ[x]?,ρ[y]? with
  |some (.sc (.int k a)),some (.sc (.int k' b))=>if k=k' then some [.sc (.int k (P8 mx a b))]else none
  |_,_=>none
 |.eqS neg ks xs ys=>match gL ρ xs,gL ρ ys with
  |some ds,some es=>(match zy ks ds es with|some b=>some [.sc (.bool (if neg then !b else b))]|none=>none)
  |_,_=>none
 |.cutI x lo hi=>match ρ[x]?,zA ρ lo,zA ρ hi with
  |some (.sl _ _ es),some l,some h=>(match mv l h es.length with|some (a,b)=>some [.sc (.int .i64 a),.sc (.int .i64 ((b-a:Nat):Int))]|none=>none)
  |_,_,_=>none
 |.cutJ z m lo hi=>match ρ[z]?,ρ[m]?,zA ρ lo,zA ρ hi with
  |some (.sc (.int .i64 u)),some (.sc (.int .i64 v)),some l,some h=>if 0<=u/\0<=v then(match mv l h v.toNat with|some (a,b)=>some [.sc (.int .i64 ((u.toNat+a:Nat):Int)),.sc (.int .i64 ((b-a:Nat):Int))]|none=>none)else none
  |_,_,_,_=>none
 |.atJ z m i=>match ρ[z]?,ρ[m]?,ρ[i]? with
  |some (.sc (.int .i64 u)),some (.sc (.int .i64 v)),some (.sc (.int _ j))=>if 0<=u/\0<=j/\j<v then some [.sc (.int .i64 (u+j))]else none
  |_,_,_=>none
 |.viewD x z m=>match ρ[x]?,ρ[z]?,ρ[m]? with
  |some (.sl t k es),some (.sc (.int .i64 u)),some (.sc (.int .i64 v))=>some [.sl t k ((es.drop u.toNat).take v.toNat)]
  |_,_,_=>none
 |.cutP x z m=>match ρ[x]?,ρ[z]?,ρ[m]? with
  |some (.sl t k es),some (.sc (.int .i64 u)),some (.sc (.int .i64 v))=>if u=0/\v.toNat<=es.length then some [.sl t k (es.take v.toNat)]else none
  |_,_,_=>none
 |.emp x=>match ρ[x]? with
  |some (.sl _ _ es)=>some [.sc (.bool es.isEmpty)]
  |_=>none
 |.unc z n=>match ρ[z]? with
  |some (.sl _ 0 [[x],cs])=>if cs.length+1=n then some (x::cs)else none
  |_=>none
 |.cuS z off v=>match ρ[z]?,ρ[v]? with
  |some (.sl t 0 [[x],cs]),some (.sc u)=>if pB u=true/\0<off/\off-1<cs.length then some [.sl t 0 [[x],cs.set (off-1) (.sc u)]]else none
  |_,_=>none
 |.stop _=>none
 |.cpy k x lo n lo' n'=>match ρ[x]?,ρ[lo]?,ρ[n]?,ρ[lo']?,ρ[n']? with
  |some (.sl t k' es),some (.sc (.int .i64 a)),some (.sc (.int .i64 m)),some (.sc (.int .i64 b)),some (.sc (.int .i64 m'))=>
   if k'=k/\es.flatten.all mK=true then some [.sl t k (Se es a.toNat m.toNat b.toNat m'.toNat),.sc (.int .i64 ((min m'.toNat m.toNat:Nat):Int))]else none
  |_,_,_,_,_=>none
def ax:List PO->List DV->Option (List DV)
 |[],ρ=>some ρ
 |o::r,ρ=>match aA ρ o with|some out=>ax r (ρ++out)|none=>none
section
variable (ρ:List DV)(σ:List Nat)
def RD:List Nat->List DV->Prop
 |[],[]=>True
 |i::is,x::xs=>ρ[i]? =some x/\RD is xs
 |_,_=>False
def RC:SC->AC->Prop
 |.d i,.d x=>ρ[i]? =some x
 |.nil,.nil=>True
 |.own i st,.own i' st'=>i'=i/\σ[st]? =some st'
 |.ptr i st off,.ptr i' st' off'=>i'=i/\σ[st]? =some st'/\off'=off
 |.elt i st k j off,.elt i' st' k' j' off'=>i'=i/\σ[st]? =some st'/\k'=k/\(∃kd z,ρ[j]? =some (.sc (.int kd z))/\0<=z/\j'=z.toNat)/\off'=off
 |.rd cs,.rd ds=>RD ρ cs ds
 |.sub i st k lo n,.sub i' st' k' lo' n'=>i'=i/\σ[st]? =some st'/\k'=k/\(∃z,ρ[lo]? =some (.sc (.int .i64 z))/\0<=z/\lo'=z.toNat)/\(∃z,ρ[n]? =some (.sc (.int .i64 z))/\0<=z/\n'=z.toNat)
 |.emp,.emp=>True
 |_,_=>False
def cQ:List SC->List AC->Prop
 |[],[]=>True
 |x::xs,y::ys=>RC ρ σ x y/\cQ xs ys
 |_,_=>False
def RT:List (Bool×List SC)->List (Bool×List AC)->Prop
 |[],[]=>True
 |x::xs,y::ys=>(y.1=x.1/\cQ ρ σ x.2 y.2)/\RT xs ys
 |_,_=>False
def RV:SV->AV->Prop
 |.p b cs,.p b' cs'=>b'=b/\cQ ρ σ cs cs'
 |.tup xs,.tup ys=>RT ρ σ xs ys
 |_,_=>False
def BM:List (List SC)->List (List AC)->Prop
 |[],[]=>True
 |x::xs,y::ys=>cQ ρ σ x y/\BM xs ys
 |_,_=>False
def RH:Option (Nat×Nat×Nat×Nat)->Option (Nat×Nat×Nat×Nat)->Prop
 |none,none=>True
 |some (j,off,n,sn),some (j',off',n',sn')=>(∃kd z,ρ[j]? =some (.sc (.int kd z))/\0<=z/\j'=z.toNat)/\off'=off/\n'=n/\σ[sn]? =some sn'
 |_,_=>False
def RO:SO->Ob->Prop
 |.arr st t k es,.arr st' t' k' es'=>σ[st]? =some st'/\t'=t/\k'=k/\BM ρ σ es es'
 |.var st t cs,.var st' t' cs'=>σ[st]? =some st'/\t'=t/\cQ ρ σ cs cs'
 |.row st t k x,.row st' t' k' es dp=>σ[st]? =some st'/\t'=t/\k'=k/\dp=true/\ρ[x]? =some (.sl t k es)
 |.frz st x,.frz st' y=>σ[st]? =some st'/\ρ[x]? =some y
 |.dx st x,.dx st' y=>σ[st]? =some st'/\ρ[x]? =some y
 |.cur st id t z,.cur st' id' t' x cs=>σ[st]? =some st'/\id'=id/\t'=t/\ρ[z]? =some (iP t x cs)
 |.opn st k x q,.opn st' t' k' es q'=>σ[st]? =some st'/\k'=k/\ρ[x]? =some (.sl t' k es)/\RH ρ σ q q'
 |.pvr st t cs,.pvr st' t' cs'=>σ[st]? =some st'/\t'=t/\cQ ρ σ cs cs'
 |.shr st t k x,.row st' t' k' es dp=>σ[st]? =some st'/\t'=t/\k'=k/\dp=false/\ρ[x]? =some (.sl t k es)
 |.dead,_=>True
 |_,_=>False
end
structure aN(S:Sy)(ρ:List DV)(σ:List Nat)(s:AS):Prop where
 n:s.n=S.n
 c:σ.length=S.c
 m:ρ.length=S.m
 sl:∀t x,aK S.sl t=some x->RV ρ σ x (s.sl t)
 ob:∀i x,aK S.ob i=some x->i<S.n/\RO ρ σ x (s.ob i)
 kn:∀i b,aK S.kn i=some b->ρ[i]? =some (.sc (.bool b))
def aQ{α:Type}(l l':List α):Prop:=∃e,l'=l++e
theorem aQ.refl{α:Type}(l:List α):aQ l l:=⟨[],by simp⟩
theorem aQ.trans{α:Type}{a b c:List α}(h:aQ a b)(k:aQ b c):aQ a c:=by
 obtain⟨e,rfl⟩:=h;obtain⟨f,rfl⟩:=k;exact⟨e++f,by simp⟩
theorem aQ.get{α:Type}{l l':List α}(h:aQ l l'){i:Nat}{x:α}(hx:l[i]? =some x):l'[i]? =some x:=by
 obtain⟨e,rfl⟩:=h;rw[List.getElem?_append_left (List.getElem?_eq_some_iff.1 hx).1];exact hx
theorem aQ.app{α:Type}(l e:List α):aQ l (l++e):=⟨e,rfl⟩
section
variable {ρ ρ':List DV}{σ σ':List Nat}
theorem RD.mono(h:aQ ρ ρ'):∀{is:List Nat} {xs:List DV},RD ρ is xs->RD ρ' is xs
 |[],[],_=>trivial
 |i::is,x::xs,k=>⟨h.get k.1,RD.mono h k.2⟩
 |[],_::_,k=>k.elim
 |_::_,[],k=>k.elim
theorem RC.mono(h:aQ ρ ρ')(g:aQ σ σ'){x:SC}{y:AC}(k:RC ρ σ x y):RC ρ' σ' x y:=by
 cases x<;>cases y<;>first|exact k.elim|skip
 ·exact h.get k
 ·trivial
 ·exact⟨k.1,g.get k.2⟩
 ·exact⟨k.1,g.get k.2.1,k.2.2⟩
 ·obtain⟨k1,k2,k3,⟨kd,z,k4,k5⟩,k6⟩:=k;exact⟨k1,g.get k2,k3,⟨kd,z,h.get k4,k5⟩,k6⟩
 ·exact RD.mono h k
 ·obtain⟨k1,k2,k3,⟨z,k4,k5⟩,⟨z',k6,k7⟩⟩:=k;exact⟨k1,g.get k2,k3,⟨z,h.get k4,k5⟩,⟨z',h.get k6,k7⟩⟩
 ·trivial
theorem cQ.mono(h:aQ ρ ρ')(g:aQ σ σ'):∀{xs:List SC} {ys:List AC},cQ ρ σ xs ys->cQ ρ' σ' xs ys
 |[],[],_=>trivial
 |x::xs,y::ys,k=>⟨k.1.mono h g,cQ.mono h g k.2⟩
 |[],_::_,k=>k.elim
 |_::_,[],k=>k.elim
theorem RT.mono(h:aQ ρ ρ')(g:aQ σ σ'):∀{xs:List (Bool×List SC)} {ys:List (Bool×List AC)},RT ρ σ xs ys->RT ρ' σ' xs ys
 |[],[],_=>trivial
 |x::xs,y::ys,k=>⟨⟨k.1.1,cQ.mono h g k.1.2⟩,RT.mono h g k.2⟩
 |[],_::_,k=>k.elim
 |_::_,[],k=>k.elim
theorem RV.mono(h:aQ ρ ρ')(g:aQ σ σ'){x:SV}{y:AV}(k:RV ρ σ x y):RV ρ' σ' x y:=by
 cases x<;>cases y<;>first|exact k.elim|skip
 ·exact⟨k.1,cQ.mono h g k.2⟩
 ·exact RT.mono h g k
theorem BM.mono(h:aQ ρ ρ')(g:aQ σ σ'):∀{xs:List (List SC)} {ys:List (List AC)},BM ρ σ xs ys->BM ρ' σ' xs ys
 |[],[],_=>trivial
 |x::xs,y::ys,k=>⟨cQ.mono h g k.1,BM.mono h g k.2⟩
 |[],_::_,k=>k.elim
 |_::_,[],k=>k.elim
theorem RH.mono(h:aQ ρ ρ')(g:aQ σ σ'){x y:Option (Nat×Nat×Nat×Nat)}(k:RH ρ σ x y):RH ρ' σ' x y:=by
 cases x<;>cases y<;>first|exact k.elim|trivial|skip
 obtain⟨⟨kd,z,k1,k2⟩,k3,k4,k5⟩:=k;exact⟨⟨kd,z,h.get k1,k2⟩,k3,k4,g.get k5⟩
theorem RO.mono(h:aQ ρ ρ')(g:aQ σ σ'){x:SO}{y:Ob}(k:RO ρ σ x y):RO ρ' σ' x y:=by
 cases x<;>cases y<;>first|exact k.elim|trivial|skip
 ·exact⟨g.get k.1,k.2.1,cQ.mono h g k.2.2⟩
 ·exact⟨g.get k.1,k.2.1,k.2.2.1,k.2.2.2.1,h.get k.2.2.2.2⟩
 ·exact⟨g.get k.1,h.get k.2⟩
 ·exact⟨g.get k.1,h.get k.2⟩
 ·exact⟨g.get k.1,k.2.1,k.2.2.1,h.get k.2.2.2⟩
 ·exact⟨g.get k.1,k.2.1,k.2.2.1,BM.mono h g k.2.2.2⟩
 ·exact⟨g.get k.1,k.2.1,h.get k.2.2.1,RH.mono h g k.2.2.2⟩
 ·exact⟨g.get k.1,k.2.1,cQ.mono h g k.2.2⟩
 ·exact⟨g.get k.1,k.2.1,k.2.2.1,k.2.2.2.1,h.get k.2.2.2.2⟩
theorem cQ.len:∀{xs:List SC} {ys:List AC},cQ ρ σ xs ys->xs.length=ys.length
 |[],[],_=>rfl
 |x::xs,y::ys,k=>by simp[cQ.len k.2]
 |[],_::_,k=>k.elim
 |_::_,[],k=>k.elim
theorem cQ.drop(n:Nat):∀{xs:List SC} {ys:List AC},cQ ρ σ xs ys->cQ ρ σ (xs.drop n) (ys.drop n):=by
 induction n with
 |zero=>grind
 |succ n ih=>intro xs ys k;match xs,ys,k with
  |[],[],_=>simp;trivial
  |x::xs,y::ys,k=>exact ih k.2
theorem cQ.take(n:Nat):∀{xs:List SC} {ys:List AC},cQ ρ σ xs ys->cQ ρ σ (xs.take n) (ys.take n):=by
 induction n with
 |zero=>intro xs ys k;simp;trivial
 |succ n ih=>intro xs ys k;match xs,ys,k with
  |[],[],_=>simp;trivial
  |x::xs,y::ys,k=>exact⟨k.1,ih k.2⟩
theorem cQ.app:∀{xs xs':List SC} {ys ys':List AC},cQ ρ σ xs ys->cQ ρ σ xs' ys'->cQ ρ σ (xs++xs') (ys++ys')
 |[],_,[],_,_,h=>h
 |x::xs,_,y::ys,_,k,h=>⟨k.1,cQ.app k.2 h⟩
 |[],_,_::_,_,k,_=>k.elim
 |_::_,_,[],_,k,_=>k.elim
theorem cQ.get:∀{xs:List SC} {ys:List AC} {i:Nat} {x:SC},cQ ρ σ xs ys->xs[i]? =some x->∃y,ys[i]? =some y/\RC ρ σ x y
 |x::xs,y::ys,0,x',k,h=>by simp at h;subst h;exact⟨y,rfl,k.1⟩
 |x::xs,y::ys,i+1,x',k,h=>by obtain⟨y',h1,h2⟩:=cQ.get k.2 (i:=i) (by simpa using h);grind
 |[],[],i,x,_,h=>by grind
 |[],_::_,_,_,k,_=>k.elim
 |_::_,[],_,_,k,_=>k.elim
theorem Iv:∀{xs:List (Bool×List SC)} {ys:List (Bool×List AC)} {i:Nat} {b:Bool} {cs:List SC},RT ρ σ xs ys->xs[i]? =some (b,cs)->∃y,ys[i]? =some y/\y.1=b/\cQ ρ σ cs y.2
 |x::xs,y::ys,0,b,cs,k,h=>by simp at h;subst h;exact⟨y,rfl,k.1.1,k.1.2⟩
 |x::xs,y::ys,i+1,b,cs,k,h=>by obtain⟨y',h1,h2⟩:=Iv k.2 (i:=i) (by simpa using h);grind
 |[],[],i,b,cs,_,h=>by grind
 |[],_::_,_,_,_,k,_=>k.elim
 |_::_,[],_,_,_,k,_=>k.elim
theorem RD.toC:∀{is:List Nat} {xs:List DV},RD ρ is xs->cQ ρ σ (is.map .d) (xs.map .d)
 |[],[],_=>trivial
 |i::is,x::xs,k=>⟨k.1,RD.toC k.2⟩
 |[],_::_,k=>k.elim
 |_::_,[],k=>k.elim
theorem RD.drop(n:Nat):∀{xs:List Nat} {ys:List DV},RD ρ xs ys->RD ρ (xs.drop n) (ys.drop n):=by
 induction n with
 |zero=>grind
 |succ n ih=>intro xs ys k;match xs,ys,k with
  |[],[],_=>simp;trivial
  |x::xs,y::ys,k=>exact ih k.2
theorem RD.take(n:Nat):∀{xs:List Nat} {ys:List DV},RD ρ xs ys->RD ρ (xs.take n) (ys.take n):=by
 induction n with
 |zero=>intro xs ys k;simp;trivial
 |succ n ih=>intro xs ys k;match xs,ys,k with
  |[],[],_=>simp;trivial
  |x::xs,y::ys,k=>exact⟨k.1,ih k.2⟩
theorem vl:∀{is:List Nat} {xs:List DV},RD ρ is xs->gL ρ is=some xs
 |[],[],_=>rfl
 |i::is,x::xs,k=>by simp[gL,k.1,vl k.2]
 |[],_::_,k=>k.elim
 |_::_,[],k=>k.elim
theorem RD.len:∀{xs:List Nat} {ys:List DV},RD ρ xs ys->xs.length=ys.length
 |[],[],_=>rfl
 |x::xs,y::ys,k=>by simp[RD.len k.2]
 |[],_::_,k=>k.elim
 |_::_,[],k=>k.elim
theorem Fq:∀{is:List Nat} {xs:List DV},gL ρ is=some xs->RD ρ is xs
 |[],xs,h=>by simp[gL]at h;cases h;trivial
 |i::is,xs,h=>by
  simp[gL]at h;split at h
  ·rename_i x xs' h1 h2;cases h;exact⟨h1,Fq h2⟩
  grind
def dW:Nat->Nat->List Nat
 |_,0=>[]
 |m,k+1=>m::dW (m+1) k
theorem A4:∀{e:List DV} {ρ:List DV},RD (ρ++e) (dW ρ.length e.length) e
 |[],ρ=>trivial
 |x::e,ρ=>by
  refine⟨by simp,?_⟩;have:=A4 (e:=e) (ρ:=ρ++[x])
  grind
theorem eQ{e:List DV}{m k:Nat}(h:ρ.length=m)(hk:e.length=k):RD (ρ++e) (dW m k) e:=by grind[A4]
theorem ao:∀{ps:List PO} {ρ ρ':List DV},ax ps ρ=some ρ'->aQ ρ ρ'
 |[],ρ,ρ',h=>by grind[ax,aQ.refl]
 |o::r,ρ,ρ',h=>by
  simp[ax]at h;split at h
  ·exact(aQ.app _ _).trans (ao h)
  grind
theorem ak:∀{ps qs:List PO} {ρ ρ':List DV},ax (ps++qs) ρ=some ρ'->∃ρ1,ax ps ρ=some ρ1/\ax qs ρ1=some ρ'
 |[],qs,ρ,ρ',h=>⟨ρ,rfl,h⟩
 |o::r,qs,ρ,ρ',h=>by
  simp[List.cons_append,ax]at h ⊢;split at h
  ·rename_i out he;obtain⟨ρ1,h1,h2⟩:=ak h;grind
  grind
theorem az{o:PO}{ρ ρ':List DV}(h:ax [o] ρ=some ρ'):∃out,aA ρ o=some out/\ρ'=ρ++out:=by
 grind[ax]
variable {S:Sy}{s:AS}
theorem aN.more(h:aN S ρ σ s)(hp:aQ ρ ρ'){m:Nat}(hm:ρ'.length=m):aN {S with m:=m} ρ' σ s:=
 ⟨h.n,h.c,hm,λt x hx=>(h.sl t x hx).mono hp (aQ.refl _),λi x hx=>⟨(h.ob i x hx).1,(h.ob i x hx).2.mono hp (aQ.refl _)⟩,λi b hb=>hp.get (h.kn i b hb)⟩
theorem aN.know(h:aN S ρ σ s){i:Nat}{b:Bool}(hb:ρ[i]? =some (.sc (.bool b))):aN {S with kn:=(i,b)::S.kn} ρ σ s:=
 ⟨h.n,h.c,h.m,h.sl,h.ob,λj c hc=>by
  simp[aK]at hc;split at hc
  ·grind
  ·exact h.kn j c hc⟩
theorem aN.put(h:aN S ρ σ s){d:Option Nat}{v:SV}{x:AV}(hv:RV ρ σ v x):aN (S.put d v) ρ σ (s.put d x):=by
 cases d with
 |none=>exact h
 |some t=>
  refine⟨h.n,h.c,h.m,λt' x' hx'=>?_,h.ob,h.kn⟩;simp[Sy.put,aK]at hx';simp[AS.put];split at hx'
  ·rename_i e;injection hx' with hx';subst e hx';rw[ae];exact hv
  ·rename_i e;rw[aE _ _ (λh=>e h.symm)];exact h.sl t' x' hx'
theorem aN.own(h:aN S ρ σ s){i st st':Nat}{o:SO}(ho:S.own i st=some o)(hs:σ[st]? =some st'):∃o',s.own? i st'=some o'/\RO ρ σ o o'/\s.ob i=o'/\i<S.n:=by
 unfold Sy.own at ho
 cases hl:aK S.ob i with
 |none=>grind
 |some x=>
  simp only[hl,Option.bind_some]at ho;split at ho
  ·rename_i hst;injection ho with ho;subst ho;obtain⟨hi,hr⟩:=h.ob i x hl;refine⟨s.ob i,?_,hr,rfl,hi⟩;unfold AS.own?;rw[if_pos (by rw[h.n];exact hi)]
   have:(s.ob i).st=some st':=by
    cases hx:x with
    |var a t cs=>rw[hx]at hr hst;cases hy:s.ob i<;>rw[hy]at hr<;>first|exact hr.elim|skip
                 simp only[SO.st]at hst;cases hst
                 have:=hr.1;rw[hs]at this;injection this with this;simp[Ob.st,this]
    |row a t k y=>rw[hx]at hr hst;cases hy:s.ob i<;>rw[hy]at hr<;>first|exact hr.elim|skip
                  simp only[SO.st]at hst;cases hst
                  have:=hr.1;rw[hs]at this;injection this with this;simp[Ob.st,this]
    |dx a y=>rw[hx]at hr hst;cases hy:s.ob i<;>rw[hy]at hr<;>first|exact hr.elim|skip
             simp[SO.st]at hst;cases hst
             have:=hr.1;rw[hs]at this;injection this with this;simp[Ob.st,this]
    |frz a y=>rw[hx]at hr hst;cases hy:s.ob i<;>rw[hy]at hr<;>first|exact hr.elim|skip
              simp[SO.st]at hst;cases hst
              have:=hr.1;rw[hs]at this;injection this with this;simp[Ob.st,this]
    |arr a t k es=>rw[hx]at hr hst;cases hy:s.ob i<;>rw[hy]at hr<;>first|exact hr.elim|skip
                   simp[SO.st]at hst;cases hst
                   have:=hr.1;rw[hs]at this;injection this with this;simp[Ob.st,this]
    |cur a b t y=>rw[hx]at hr hst;cases hy:s.ob i<;>rw[hy]at hr<;>first|exact hr.elim|skip
                  simp[SO.st]at hst;cases hst
                  have:=hr.1;rw[hs]at this;injection this with this;simp[Ob.st,this]
    |opn a b y q=>rw[hx]at hr hst;cases hy:s.ob i<;>rw[hy]at hr<;>first|exact hr.elim|skip
                  simp[SO.st]at hst;cases hst
                  have:=hr.1;rw[hs]at this;injection this with this;simp[Ob.st,this]
    |pvr a t cs=>rw[hx]at hr hst;cases hy:s.ob i<;>rw[hy]at hr<;>first|exact hr.elim|skip
                 simp[SO.st]at hst;cases hst
                 have:=hr.1;rw[hs]at this;injection this with this;simp[Ob.st,this]
    |shr a t k y=>rw[hx]at hr hst;cases hy:s.ob i<;>rw[hy]at hr<;>first|exact hr.elim|skip
                  simp[SO.st]at hst;cases hst
                  have:=hr.1;rw[hs]at this;injection this with this;simp[Ob.st,this]
    |dead=>rw[hx]at hst;cases hst
   rw[if_pos this]
  grind
def Vn:SO->SO
 |.shr a t k x=>.row a t k x
 |o=>o
def Sy.ownR(S:Sy)(i st:Nat):Option SO:=(S.own i st).map Vn
def Vt(ρ:List DV)(σ:List Nat):SO->Ob->Prop
 |.row st t k x,.row st' t' k' es dp=>σ[st]? =some st'/\t'=t/\k'=k/\True/\ρ[x]? =some (.sl t k es)
 |.row _ _ _ _,_=>False
 |o,o'=>RO ρ σ o o'
theorem aN.ownR(h:aN S ρ σ s){i st st':Nat}{o:SO}(ho:S.ownR i st=some o)(hs:σ[st]? =some st'):∃o',s.own? i st'=some o'/\Vt ρ σ o o'/\s.ob i=o'/\i<S.n:=by
 unfold Sy.ownR at ho
 cases hx:S.own i st with
 |none=>grind
 |some x=>
  simp only[hx,Option.map_some]at ho;injection ho with ho;obtain⟨o',k1,k2,k3,k4⟩:=h.own hx hs;refine⟨o',k1,?_,k3,k4⟩;subst ho
  cases x with
  |row a t k y=>cases o'<;>first|exact k2.elim|exact⟨k2.1,k2.2.1,k2.2.2.1,trivial,k2.2.2.2.2⟩
  |shr a t k y=>cases o'<;>first|exact k2.elim|exact⟨k2.1,k2.2.1,k2.2.2.1,trivial,k2.2.2.2.2⟩
  |_=>exact k2
end
end Go.Proofs.Ytgdbmcoamemmaaa
namespace Go.Proofs.Ytgdbmcoamemmaaa
open Go.RowKit
def ld(S:Sy):Operand->Option (List PO×SV×Sy)
 |.tmp t=>match aK S.sl t with|some v=>some ([],v,S)|none=>none
 |.const (.bool b)=>some ([.k (.bool b)],.p false [.d S.m],{S with m:=S.m+1,kn:=(S.m,b)::S.kn})
 |.const (.int k n)=>some ([.k (.int k n)],.p false [.d S.m],{S with m:=S.m+1})
 |.const (.string x)=>some ([.k (.string x)],.p false [.d S.m],{S with m:=S.m+1})
 |.const (.slice none 0 0)=>some ([],.p false [.nil],S)
 |_=>none
section
variable {P:Program}{ρ ρ':List DV}{σ σ':List Nat}{S S':Sy}{s:AS}{ps:List PO}{v:SV}
theorem aS{x:Operand}(h:ld S x=some (ps,v,S'))(he:ax ps ρ=some ρ')(hr:aN S ρ σ s):RV ρ' σ v (s.ev x)/\aN S' ρ' σ s:=by
 have key:∀(u:Value),pB u=true->ax [.k u] ρ=some ρ'->ρ'=ρ++[.sc u]/\ρ'.length=S.m+1/\ρ'[S.m]? =some (.sc u):=by
  intro u hu he;obtain⟨out,h1,h2⟩:=az he;simp only[aA,hu,if_true]at h1;injection h1 with h1;subst h1 h2;exact⟨rfl,by simp[hr.m],by simp[<-hr.m]⟩
 unfold ld at h;split at h
 ·split at h
  ·rename_i v' hv;injection h with h;injection h with h1 h;injection h with h2 h3;subst h1 h2 h3;simp only[ax]at he;cases he;exact⟨hr.sl _ _ hv,hr⟩
  grind
 ·injection h with h;injection h with h1 h;injection h with h2 h3;subst h1 h2 h3;obtain⟨e1,e2,e3⟩:=key _ rfl he;have hp:=ao he;refine⟨⟨rfl,e3,trivial⟩,?_⟩;exact(hr.more hp e2).know e3
 ·injection h with h;injection h with h1 h;injection h with h2 h3;subst h1 h2 h3;obtain⟨e1,e2,e3⟩:=key _ rfl he;exact⟨⟨rfl,e3,trivial⟩,hr.more (ao he) e2⟩
 ·injection h with h;injection h with h1 h;injection h with h2 h3;subst h1 h2 h3;obtain⟨e1,e2,e3⟩:=key _ rfl he;exact⟨⟨rfl,e3,trivial⟩,hr.more (ao he) e2⟩
 ·injection h with h;injection h with h1 h;injection h with h2 h3;subst h1 h2 h3;simp[ax]at he;cases he;exact⟨⟨rfl,trivial,trivial⟩,hr⟩
 grind
def Sy.bind(S:Sy)(k:Nat):Sy:={S with m:=S.m+k}
theorem aN.bind(h:aN S ρ σ s){out:List DV}{k:Nat}(hk:out.length=k):aN (S.bind k) (ρ++out) σ s:=
 h.more (aQ.app _ _) (by simp[h.m,hk])
def one(v:SV):Option SC:=match v with|.p false [c]=>some c|_=>none
def Ck(v:SV):Option Nat:=match v with|.p false [.d i]=>some i|_=>none
theorem bD{x:AV}{c:SC}(h:one v=some c)(hv:RV ρ σ v x):∃y,x=.p false [y]/\RC ρ σ c y:=by
 unfold one at h;split at h
 ·cases h
  cases x with
  |p b cs=>
   obtain⟨rfl,hc⟩:=hv
   match cs,hc with
   |[y],hc=>exact⟨y,rfl,hc.1⟩
  |tup=>exact hv.elim
  |und=>exact hv.elim
 grind
theorem pG{i:Nat}{y:AC}(h:RC ρ σ (.d i) y):∃x,y=.d x/\ρ[i]? =some x:=by
 cases y<;>first|exact h.elim|exact⟨_,rfl,h⟩
theorem dl{x:AV}{i:Nat}(h:Ck v=some i)(hv:RV ρ σ v x):∃y,x=.p false [.d y]/\ρ[i]? =some y:=by
 unfold Ck at h;split at h
 ·rename_i j;injection h with h;subst h;obtain⟨y,rfl,hy⟩:=bD (c:=.d j) rfl hv
  grind[pG]
 grind
def N7(P:Program)(t:TypeId)(cs:List SC):Option SV:=
 match cm P t with
 |some true=>match dV P t with|some k=>if k<=cs.length then some (.p true (cs.take k))else none|none=>none
 |some false=>match cs with|c::_=>some (.p false [c])|[]=>none
 |none=>none
theorem ub{t:TypeId}{cs:List SC}{ys:List AC}(h:N7 P t cs=some v)(hc:cQ ρ σ cs ys):∃x,C4 P t ys=some x/\RV ρ σ v x:=by
 unfold N7 at h;unfold C4;split at h
 ·split at h
  ·split at h
   ·rename_i k hk hl;cases h;refine⟨.p true (ys.take k),?_,rfl,hc.take k⟩;simp only[*];rw[if_pos (by rw[<-hc.len];exact hl)]
   grind
  grind
 ·split at h
  ·rename_i c r;cases h
   match ys,hc with
   |y::ys,hc=>refine⟨.p false [y],?_,rfl,hc.1,trivial⟩;grind
  grind
 grind
def FI(P:Program)(S:Sy)(t:TypeId):SC->Option (List PO×SV×Sy)
 |.ptr i st off=>match S.own i st with
  |some (.var _ _ cs)=>(match N7 P t (cs.drop off)with|some v=>some ([],v,S)|none=>none)
  |some (.cur _ _ ty z)=>(match dV P ty with
   |some n=>(match N7 P t (((dW S.m n).drop off).map .d)with|some v=>some ([.unc z n],v,S.bind n)|none=>none)
   |none=>none)
  |some (.pvr _ _ cs)=>(match N7 P t (cs.drop off)with|some v=>some ([],v,S)|none=>none)
  |_=>none
 |.elt i st k j off=>match S.ownR i st with
  |some (.row _ _ k' x)=>if k'=k then(match N7 P t (((dW S.m k).drop off).map .d)with|some v=>some ([.idx k x j],v,S.bind k)|none=>none)else none
  |_=>none
 |.rd cs=>match N7 P t (cs.map .d)with|some v=>some ([],v,S)|none=>none
 |_=>none
theorem rW{k x i:Nat}{out:List DV}(h:aA ρ (.idx k x i)=some out):∃t es kd z,ρ[x]? =some (.sl t k es)/\ρ[i]? =some (.sc (.int kd z))/\0<=z/\es[z.toNat]? =some out/\out.length=k:=by
 grind[aA]
theorem DS{t:TypeId}{c:SC}{y:AC}(h:FI P S t c=some (ps,v,S'))(he:ax ps ρ=some ρ')(hr:aN S ρ σ s)(hc:RC ρ σ c y):
 ∃x,zL P s t (.p false [y])=some x/\RV ρ' σ v x/\aN S' ρ' σ s:=by
 unfold FI at h;split at h
 ·rename_i i st off;cases y<;>first|exact hc.elim|skip
  rename_i i' st' off';obtain⟨rfl,hst,rfl⟩:=hc;split at h
  ·rename_i a ty cs ho;split at h
   ·rename_i v' hv;injection h with h;injection h with h1 h;injection h with h2 h3;subst h1 h2 h3;simp[ax]at he;cases he;obtain⟨o',k1,k2,-,-⟩:=hr.own ho hst;cases o'<;>first|exact k2.elim|skip
    rename_i b ty' ys;obtain⟨x,q1,q2⟩:=ub (P:=P) hv (k2.2.2.drop off')
    grind[zL]
   grind
  ·rename_i a id ty z ho;split at h
   ·rename_i n hn;split at h
    ·rename_i v' hv;injection h with h;injection h with h1 h;injection h with h2 h3;subst h1 h2 h3;obtain⟨out,e1,rfl⟩:=az he;obtain⟨o',k1,k2,-,-⟩:=hr.own ho hst;cases o'<;>first|exact k2.elim|skip
     rename_i b id' ty' x0 cs0;obtain⟨-,rfl,rfl,hz⟩:=k2;simp only[aA,hz,iP]at e1;split at e1
     ·rename_i hl;cases e1;have hln:(x0::cs0).length=n:=by assumption
      have hrd:RD (ρ++(x0::cs0)) (dW S.m n) (x0::cs0):=eQ hr.m hln;obtain⟨x,q1,q2⟩:=ub (P:=P) (σ:=σ) hv (RD.toC (hrd.drop off'));refine⟨x,?_,q2,hr.bind hln⟩
      grind[zL,List.map_drop]
     grind
    grind
   grind
  ·rename_i a ty cs ho;split at h
   ·rename_i v' hv;injection h with h;injection h with h1 h;injection h with h2 h3;subst h1 h2 h3;simp[ax]at he;cases he;obtain⟨o',k1,k2,-,-⟩:=hr.own ho hst;cases o'<;>first|exact k2.elim|skip
    rename_i b ty' ys;obtain⟨x,q1,q2⟩:=ub (P:=P) hv (k2.2.2.drop off')
    grind[zL]
   grind
  grind
 ·rename_i i st k j off;cases y<;>first|exact hc.elim|skip
  rename_i i' st' k' j' off';obtain⟨rfl,hst,rfl,⟨kd,z,hz1,hz2,rfl⟩,rfl⟩:=hc;split at h
  ·rename_i a ty k'' x ho;split at h
   ·rename_i hk;subst hk;split at h
    ·rename_i v' hv;injection h with h;injection h with h1 h;injection h with h2 h3;subst h1 h2 h3;obtain⟨out,e1,rfl⟩:=az he;obtain⟨t',es,kd',z',i1,i2,i3,i4,i5⟩:=rW e1;obtain⟨o',k1,k2,-,-⟩:=hr.ownR ho hst;cases o'<;>first|exact k2.elim|skip
     rename_i b ty' kk es' dp;obtain⟨-,rfl,rfl,-,hx⟩:=k2;rw[i1]at hx;injection hx with hx;injection hx with hx1 hx2 hx3;subst hx1 hx3;rw[hz1]at i2;injection i2 with i2;injection i2 with i2;injection i2 with i2a i2b;subst i2b;have hrd:RD (ρ++out) (dW S.m kk) out:=eQ hr.m i5;obtain⟨x',q1,q2⟩:=ub (P:=P) (σ:=σ) hv (RD.toC (hrd.drop off'));refine⟨x',?_,q2,hr.bind i5⟩;simp_all[zL,if_true]
    grind
   grind
  grind
 ·rename_i cs;cases y<;>first|exact hc.elim|skip
  split at h
  ·rename_i v' hv;injection h with h;injection h with h1 h;injection h with h2 h3;subst h1 h2 h3;simp[ax]at he;cases he;obtain⟨x,q1,q2⟩:=ub (P:=P) (σ:=σ) hv (RD.toC hc);exact⟨x,q1,q2,hr⟩
  grind
 grind
def UB(P:Program)(S:Sy)(t:TypeId)(f:Nat)(c:SC):Option SV:=
 match gW P t f with
 |some (fo,k,_)=>if 0<k then(match c with
  |.ptr i st off=>if(S.own i st).isSome then some (.p false [.ptr i st (off+fo)])else none
  |.elt i st k' j off=>if(S.own i st).isSome then some (.p false [.elt i st k' j (off+fo)])else none
  |.rd cs=>some (.p false [.rd (cs.drop fo)])
  |.own i st=>(match S.own i st with|some (.cur _ _ _ _)=>some (.p false [.ptr i st fo])|_=>none)
  |_=>none)else none
 |none=>none
theorem dC(hr:aN S ρ σ s){i st st':Nat}(h:(S.own i st).isSome=true)(hs:σ[st]? =some st'):(s.own? i st').isSome=true:=by
 obtain⟨o,ho⟩:=Option.isSome_iff_exists.1 h;obtain⟨o',k1,-⟩:=hr.own ho hs;rw[k1];rfl
theorem PZ{t:TypeId}{f:Nat}{c:SC}{y:AC}(h:UB P S t f c=some v)(hr:aN S ρ σ s)(hc:RC ρ σ c y):∃x,Ng P s t f (.p false [y])=some x/\RV ρ σ v x:=by
 unfold UB at h;unfold Ng;split at h
 ·rename_i fo k ag hf;split at h
  ·rename_i hk;rw[hf];simp[if_pos hk];split at h
   ·cases y<;>first|exact hc.elim|skip
    obtain⟨rfl,hst,rfl⟩:=hc;split at h
    ·rename_i ho;cases h;simp only[dC hr ho hst,if_true];exact⟨_,rfl,rfl,⟨rfl,hst,rfl⟩,trivial⟩
    grind
   ·cases y<;>first|exact hc.elim|skip
    obtain⟨rfl,hst,rfl,hj,rfl⟩:=hc;split at h
    ·rename_i ho;cases h;simp only[dC hr ho hst,if_true];exact⟨_,rfl,rfl,⟨rfl,hst,rfl,hj,rfl⟩,trivial⟩
    grind
   ·cases y<;>first|exact hc.elim|skip
    cases h;exact⟨_,rfl,rfl,RD.drop fo hc,trivial⟩
   ·split at h
    ·rename_i i st _ _ _ _ ho;cases h;cases y<;>first|exact hc.elim|skip
     rename_i i' st';obtain⟨rfl,hst⟩:=hc;obtain⟨o',k1,k2,-,-⟩:=hr.own ho hst;cases o'<;>first|exact k2.elim|skip
     refine⟨.p false [.ptr i' st' fo],?_,rfl,⟨rfl,hst,rfl⟩,trivial⟩
     grind
    grind
   grind
  grind
 grind
def UC(P:Program)(t:TypeId)(f:Nat)(x:SV):Option SV:=
 match gW P t f,x with
 |some (fo,k,true),.p true cs=>if fo+k<=cs.length then some (.p true ((cs.drop fo).take k))else none
 |some (fo,k,false),.p true cs=>(match cs[fo]? with|some c=>some (.p false [c])|none=>none)
 |_,_=>none
theorem Qz{t:TypeId}{f:Nat}{w:SV}{y:AV}(h:UC P t f w=some v)(hw:RV ρ σ w y):∃x,ND P t f y=some x/\RV ρ σ v x:=by
 unfold UC at h;split at h
 ·rename_i fo k cs hf;split at h
  ·rename_i hl;cases h;cases y<;>first|exact hw.elim|skip
   rename_i b ys;obtain⟨rfl,hc⟩:=hw;refine⟨.p true ((ys.drop fo).take k),?_,rfl,(hc.drop fo).take k⟩;simp only[ND,hf];rw[if_pos (by rw[<-hc.len];exact hl)]
  grind
 ·rename_i fo k cs hf;split at h
  ·rename_i c hc';cases h;cases y<;>first|exact hw.elim|skip
   rename_i b ys;obtain⟨rfl,hc⟩:=hw;obtain⟨y,k1,k2⟩:=hc.get hc';exact⟨.p false [y],by simp_all[ND],rfl,k2,trivial⟩
  grind
 grind
def QE(P:Program)(S:Sy)(t:TypeId)(i:Nat):SC->Option (List PO×SV×Sy)
 |.d x=>match fL P t with|some (_,k)=>some ([.idx k x i],.p false [.rd (dW S.m k)],S.bind k)|none=>none
 |.own id st=>match fL P t,S.ownR id st with
  |some (_,k),some (.row _ _ k' x)=>if k'=k then some ([.chk k x i],.p false [.elt id st k i 0],S)else none
  |some (_,k),some (.frz _ x)=>some ([.idx k x i],.p false [.rd (dW S.m k)],S.bind k)
  |_,_=>none
 |.sub id st k z m=>match fL P t,S.ownR id st with
  |some (_,k1),some (.row _ _ k2 x)=>if k1=k/\k2=k then some ([.atJ z m i],.p false [.elt id st k S.m 0],S.bind 1)else none
  |_,_=>none
 |.nil=>match fL P t with|some (_,k)=>some ([.stop k],.p false [.rd (dW S.m k)],S.bind k)|none=>none
 |_=>none
theorem MN{t:TypeId}{i:Nat}{c:SC}{y:AC}{kd:IntKind}{z:Int}(h:QE P S t i c=some (ps,v,S'))(he:ax ps ρ=some ρ')(hr:aN S ρ σ s)(hc:RC ρ σ c y)(hi:ρ[i]? =some (.sc (.int kd z))):
 ∃x,qw P s t y z=some x/\RV ρ' σ v x/\aN S' ρ' σ s:=by
 unfold QE at h;split at h
 ·obtain⟨x,rfl,hx⟩:=pG hc;split at h
  ·rename_i el k ht;injection h with h;injection h with h1 h;injection h with h2 h3;subst h1 h2 h3;obtain⟨out,e1,rfl⟩:=az he;obtain⟨t',es,kd',z',i1,i2,i3,i4,i5⟩:=rW e1;rw[hx]at i1;cases i1;rw[hi]at i2;injection i2 with i2;injection i2 with i2;injection i2 with i2a i2b;subst i2b;refine⟨.p false [.rd out],?_,⟨rfl,eQ hr.m i5,trivial⟩,hr.bind i5⟩;simp_all[qw,if_pos,if_true]
  grind
 ·rename_i id st;cases y<;>first|exact hc.elim|skip
  obtain⟨rfl,hst⟩:=hc;split at h
  ·rename_i el k a ty k' x ht ho;split at h
   ·rename_i hk;subst hk;injection h with h;injection h with h1 h;injection h with h2 h3;subst h1 h2 h3;obtain⟨out,e1,rfl⟩:=az he;obtain⟨o',k1,k2,-,-⟩:=hr.ownR ho hst;cases o'<;>first|exact k2.elim|skip
    rename_i b ty' kk es' dp;obtain⟨-,rfl,rfl,-,hx⟩:=k2;simp only[aA,hx,hi]at e1;split at e1
    ·rename_i hb;cases e1;rw[List.append_nil];refine⟨.p false [.elt _ _ kk z.toNat 0],?_,⟨rfl,⟨rfl,hst,rfl,⟨kd,z,hi,hb.2.1,rfl⟩,rfl⟩,trivial⟩,hr⟩;simp_all[qw,if_pos]
    grind
   grind
  ·rename_i el k a x ht ho;injection h with h;injection h with h1 h;injection h with h2 h3;subst h1 h2 h3;obtain⟨out,e1,rfl⟩:=az he;obtain⟨t',es,kd',z',i1,i2,i3,i4,i5⟩:=rW e1;obtain⟨o',k1,k2,-,-⟩:=hr.ownR ho hst;cases o'<;>first|exact k2.elim|skip
   rename_i b yy;obtain⟨-,hx⟩:=k2;rw[hx]at i1;cases i1;rw[hi]at i2;injection i2 with i2;injection i2 with i2;injection i2 with i2a i2b;subst i2b;refine⟨.p false [.rd out],?_,⟨rfl,eQ hr.m i5,trivial⟩,hr.bind i5⟩;simp_all[qw,if_pos,if_true]
  grind
 ·rename_i id st k zz mm;cases y<;>first|exact hc.elim|skip
  rename_i i' st' k' lo' n';obtain⟨rfl,hst,rfl,⟨u,u1,u2,rfl⟩,⟨v',v1,v2,rfl⟩⟩:=hc;split at h
  ·rename_i el k1 a ty k2 x ht ho;split at h
   ·rename_i hk;obtain⟨rfl,rfl⟩:=hk;injection h with h;injection h with h1 h;injection h with h2 h3;subst h1 h2 h3;obtain⟨out,e1,rfl⟩:=az he;obtain⟨o',q1,q2,-,-⟩:=hr.ownR ho hst;cases o'<;>first|exact q2.elim|skip
    rename_i b ty' kk es' dp;obtain⟨-,rfl,rfl,-,hx⟩:=q2;simp only[aA,u1,v1,hi]at e1;split at e1
    ·rename_i hb;cases e1;have hj:z.toNat<v'.toNat:=by omega
     refine⟨.p false [.elt _ _ kk (u.toNat+z.toNat) 0],?_,⟨rfl,⟨rfl,hst,rfl,⟨.i64,u+z,by show(_:List DV)[_]? =_;simp[<-hr.m],by omega,by omega⟩,rfl⟩,trivial⟩,hr.bind rfl⟩;simp_all[qw,if_pos]
    grind
   grind
  grind
 ·grind[az,aA]
 grind
end
end Go.Proofs.Ytgdbmcoamemmaaa
namespace Go.Proofs.Ytgdbmcoamemmaaa
open Go.RowKit
abbrev SR:=Option (List PO×SV×Sy)
def d9(r:SR)(k:SV->Sy->SR):SR:=
 match r with
 |some (p,v,S)=>(match k v S with|some (q,u,T)=>some (p++q,u,T)|none=>none)
 |none=>none
theorem bB{r:SR}{k:SV->Sy->SR}{ps:List PO}{v:SV}{S':Sy}(h:d9 r k=some (ps,v,S')):∃p v1 S1 q,r=some (p,v1,S1)/\k v1 S1=some (q,v,S')/\ps=p++q:=by
 unfold d9 at h
 grind
def US(P:Program)(t:TypeId):Bool:=match P.underlying t with|some .bool=>true|_=>false
def Ld(P:Program)(t:TypeId):Bool:=match P.underlying t with|some .string=>true|_=>false
theorem Ei{P:Program}{t:TypeId}(h:Ld P t=true):P.underlying t=some .string:=by
 grind[Ld]
theorem OE{P:Program}{op:BinOp}{t:TypeId}{a b w:Value}(h:hU op (US P t) a b=some w):xb P op t a b=some w:=by
 unfold hU at h
 grind[xb,bool,US]
def UV(P:Program)(a b:TypeId)(S:Sy)(i:Nat):SR:=
 match P.underlying a,P.underlying b with
 |some _,some (.int k)=>some ([.cvI k i],.p false [.d S.m],S.bind 1)
 |some _,some .string=>some ([.cvS i],.p false [.d S.m],S.bind 1)
 |_,_=>none
def UX(S:Sy):SC->SR
 |.d i=>some ([.cvB i],.p false [.d S.m],S.bind 1)
 |.own i st=>(match S.own i st with
  |some (.row _ _ _ x)=>some ([.cvB x],.p false [.d S.m],S.bind 1)
  |some (.frz _ x)=>some ([.cvB x],.p false [.d S.m],S.bind 1)
  |_=>none)
 |_=>none
def Pp(P:Program)(S:Sy)(t:TypeId):SC->SR
 |.d i=>if Ld P t then some ([.lenS i],.p false [.d S.m],S.bind 1)else if(fL P t).isSome then some ([.lenL i],.p false [.d S.m],S.bind 1)else none
 |.nil=>if(fL P t).isSome then some ([.k (.int .i64 0)],.p false [.d S.m],S.bind 1)else none
 |.own i st=>if(fL P t).isSome then(match S.ownR i st with
  |some (.row _ _ _ x)=>some ([.lenL x],.p false [.d S.m],S.bind 1)
  |some (.frz _ x)=>some ([.lenL x],.p false [.d S.m],S.bind 1)
  |some (.dx _ x)=>some ([.lenL x],.p false [.d S.m],S.bind 1)
  |some (.opn _ _ x _)=>some ([.lenL x],.p false [.d S.m],S.bind 1)
  |_=>none)else none
 |.sub i st _ _ m=>if(fL P t).isSome/\(S.own i st).isSome then some ([],.p false [.d m],S)else none
 |.emp=>if(fL P t).isSome then some ([.k (.int .i64 0)],.p false [.d S.m],S.bind 1)else none
 |_=>none
def CP(S:Sy):Option Operand->Option (List PO×Option Nat×Sy)
 |none=>some ([],none,S)
 |some x=>match ld S x with|some (p,v,S1)=>(match Ck v with|some i=>some (p,some i,S1)|none=>none)|none=>none
def R3(P:Program)(t:TypeId)(i:Nat)(lo hi:Option Nat)(S:Sy):SR:=
 if Ld P t then some ([.cutS i lo hi],.p false [.d S.m],S.bind 1)else match fL P t with|some (_,k)=>some ([.cutL k i lo hi],.p false [.d S.m],S.bind 1)|none=>none
def OZ(P:Program)(t:TypeId)(S:Sy)(v:SV)(lo hi:Option Operand):SR:=
 match Ck v with
 |some i=>(match CP S lo with
  |some (p,l,S1)=>(match CP S1 hi with
   |some (q,h,S2)=>(match R3 P t i l h S2 with|some (r,u,S3)=>some (p++(q++r),u,S3)|none=>none)
   |none=>none)
  |none=>none)
 |none=>(match v with
  |.p false [.own i st]=>(match fL P t,S.ownR i st with
   |some (_,k1),some (.row _ _ k x)=>if k1=k then(match CP S lo with
    |some (p,l,S1)=>(match CP S1 hi with
     |some (q,h,S2)=>some (p++(q++[.cutI x l h]),.p false [.sub i st k S2.m (S2.m+1)],S2.bind 2)
     |none=>none)
    |none=>none)else none
   |_,_=>none)
  |.p false [.sub i st k z m]=>(match fL P t,S.ownR i st with
   |some (_,k1),some (.row _ _ k2 x)=>if k1=k/\k2=k then(match CP S lo with
    |some (p,l,S1)=>(match CP S1 hi with
     |some (q,h,S2)=>some (p++(q++[.cutJ z m l h]),.p false [.sub i st k S2.m (S2.m+1)],S2.bind 2)
     |none=>none)
    |none=>none)else none
   |_,_=>none)
  |_=>none)
def D2:List SC->Option (List Nat)
 |[]=>some []
 |.d i::r=>(match D2 r with|some is=>some (i::is)|none=>none)
 |_::_=>none
theorem Bc{ρ:List DV}{σ:List Nat}:∀{cs:List SC} {is:List Nat} {ys:List AC},D2 cs=some is->cQ ρ σ cs ys->∃ds,ys=ds.map .d/\RD ρ is ds
 |[],is,ys,h,hc=>by
  simp[D2]at h;cases h
  cases ys with
  |nil=>exact⟨[],rfl,trivial⟩
  |cons=>exact hc.elim
 |c::r,is,[],h,hc=>hc.elim
 |.d i::r,is,y::ys,h,hc=>by
  simp[D2]at h;split at h
  ·rename_i js hj;cases h;obtain⟨x,rfl,hx⟩:=pG hc.1;obtain⟨ds,rfl,h2⟩:=Bc hj hc.2;exact⟨x::ds,rfl,hx,h2⟩
  grind
 |.nil::_,is,_::_,h,_=>by grind[D2]
 |.own _ _::_,is,_::_,h,_=>by grind[D2]
 |.ptr _ _ _::_,is,_::_,h,_=>by grind[D2]
 |.elt _ _ _ _ _::_,is,_::_,h,_=>by grind[D2]
 |.sub _ _ _ _ _::_,is,_::_,h,_=>by grind[D2]
 |.emp::_,is,_::_,h,_=>by grind[D2]
 |.rd _::_,is,_::_,h,_=>by grind[D2]
theorem KY:∀{ks:List Kd} {ds es:List DV} {b:Bool},zy ks ds es=some b->C5 ks (ds.map .d) (es.map .d)=some b
 |[],[],[],b,h=>h
 |k::ks,.sc x::ds,.sc y::es,b,h=>by
  simp[zy]at h;split at h
  ·rename_i p q h1 h2;cases h;simp[List.map_cons,C5,h1,KY h2]
  grind
 |[],_::_,_,_,h=>by assumption
 |[],[],_::_,_,h=>by assumption
 |_::_,[],_,_,h=>by assumption
 |_::_,_::_,[],_,h=>by grind[zy]
 |_::_,.sl _ _ _::_,_::_,_,h=>by assumption
 |_::_,.sc _::_,.sl _ _ _::_,_,h=>by assumption
def Vl(P:Program)(op:BinOp)(t:TypeId)(S:Sy)(v u:SV):SR:=
 match v,u with
 |.p true cs,.p true cs'=>(match D2 cs,D2 cs',BY P t,op with
  |some is,some js,some ks,.eql=>some ([.eqS false ks is js],.p false [.d S.m],S.bind 1)
  |some is,some js,some ks,.neq=>some ([.eqS true ks is js],.p false [.d S.m],S.bind 1)
  |_,_,_,_=>none)
 |_,_=>none
def SA(P:Program)(S:Sy):Op->SR
 |.move x=>ld S x
 |.assign x=>ld S x
 |.pick c x y=>d9 (ld S c) λv S1=>match Ck v with|some i=>(match aK S1.kn i with|some b=>ld S1 (if b then x else y)|none=>none)|none=>none
 |.load t x=>d9 (ld S x) λv S1=>match one v with|some c=>FI P S1 t c|none=>none
 |.fieldAddr t x f=>d9 (ld S x) λv S1=>match one v with|some c=>(match UB P S1 t f c with|some u=>some ([],u,S1)|none=>none)|none=>none
 |.field t x f=>d9 (ld S x) λv S1=>match UC P t f v with|some u=>some ([],u,S1)|none=>none
 |.indexAddr t x ix=>d9 (ld S ix) λv S1=>match Ck v with|some i=>d9 (ld S1 x) λu S2=>(match one u with|some c=>d9 (some ([.isI i],.p false [],S2)) λ_ S3=>QE P S3 t i c|none=>none)|none=>none
 |.index t x ix=>d9 (ld S x) λv S1=>d9 (ld S1 ix) λu S2=>match Ck v,Ck u with|some i,some j=>if Ld P t then some ([.chr i j],.p false [.d S2.m],S2.bind 1)else none|_,_=>none
 |.binOp op t x y _=>d9 (ld S x) λv S1=>d9 (ld S1 y) λu S2=>match Ck v,Ck u with|some i,some j=>some ([.bin op (US P t) i j],.p false [.d S2.m],S2.bind 1)|_,_=>Vl P op t S2 v u
 |.unOp op _ x=>d9 (ld S x) λv S1=>match Ck v with|some i=>some ([.un op i],.p false [.d S1.m],S1.bind 1)|_=>none
 |.convert a b x=>d9 (ld S x) λv S1=>if B2 P a b then(match one v with|some c=>UX S1 c|none=>none)else match Ck v with|some i=>UV P a b S1 i|_=>none
 |.extract x ix=>d9 (ld S x) λv S1=>match v with|.tup xs=>(match xs[ix]? with|some (b,cs)=>some ([],.p b cs,S1)|none=>none)|_=>none
 |.slice t x lo hi none=>d9 (ld S x) λv S1=>OZ P t S1 v lo hi
 |.call c=>match c.callee,c.args.toList,c.argTypes.toList with
  |.builtin .len,[x],[t]=>d9 (ld S x) λv S1=>(match one v with|some c=>Pp P S1 t c|none=>none)
  |.builtin .max,[x,y],_=>d9 (ld S x) λv S1=>d9 (ld S1 y) λu S2=>(match Ck v,Ck u with|some i,some j=>some ([.mm true i j],.p false [.d S2.m],S2.bind 1)|_,_=>none)
  |.builtin .min,[x,y],_=>d9 (ld S x) λv S1=>d9 (ld S1 y) λu S2=>(match Ck v,Ck u with|some i,some j=>some ([.mm false i j],.p false [.d S2.m],S2.bind 1)|_,_=>none)
  |_,_,_=>none
 |.nilCheck x=>d9 (ld S x) λv S1=>match v with|.p false [.own i st]=>(match S1.own i st with|some (.cur _ _ _ _)=>some ([],v,S1)|_=>none)|.p false [.ptr i st off]=>if(S1.own i st).isSome then some ([],v,S1)else none|.p false [.elt i st k j off]=>if(S1.own i st).isSome then some ([],v,S1)else none|_=>none
 |_=>none
section
variable {P:Program}{ρ ρ':List DV}{σ σ':List Nat}{S S':Sy}{s:AS}{ps:List PO}{v:SV}
theorem vG(hr:aN S ρ σ s){o:PO}{w:Value}(h:aA ρ o=some [.sc w])(he:ax [o] ρ=some ρ'):RV ρ' σ (.p false [.d S.m]) (nu w)/\aN (S.bind 1) ρ' σ s:=by
 obtain⟨out,h1,rfl⟩:=az he;rw[h]at h1;cases h1;exact⟨⟨rfl,by show(_:List DV)[_]? =_;simp[<-hr.m],trivial⟩,hr.bind rfl⟩
theorem Dm{x:Option Value}{out:List DV}(h:t6 x=some out):∃w,x=some w/\out=[.sc w]:=by
 unfold t6 at h;grind
theorem PY{a b:TypeId}{i:Nat}(h:UV P a b S i=some (ps,v,S'))(he:ax ps ρ=some ρ')(hr:aN S ρ σ s){y:DV}(hy:ρ[i]? =some y):∃u,Lu P a b (.p false [.d y])=some u/\RV ρ' σ v u/\aN S' ρ' σ s:=by
 unfold UV at h;split at h
 ·rename_i d k h1 h2;injection h with h;injection h with e1 h;injection h with e2 e3;subst e1 e2 e3;obtain⟨out,o1,-⟩:=az he;simp[aA,hy]at o1;split at o1
  ·rename_i kk n hyy;cases hyy;injection o1 with o1;obtain⟨q1,q2⟩:=vG (w:=.int k (k.wrap n)) hr (by grind[aA]) he;simp_all[Lu,N4]
  grind
 ·rename_i d h1 h2;injection h with h;injection h with e1 h;injection h with e2 e3;subst e1 e2 e3;obtain⟨out,o1,-⟩:=az he;simp[aA,hy]at o1;split at o1
  ·rename_i n hyy;cases hyy;injection o1 with o1;obtain⟨q1,q2⟩:=vG (w:=.string n) hr (by grind[aA]) he;simp_all[Lu,N4]
  grind
 grind
theorem GX{a b:TypeId}{y:DV}{t k:Nat}{es:List (List DV)}(hy:y=.sl t k es):Lu P a b (.p false [.d y])=none:=by subst hy;rfl
theorem PW{a b:TypeId}{c:SC}{y:AC}(hT:B2 P a b=true)(h:UX S c=some (ps,v,S'))(he:ax ps ρ=some ρ')(hr:aN S ρ σ s)(hc:RC ρ σ c y):∃u,Ls P s a b (.p false [y])=some u/\RV ρ' σ v u/\aN S' ρ' σ s:=by
 have fin:∀{x:Nat} {d:DV},ps=[.cvB x]->v=.p false [.d S.m]->S'=S.bind 1->ρ[x]? =some d->Lw s y=some d->Lu P a b (.p false [y])=none->∃u,Ls P s a b (.p false [y])=some u/\RV ρ' σ v u/\aN S' ρ' σ s:=by
  intro x d e1 e2 e3 hx hrd hcv;subst e1 e2 e3;obtain⟨out,o1,-⟩:=az he;have o1':=o1;simp[aA,hx]at o1;split at o1
  ·rename_i t es hd;cases hd;split at o1
   ·rename_i xs hn;cases o1;obtain⟨q1,q2⟩:=vG hr o1' he;simp_all[Ls,cvB,if_true]
   grind
  grind
 unfold UX at h;split at h
 ·rename_i i;injection h with h;injection h with e1 h;injection h with e2 e3;obtain⟨x,rfl,hx⟩:=pG hc;obtain⟨out,o1,-⟩:=az (e1▸he)
  have hcv:Lu P a b (.p false [.d x])=none:=by
   grind[aA,GX]
  exact fin e1.symm e2.symm e3.symm hx rfl hcv
 ·cases y<;>first|exact hc.elim|skip
  obtain⟨rfl,hst⟩:=hc;split at h
  ·rename_i ho;injection h with h;injection h with e1 h;injection h with e2 e3;obtain⟨o',k1,k2,k3,k4⟩:=hr.own ho hst;cases o'<;>first|exact k2.elim|skip
   obtain⟨-,rfl,rfl,rfl,hx⟩:=k2;obtain⟨g1,g2,g3⟩:=am k1;refine fin e1.symm e2.symm e3.symm hx ?_ rfl;simp_all[AS.lv,if_pos,Ob.st,Option.some.injEq,Lw,if_true]
  ·rename_i ho;injection h with h;injection h with e1 h;injection h with e2 e3;obtain⟨o',k1,k2,k3,k4⟩:=hr.own ho hst;cases o'<;>first|exact k2.elim|skip
   obtain⟨-,hx⟩:=k2;obtain⟨g1,g2,g3⟩:=am k1;refine fin e1.symm e2.symm e3.symm hx ?_ rfl;simp_all[AS.lv,if_pos,Ob.st,Option.some.injEq,Lw,if_true]
  grind
 grind
theorem LK{t:TypeId}{c:SC}{y:AC}(h:Pp P S t c=some (ps,v,S'))(he:ax ps ρ=some ρ')(hr:aN S ρ σ s)(hc:RC ρ σ c y):∃n,kX P s t y=some n/\RV ρ' σ v (nu (.int .i64 n))/\aN S' ρ' σ s:=by
 have fin:∀{o:PO} {n:Nat},ps=[o]->v=.p false [.d S.m]->S'=S.bind 1->aA ρ o=some [.sc (.int .i64 n)]->RV ρ' σ v (nu (.int .i64 n))/\aN S' ρ' σ s:=by
  grind[vG]
 unfold Pp at h;split at h
 ·obtain⟨x,rfl,hx⟩:=pG hc
  grind[az,aA,kX,Ei]
 ·cases y<;>first|exact hc.elim|skip
  grind[kX,aA,pB]
 ·cases y<;>first|exact hc.elim|skip
  obtain⟨rfl,hst⟩:=hc;split at h
  ·rename_i ht;split at h
   ·rename_i ho;injection h with h;injection h with e1 h;injection h with e2 e3;obtain⟨o',k1,k2,-,-⟩:=hr.ownR ho hst;cases o'<;>first|exact k2.elim|skip
    rename_i b ty' kk es' dp;obtain⟨-,rfl,rfl,-,hx⟩:=k2
    grind[kX,aA]
   ·rename_i ho;injection h with h;injection h with e1 h;injection h with e2 e3;obtain⟨o',k1,k2,-,-⟩:=hr.ownR ho hst;cases o'<;>first|exact k2.elim|skip
    rename_i b yy;obtain⟨-,hx⟩:=k2
    grind[az,aA,kX]
   ·rename_i ho;injection h with h;injection h with e1 h;injection h with e2 e3;obtain⟨o',k1,k2,-,-⟩:=hr.ownR ho hst;cases o'<;>first|exact k2.elim|skip
    rename_i b yy;obtain⟨-,hx⟩:=k2
    grind[az,aA,kX]
   ·rename_i ho;injection h with h;injection h with e1 h;injection h with e2 e3;obtain⟨o',k1,k2,-,-⟩:=hr.ownR ho hst;cases o'<;>first|exact k2.elim|skip
    rename_i b ty' kk es' dp;obtain⟨-,rfl,hx,-⟩:=k2
    grind[kX,aA]
   grind
  grind
 ·cases y<;>first|exact hc.elim|skip
  obtain⟨rfl,hst,rfl,⟨u,u1,u2,rfl⟩,⟨v',v1,v2,rfl⟩⟩:=hc;split at h
  ·rename_i hs;injection h with h;injection h with e1 h;injection h with e2 e3;subst e1 e2 e3;simp[ax]at he;cases he;have hso:=dC hr hs.2 hst;exact⟨v'.toNat,by grind[kX],⟨rfl,by show(_:List DV)[_]? =_;rw[v1];grind,trivial⟩,hr⟩
  grind
 ·cases y<;>first|exact hc.elim|skip
  grind[kX,aA,pB]
 grind
theorem pb{x:Option Operand}{l:Option Nat}(h:CP S x=some (ps,l,S'))(he:ax ps ρ=some ρ')(hr:aN S ρ σ s):aN S' ρ' σ s/\∀ρ'' r,aQ ρ' ρ''->zA ρ'' l=some r->s.evI x=some r:=by
 unfold CP at h;split at h
 ·injection h with h;injection h with e1 h;injection h with e2 e3;subst e1 e2 e3;simp[ax]at he;cases he;refine⟨hr,λρ'' r _ hg=>?_⟩
  assumption
 ·rename_i x;split at h
  ·rename_i p v1 S1 hv;split at h
   ·rename_i i hd;injection h with h;injection h with e1 h;injection h with e2 e3;subst e1 e2 e3;obtain⟨k1,k2⟩:=aS hv he hr;refine⟨k2,λρ'' r hp hg=>?_⟩;obtain⟨y,y1,y2⟩:=dl hd k1;simp[zA,gI,hp.get y2]at hg
    grind[AS.evI]
   grind
  grind
theorem Mo{t:TypeId}{lo hi:Option Operand}{u:SV}{x:AV}(h:OZ P t S u lo hi=some (ps,v,S'))(he:ax ps ρ=some ρ')(hr:aN S ρ σ s)(hu:RV ρ σ u x):
 ∃l h' y,s.evI lo=some l/\s.evI hi=some h'/\rJ P s t x l h'=some y/\RV ρ' σ v y/\aN S' ρ' σ s:=by
 unfold OZ at h;split at h
 ·rename_i i hd;split at h
  ·rename_i p l S1 h1;split at h
   ·rename_i q hh S2 h2;split at h
    ·rename_i r u' S3 h3;injection h with h;injection h with e1 h;injection h with e2 e3;subst e1 e2 e3;obtain⟨ρ1,a1,a2⟩:=ak he;obtain⟨ρ2,b1,b2⟩:=ak a2;obtain⟨r1,f1⟩:=pb h1 a1 hr;obtain⟨r2,f2⟩:=pb h2 b1 r1;have p12:=ao b1;have p02:aQ ρ ρ2:=(ao a1).trans p12;obtain⟨y,rfl,hy⟩:=dl hd hu;have hy2:=p02.get hy;unfold R3 at h3;split at h3
     ·rename_i hs;injection h3 with h3;injection h3 with e1 h3;injection h3 with e2 e3;subst e1 e2 e3;obtain⟨out,o1,o2⟩:=az b2;have o1':=o1;simp[aA,hy2]at o1;split at o1
      ·rename_i b lv hv' g1 g2 g3;cases g1;split at o1
       ·rename_i a b' hc;injection o1 with o1;subst o1;obtain⟨q1,q2⟩:=vG (w:=.string (b.extract a b')) r2 o1' b2;exact⟨lv,hv',_,f1 _ _ p12 g2,f2 _ _ (aQ.refl _) g3,by grind[rJ,Ei],q1,q2⟩
       grind
      grind
     ·split at h3
      ·rename_i el k ht;injection h3 with h3;injection h3 with e1 h3;injection h3 with e2 e3;subst e1 e2 e3;obtain⟨out,o1,rfl⟩:=az b2;simp[aA,hy2]at o1;split at o1
       ·rename_i tt k' es lv hv' g1 g2 g3;cases g1;split at o1
        ·rename_i hk;subst hk;split at o1
         ·rename_i a b' hc;injection o1 with o1;subst o1;exact⟨lv,hv',.p false [.d (.sl tt k' ((es.drop a).take (b'-a)))],f1 _ _ p12 g2,f2 _ _ (aQ.refl _) g3,by grind[rJ],⟨rfl,by show(_:List DV)[_]? =_;simp[<-r2.m],trivial⟩,r2.bind rfl⟩
         grind
        grind
       grind
      grind
    grind
   grind
  grind
 ·split at h
  ·rename_i i st hdd;split at h
   ·rename_i el k1 a ty k xx ht ho;split at h
    ·rename_i hk;subst hk;split at h
     ·rename_i p l S1 h1;split at h
      ·rename_i q hh S2 h2;injection h with h;injection h with e1 h;injection h with e2 e3;subst e1 e2 e3;obtain⟨ρ1,a1,a2⟩:=ak he;obtain⟨ρ2,b1,b2⟩:=ak a2;obtain⟨r1,f1⟩:=pb h1 a1 hr;obtain⟨r2,f2⟩:=pb h2 b1 r1;have p12:=ao b1;have p02:aQ ρ ρ2:=(ao a1).trans p12;obtain⟨y,rfl,hy⟩:=bD (c:=.own i st) rfl hu;cases y<;>first|exact hy.elim|skip
       obtain⟨rfl,hst⟩:=hy;obtain⟨o',q1,q2,-,-⟩:=hr.ownR ho hst;cases o'<;>first|exact q2.elim|skip
       rename_i b ty' kk es' dp;obtain⟨-,rfl,rfl,-,hx⟩:=q2;obtain⟨out,o1,rfl⟩:=az b2;simp[aA,p02.get hx]at o1;split at o1
       ·rename_i tt k3 es lv hv' g1 g2 g3;injection g1 with g1;injection g1 with g1 g1' g1'';subst g1 g1' g1'';split at o1
        ·rename_i a' b' hc;cases o1;exact⟨lv,hv',.p false [.sub _ _ kk a' (b'-a')],f1 _ _ p12 g2,f2 _ _ (aQ.refl _) g3,by grind[rJ],⟨rfl,⟨rfl,hst,rfl,⟨((a':Nat):Int),by simp[<-r2.m],by omega,by simp⟩,⟨((b'-a':Nat):Int),by rw[<-r2.m];simp,by omega,by simp⟩⟩,trivial⟩,r2.bind rfl⟩
        grind
       grind
      grind
     grind
    grind
   grind
  ·rename_i i st k zz mm hdd;split at h
   ·rename_i el k1 a ty k2 xx ht ho;split at h
    ·rename_i hk;obtain⟨rfl,rfl⟩:=hk;split at h
     ·rename_i p l S1 h1;split at h
      ·rename_i q hh S2 h2;injection h with h;injection h with e1 h;injection h with e2 e3;subst e1 e2 e3;obtain⟨ρ1,a1,a2⟩:=ak he;obtain⟨ρ2,b1,b2⟩:=ak a2;obtain⟨r1,f1⟩:=pb h1 a1 hr;obtain⟨r2,f2⟩:=pb h2 b1 r1;have p12:=ao b1;have p02:aQ ρ ρ2:=(ao a1).trans p12;obtain⟨y,rfl,hy⟩:=bD (c:=.sub i st _ zz mm) rfl hu;cases y<;>first|exact hy.elim|skip
       obtain⟨rfl,hst,rfl,⟨u0,u1,u2,rfl⟩,⟨v0,v1,v2,rfl⟩⟩:=hy;obtain⟨o',q1,q2,-,-⟩:=hr.ownR ho hst;cases o'<;>first|exact q2.elim|skip
       rename_i b ty' kk es' dp;obtain⟨-,rfl,rfl,-,hx⟩:=q2;obtain⟨out,o1,rfl⟩:=az b2;simp[aA,p02.get u1,p02.get v1]at o1;split at o1
       ·rename_i uu vv lv hv' g1 g1' g2 g3;injection g1 with g1;injection g1 with g1;injection g1 with _ g1;injection g1' with g1';injection g1' with g1';injection g1' with _ g1';subst g1 g1';split at o1
        ·split at o1
         ·rename_i a' b' hc;cases o1;exact⟨lv,hv',.p false [.sub _ _ kk (u0.toNat+a') (b'-a')],f1 _ _ p12 g2,f2 _ _ (aQ.refl _) g3,by grind[rJ],⟨rfl,⟨rfl,hst,rfl,⟨((u0.toNat+a':Nat):Int),by rw[<-r2.m];simp,by omega,by omega⟩,⟨((b'-a':Nat):Int),by rw[<-r2.m];simp,by omega,by omega⟩⟩,trivial⟩,r2.bind rfl⟩
         grind
        omega
       grind
      grind
     grind
    grind
   grind
  grind
theorem JD{op:Op}(h:SA P S op=some (ps,v,S'))(he:ax ps ρ=some ρ')(hr:aN S ρ σ s):∃x,hV P s op=some x/\RV ρ' σ v x/\aN S' ρ' σ s:=by
 unfold SA at h;split at h
 ·obtain⟨k1,k2⟩:=aS h he hr;exact⟨_,rfl,k1,k2⟩
 ·obtain⟨k1,k2⟩:=aS h he hr;exact⟨_,rfl,k1,k2⟩
 ·rename_i c x y;obtain⟨p,v1,S1,q,h1,h2,rfl⟩:=bB h;obtain⟨ρ1,a1,a2⟩:=ak he;obtain⟨k1,k2⟩:=aS h1 a1 hr;split at h2
  ·rename_i i hd;split at h2
   ·rename_i b hb;obtain⟨z,z1,z2⟩:=dl hd k1;rw[k2.kn i b hb]at z2;cases z2;obtain⟨m1,m2⟩:=aS h2 a2 k2
    grind[hV,RG]
   grind
  grind
 ·obtain⟨p,v1,S1,q,h1,h2,rfl⟩:=bB h;obtain⟨ρ1,a1,a2⟩:=ak he;obtain⟨k1,k2⟩:=aS h1 a1 hr
  grind[bD,DS,hV]
 ·obtain⟨p,v1,S1,q,h1,h2,rfl⟩:=bB h;obtain⟨ρ1,a1,a2⟩:=ak he;obtain⟨k1,k2⟩:=aS h1 a1 hr
  grind[ax,bD,PZ,hV]
 ·obtain⟨p,v1,S1,q,h1,h2,rfl⟩:=bB h;obtain⟨ρ1,a1,a2⟩:=ak he;obtain⟨k1,k2⟩:=aS h1 a1 hr
  grind[ax,Qz,hV]
 ·obtain⟨p,v1,S1,q,h1,h2,rfl⟩:=bB h;obtain⟨ρ1,a1,a2⟩:=ak he;obtain⟨k1,k2⟩:=aS h1 a1 hr;split at h2
  ·rename_i i hd;obtain⟨p2,v2,S2,q2,h3,h4,rfl⟩:=bB h2;obtain⟨ρ2,b1,b2⟩:=ak a2;obtain⟨m1,m2⟩:=aS h3 b1 k2;split at h4
   ·rename_i c hc;obtain⟨p3,v3,S3,q3,h5,h6,rfl⟩:=bB h4;injection h5 with h5;injection h5 with e1 h5;injection h5 with e2 e3;subst e1 e2 e3;obtain⟨ρ3,c1,c2⟩:=ak b2;obtain⟨out,o1,rfl⟩:=az c1;obtain⟨z,z1,z2⟩:=dl hd k1;have z2':=(ao b1).get z2
    grind[aA,bD,MN,hV]
   grind
  grind
 ·obtain⟨p,v1,S1,q,h1,h2,rfl⟩:=bB h;obtain⟨ρ1,a1,a2⟩:=ak he;obtain⟨k1,k2⟩:=aS h1 a1 hr;obtain⟨p2,v2,S2,q2,h3,h4,rfl⟩:=bB h2;obtain⟨ρ2,b1,b2⟩:=ak a2;obtain⟨m1,m2⟩:=aS h3 b1 k2;split at h4
  ·rename_i i j hi hj;split at h4
   ·rename_i hs;injection h4 with h4;injection h4 with e1 h4;injection h4 with e2 e3;subst e1 e2 e3;obtain⟨y,y1,y2⟩:=dl hi k1;obtain⟨z,z1,z2⟩:=dl hj m1;have y2':=(ao b1).get y2;obtain⟨out,o1,-⟩:=az b2;have o1':=o1;simp[aA,y2',z2]at o1;split at o1
    ·rename_i b kd zz g1 g2;cases g1;split at o1
     ·rename_i hz;split at o1
      ·rename_i u hu;cases o1;obtain⟨q1,q2⟩:=vG m2 o1' b2;simp_all[hV,Rw,Ei,if_pos]
      grind
     grind
    grind
   grind
  grind
 ·obtain⟨p,v1,S1,q,h1,h2,rfl⟩:=bB h;obtain⟨ρ1,a1,a2⟩:=ak he;obtain⟨k1,k2⟩:=aS h1 a1 hr;obtain⟨p2,v2,S2,q2,h3,h4,rfl⟩:=bB h2;obtain⟨ρ2,b1,b2⟩:=ak a2;obtain⟨m1,m2⟩:=aS h3 b1 k2;split at h4
  ·rename_i i j hi hj;injection h4 with h4;injection h4 with e1 h4;injection h4 with e2 e3;subst e1 e2 e3;obtain⟨y,y1,y2⟩:=dl hi k1;obtain⟨z,z1,z2⟩:=dl hj m1;have y2':=(ao b1).get y2;obtain⟨out,o1,-⟩:=az b2;have o1':=o1;simp[aA,y2',z2]at o1;split at o1
   ·rename_i a b g1 g2;cases g1;obtain⟨w,w1,rfl⟩:=Dm o1;obtain⟨q1,q2⟩:=vG m2 o1' b2
    grind[hV,Em,Ct,OE]
   grind
  ·rename_i op t X Y _ _ _ _;unfold Vl at h4;split at h4
   ·rename_i cs cs' _
    have key:∀(is js:List Nat) (ks:List Kd) (neg:Bool),D2 cs=some is->D2 cs'=some js->ax [.eqS neg ks is js] ρ2=some ρ'->∃b,aA ρ2 (.eqS neg ks is js)=some [.sc (.bool (if neg then !b else b))]/\∃xs ys,s.ev X=.p true xs/\s.ev Y=.p true ys/\C5 ks xs ys=some b:=by
     intro is js ks neg g1 g2 g3;obtain⟨out,o1,-⟩:=az g3
     cases hx:s.ev X with
     |p b1 xs=>
      rw[hx]at k1;obtain⟨rfl,c1⟩:=k1
      cases hy:s.ev Y with
      |p b2 ys=>
       rw[hy]at m1;obtain⟨rfl,c2⟩:=m1;obtain⟨ds,rfl,d1⟩:=Bc g1 c1;obtain⟨es,rfl,d2⟩:=Bc g2 c2;have o2:=o1;simp[aA,vl (d1.mono (ao b1)),vl d2]at o1
       grind[KY]
      |tup=>rw[hy]at m1;exact m1.elim
      |und=>rw[hy]at m1;exact m1.elim
     |tup=>rw[hx]at k1;exact k1.elim
     |und=>rw[hx]at k1;exact k1.elim
    split at h4
    ·rename_i is js ks g1 g2 g3;injection h4 with h4;injection h4 with e1 h4;injection h4 with e2 e3;subst e1 e2 e3;obtain⟨b,o1,xs,ys,hx,hy,hb⟩:=key is js ks false g1 g2 b2;obtain⟨q1,q2⟩:=vG m2 o1 b2
     grind[hV,Em,Ct,RA]
    ·rename_i is js ks g1 g2 g3;injection h4 with h4;injection h4 with e1 h4;injection h4 with e2 e3;subst e1 e2 e3;obtain⟨b,o1,xs,ys,hx,hy,hb⟩:=key is js ks true g1 g2 b2;obtain⟨q1,q2⟩:=vG m2 o1 b2
     grind[hV,Em,Ct,RA]
    grind
   grind
 ·obtain⟨p,v1,S1,q,h1,h2,rfl⟩:=bB h;obtain⟨ρ1,a1,a2⟩:=ak he;obtain⟨k1,k2⟩:=aS h1 a1 hr;split at h2
  ·rename_i i hi;injection h2 with h2;injection h2 with e1 h2;injection h2 with e2 e3;subst e1 e2 e3;obtain⟨y,y1,y2⟩:=dl hi k1;obtain⟨out,o1,-⟩:=az a2;have o1':=o1;simp[aA,y2]at o1;split at o1
   ·rename_i a g1;cases g1;obtain⟨w,w1,rfl⟩:=Dm o1;obtain⟨q1,q2⟩:=vG k2 o1' a2
    grind[hV,Rp]
   grind
  grind
 ·obtain⟨p,v1,S1,q,h1,h2,rfl⟩:=bB h;obtain⟨ρ1,a1,a2⟩:=ak he;obtain⟨k1,k2⟩:=aS h1 a1 hr
  grind[bD,PW,hV,dl,PY,Ls]
 ·rename_i x ix;obtain⟨p,v1,S1,q,h1,h2,rfl⟩:=bB h;obtain⟨ρ1,a1,a2⟩:=ak he;obtain⟨k1,k2⟩:=aS h1 a1 hr;split at h2
  ·rename_i xs;split at h2
   ·rename_i b cs hx;injection h2 with h2;injection h2 with e1 h2;injection h2 with e2 e3;subst e1 e2 e3;simp[ax]at a2;cases a2
    cases hs:s.ev x with
    |tup ys=>
     rw[hs]at k1;obtain⟨y,y1,y2,y3⟩:=Iv k1 hx;obtain⟨yb,yc⟩:=y
     exact⟨.p yb yc,by grind[hV,J2],⟨y2,y3⟩,k2⟩
    |p=>rw[hs]at k1;exact k1.elim
    |und=>rw[hs]at k1;exact k1.elim
   grind
  grind
 ·obtain⟨p,v1,S1,q,h1,h2,rfl⟩:=bB h;obtain⟨ρ1,a1,a2⟩:=ak he;obtain⟨k1,k2⟩:=aS h1 a1 hr
  grind[Mo,hV]
 ·rename_i c;split at h
  ·rename_i x t hc1 hc2 hc3;obtain⟨p,v1,S1,q,h1,h2,rfl⟩:=bB h;obtain⟨ρ1,a1,a2⟩:=ak he;obtain⟨k1,k2⟩:=aS h1 a1 hr
   grind[bD,LK,hV,uK]
  ·rename_i x y _ hc1 hc2;obtain⟨p,v1,S1,q,h1,h2,rfl⟩:=bB h;obtain⟨ρ1,a1,a2⟩:=ak he;obtain⟨k1,k2⟩:=aS h1 a1 hr;obtain⟨p2,v2,S2,q2,h3,h4,rfl⟩:=bB h2;obtain⟨ρ2,b1,b2⟩:=ak a2;obtain⟨m1,m2⟩:=aS h3 b1 k2;split at h4
   ·rename_i i j hi hj;injection h4 with h4;injection h4 with e1 h4;injection h4 with e2 e3;subst e1 e2 e3;obtain⟨y,y1,y2⟩:=dl hi k1;obtain⟨z,z1,z2⟩:=dl hj m1;have y2':=(ao b1).get y2;obtain⟨out,o1,-⟩:=az b2;have o1':=o1;simp[aA,y2',z2]at o1;split at o1
    ·rename_i k a k' b g1 g2;cases g1;split at o1
     ·rename_i e;cases o1;obtain⟨q1,q2⟩:=vG m2 o1' b2;simp_all[hV,uK,NY,if_pos]
     grind
    grind
   grind
  ·rename_i x y _ hc1 hc2;obtain⟨p,v1,S1,q,h1,h2,rfl⟩:=bB h;obtain⟨ρ1,a1,a2⟩:=ak he;obtain⟨k1,k2⟩:=aS h1 a1 hr;obtain⟨p2,v2,S2,q2,h3,h4,rfl⟩:=bB h2;obtain⟨ρ2,b1,b2⟩:=ak a2;obtain⟨m1,m2⟩:=aS h3 b1 k2;split at h4
   ·rename_i i j hi hj;injection h4 with h4;injection h4 with e1 h4;injection h4 with e2 e3;subst e1 e2 e3;obtain⟨y,y1,y2⟩:=dl hi k1;obtain⟨z,z1,z2⟩:=dl hj m1;have y2':=(ao b1).get y2;obtain⟨out,o1,-⟩:=az b2;have o1':=o1;simp[aA,y2',z2]at o1;split at o1
    ·rename_i k a k' b g1 g2;cases g1;split at o1
     ·rename_i e;cases o1;obtain⟨q1,q2⟩:=vG m2 o1' b2;simp_all[hV,uK,NY,if_pos]
     grind
    grind
   grind
  grind
 ·obtain⟨p,v1,S1,q,h1,h2,rfl⟩:=bB h;obtain⟨ρ1,a1,a2⟩:=ak he;obtain⟨k1,k2⟩:=aS h1 a1 hr;split at h2
  ·rename_i i st;split at h2
   ·rename_i ob id t z ho;cases h2;simp[ax]at a2;cases a2;obtain⟨y,y1,y2⟩:=bD (c:=.own i st) rfl k1;cases y<;>first|exact y2.elim|skip
    rename_i i' st';obtain⟨rfl,hst⟩:=y2;obtain⟨o',m1,m2,-,-⟩:=k2.own ho hst;cases o'<;>first|exact m2.elim|skip
    refine⟨.p false [.own i' st'],?_,⟨rfl,⟨rfl,hst⟩,trivial⟩,k2⟩
    grind[hV,Qi]
   grind
  ·rename_i i st off;split at h2
   ·rename_i ho;cases h2;simp[ax]at a2;cases a2;obtain⟨y,y1,y2⟩:=bD (c:=.ptr i st off) rfl k1;cases y<;>first|exact y2.elim|skip
    rename_i i' st' off';obtain⟨rfl,hst,rfl⟩:=y2;refine⟨.p false [.ptr _ st' _],?_,⟨rfl,⟨rfl,hst,rfl⟩,trivial⟩,k2⟩;simp[hV,Qi,y1,dC k2 ho hst,if_true]
   grind
  ·rename_i i st k j off;split at h2
   ·rename_i ho;cases h2;simp[ax]at a2;cases a2;obtain⟨y,y1,y2⟩:=bD (c:=.elt i st k j off) rfl k1;cases y<;>first|exact y2.elim|skip
    rename_i i' st' k' j' off';obtain⟨rfl,hst,rfl,hz,rfl⟩:=y2;refine⟨.p false [.elt _ st' _ j' _],?_,⟨rfl,⟨rfl,hst,rfl,hz,rfl⟩,trivial⟩,k2⟩;simp[hV,Qi,y1,dC k2 ho hst,if_true]
   grind
  grind
 grind
end
end Go.Proofs.Ytgdbmcoamemmaaa
namespace Go.Proofs.Ytgdbmcoamemmaaa
open Go.RowKit
def Sy.push(S:Sy)(o:SO):Sy:={S with ob:=(S.n,o)::S.ob,n:=S.n+1,c:=S.c+1}
section
variable {P:Program}{ρ ρ':List DV}{σ σ':List Nat}{S S':Sy}{s s':AS}{ps:List PO}{v:SV}
theorem aN.upd(h:aN S ρ σ s)(hp:aQ σ σ'){c' n' i:Nat}{so:SO}(hc:σ'.length=c')(hn:s'.n=n')(hle:S.n<=n')(hi:i<n')(hsl:s'.sl=s.sl)(hob:∀j,j≠i->s'.ob j=s.ob j)(ho:RO ρ σ' so (s'.ob i)):
 aN {S with ob:=(i,so)::S.ob,n:=n',c:=c'} ρ σ' s':=by
 refine⟨hn,hc,h.m,λt x hx=>?_,λj x hx=>?_,h.kn⟩
 ·rw[hsl];exact(h.sl t x hx).mono (aQ.refl _) hp
 ·simp[aK]at hx;split at hx
  ·grind
  ·rename_i e;obtain⟨k1,k2⟩:=h.ob j x hx;refine⟨Nat.lt_of_lt_of_le k1 hle,?_⟩;rw[hob j (λe'=>e e'.symm)];exact k2.mono (aQ.refl _) hp
theorem aN.last(h:aN S ρ σ s)(x:Nat):(σ++[x])[S.c]? =some x:=by simp[<-h.c]
theorem aN.push(h:aN S ρ σ s){so:SO}{ob:Ob}(ho:RO ρ (σ++[s.c]) so ob):aN (S.push so) ρ (σ++[s.c]) (s.push ob):=by
 have:=h.upd (s':=s.push ob) (i:=S.n) (n':=S.n+1) (c':=S.c+1) (so:=so) (aQ.app σ [s.c]) (by simp[h.c]) (by simp[AS.push,h.n]) (by omega) (by omega) rfl
  (λj hj=>by simp[AS.push];rw[h.n,aE _ _ hj]) (by simp[AS.push,h.n,ae];exact ho)
 exact this
def Nv(S:Sy):SC->Bool
 |.d _=>true
 |.nil=>true
 |.own i st=>(S.own i st).isSome
 |.ptr i st _=>(S.own i st).isSome
 |.elt i st _ _ _=>(S.own i st).isSome
 |.sub i st _ _ _=>(S.own i st).isSome
 |.emp=>true
 |.rd _=>true
theorem FE(hr:aN S ρ σ s){c:SC}{y:AC}(hc:RC ρ σ c y)(h:Nv S c=true):C8 s y=true:=by
 cases c<;>cases y<;>first|exact hc.elim|rfl|skip
 ·obtain⟨rfl,h1⟩:=hc;exact dC hr h h1
 ·obtain⟨rfl,h1,rfl⟩:=hc;exact dC hr h h1
 ·obtain⟨rfl,h1,rfl,-,rfl⟩:=hc;exact dC hr h h1
 ·obtain⟨rfl,h1,rfl,-,-⟩:=hc;exact dC hr h h1
theorem Ft(hr:aN S ρ σ s):∀{cs:List SC} {ys:List AC},cQ ρ σ cs ys->cs.all (Nv S)=true->ys.all (C8 s)=true
 |[],[],_,_=>rfl
 |c::cs,y::ys,hc,h=>by
  simp only[List.all_cons,Bool.and_eq_true]at h ⊢
  exact⟨FE hr hc.1 h.1,Ft hr hc.2 h.2⟩
 |[],_::_,hc,_=>hc.elim
 |_::_,[],hc,_=>hc.elim
def uP(S:Sy):SV->Option (List SC)
 |.p true cs=>if cs.all (Nv S)then some cs else none
 |.p false [c]=>if Nv S c then some [c]else none
 |_=>none
theorem iX(hr:aN S ρ σ s){cs:List SC}{x:AV}(h:uP S v=some cs)(hv:RV ρ σ v x):∃ys,cP s x=some ys/\cQ ρ σ cs ys:=by
 unfold uP at h;split at h
 ·split at h
  ·rename_i hk;cases h;cases x<;>first|exact hv.elim|skip
   rename_i b ys;obtain⟨rfl,hc⟩:=hv;exact⟨ys,by simp only[cP];rw[if_pos (Ft hr hc hk)],hc⟩
  grind
 ·rename_i c;split at h
  ·rename_i hk;cases h;obtain⟨y,rfl,hy⟩:=bD (c:=c) rfl hv;exact⟨[y],by simp only[cP];rw[if_pos (FE hr hy hk)],hy,trivial⟩
  grind
 grind
def cW:List SC->List (Option (Nat×Nat))->Sy->Option (List PO×List Nat×Sy)
 |[],_,S=>some ([],[],S)
 |.d i::cs,ty,S=>if(ty.headD none).isSome then none else(match cW cs ty.tail S with|some (p,xs,S')=>some (.sc i::p,i::xs,S')|none=>none)
 |.nil::cs,ty,S=>(match ty.headD none with
  |some (t,k)=>if 0<k then(match cW cs ty.tail (S.bind 1)with|some (p,xs,S')=>some (.e t k::p,S.m::xs,S')|none=>none)else none
  |none=>none)
 |.own i st::cs,ty,S=>(match S.own i st with
  |some (.row _ _ _ x)=>(match cW cs ty.tail {S with ob:=(i,.frz st x)::S.ob}with|some (p,xs,S')=>some (p,x::xs,S')|none=>none)
  |some (.dx _ x)=>(match cW cs ty.tail {S with ob:=(i,.frz st x)::S.ob}with|some (p,xs,S')=>some (p,x::xs,S')|none=>none)
  |_=>none)
 |.sub i st k z m::cs,ty,S=>(match S.own i st with
  |some (.row _ _ k' x)=>if k'=k then(match cW cs ty.tail { (S.bind 1)with ob:=(i,.dead)::S.ob}with|some (p,xs,S')=>some (.cutP x z m::p,S.m::xs,S')|none=>none)else none
  |_=>none)
 |_::_,_,_=>none
theorem td{d:DV}(h:mK d=true):∃v,d=.sc v:=by
 cases d with
 |sc v=>grind
 |sl=>grind[mK]
theorem eK:∀{cs:List SC} {ty:List (Option (Nat×Nat))} {S S':Sy} {ps:List PO} {xs:List Nat} {ρ ρ':List DV} {s:AS} {ys:List AC},cW cs ty S=some (ps,xs,S')->ax ps ρ=some ρ'->aN S ρ σ s->cQ ρ σ cs ys->
 ∃s' ds,iM s s' ys ds/\RD ρ' xs ds/\aN S' ρ' σ s'/\∀i,(∀st a t k x,S.own i st≠some (.row a t k x)/\S.own i st≠some (.dx a x))->s'.ob i=s.ob i
 |[],ty,S,S',ps,xs,ρ,ρ',s,ys,h,he,hr,hc=>by
  simp only[cW]at h;injection h with h;injection h with e1 h;injection h with e2 e3;subst e1 e2 e3;simp only[ax]at he;cases he
  cases ys with
  |nil=>exact⟨s,[],Hp,trivial,hr,λ_ _=>rfl⟩
  |cons=>exact hc.elim
 |c::cs,ty,S,S',ps,xs,ρ,ρ',s,[],h,he,hr,hc=>hc.elim
 |.d i::cs,ty,S,S',ps,xs,ρ,ρ',s,y::ys,h,he,hr,hc=>by
  simp only[cW]at h;split at h
  ·cases h
  split at h
  ·rename_i p xs' S1 hg;injection h with h;injection h with e1 h;injection h with e2 e3;subst e1 e2 e3;obtain⟨x,rfl,hx⟩:=pG hc.1;simp[ax,aA,hx]at he;split at he
   ·rename_i out ho;split at ho
    ·rename_i hsc;cases ho;rw[List.append_nil]at he;obtain⟨u,rfl⟩:=td hsc;obtain⟨s',ds,g1,g2,g3,g4⟩:=eK hg he hr hc.2;exact⟨s',.sc u::ds,Jo g1,⟨(ao he).get hx,g2⟩,g3,g4⟩
    grind
   grind
  grind
 |.nil::cs,ty,S,S',ps,xs,ρ,ρ',s,y::ys,h,he,hr,hc=>by
  simp[cW]at h;cases y<;>first|exact hc.1.elim|skip
  split at h
  ·rename_i t k ht;split at h
   ·rename_i hk;split at h
    ·rename_i p xs' S1 hg;injection h with h;injection h with e1 h;injection h with e2 e3;subst e1 e2 e3;simp[ax,aA]at he;obtain⟨s',ds,g1,g2,g3,g4⟩:=eK hg he (hr.bind rfl) (cQ.mono (aQ.app _ _) (aQ.refl _) hc.2);exact⟨s',.sl t k []::ds,EG hk g1,⟨(ao he).get (by simp[<-hr.m]),g2⟩,g3,g4⟩
    grind
   grind
  grind
 |.own i st::cs,ty,S,S',ps,xs,ρ,ρ',s,y::ys,h,he,hr,hc=>by
  simp[cW]at h;cases y<;>first|exact hc.1.elim|skip
  rename_i i' st';obtain⟨⟨rfl,hst⟩,hc2⟩:=hc;split at h
  ·rename_i a t k x ho;split at h
   ·rename_i p xs' S1 hg;injection h with h;injection h with e1 h;injection h with e2 e3;subst e1 e2 e3;obtain⟨o',k1,k2,k3,k4⟩:=hr.own ho hst;cases o'<;>first|exact k2.elim|skip
    rename_i b ty' kk es' dp;obtain⟨k5,rfl,rfl,rfl,hx⟩:=k2
    have hb:b=st':=by
     obtain⟨-,q2,q3⟩:=am k1;rw[<-k3]at q2
     grind[AS.lv,Ob.st]
    subst hb
    have hr2:aN {S with ob:=(i',SO.frz st x)::S.ob} ρ σ (s.frz i' b (.sl ty' kk es')):=
     hr.upd (s':=s.frz i' b (.sl ty' kk es')) (i:=i') (n':=S.n) (c':=S.c) (so:=.frz st x) (aQ.refl _) hr.c hr.n (Nat.le_refl _) k4 rfl (λj hj=>by simp_all[AS.frz,aE]) (by simp[AS.frz,ae];exact⟨hst,hx⟩)
    obtain⟨s',ds,g1,g2,g3,g4⟩:=eK hg he hr2 hc2;refine⟨s',.sl ty' kk es'::ds,HA k1 g1,⟨(ao he).get hx,g2⟩,g3,λj hj=>?_⟩;have hne:j≠i':=λe=>by grind
    rw[g4 j (λst2 a2 t2 k2 x2=>by
     have:=hj st2 a2 t2 k2 x2;unfold Sy.own at this ⊢
     grind[aK])]
    simp_all[AS.frz,aE]
   grind
  ·rename_i a x ho;split at h
   ·rename_i p xs' S1 hg;injection h with h;injection h with e1 h;injection h with e2 e3;subst e1 e2 e3;obtain⟨o',k1,k2,k3,k4⟩:=hr.own ho hst;cases o'<;>first|exact k2.elim|skip
    rename_i b y;obtain⟨k5,hx⟩:=k2
    have hb:b=st':=by
     obtain⟨-,q2,q3⟩:=am k1;rw[<-k3]at q2
     grind[AS.lv,Ob.st]
    subst hb
    have hr2:aN {S with ob:=(i',SO.frz st x)::S.ob} ρ σ (s.frz i' b y):=
     hr.upd (s':=s.frz i' b y) (i:=i') (n':=S.n) (c':=S.c) (so:=.frz st x) (aQ.refl _) hr.c hr.n (Nat.le_refl _) k4 rfl (λj hj=>by simp_all[AS.frz,aE]) (by simp[AS.frz,ae];exact⟨hst,hx⟩)
    obtain⟨s',ds,g1,g2,g3,g4⟩:=eK hg he hr2 hc2;refine⟨s',y::ds,CC k1 rfl (MW k1) g1,⟨(ao he).get hx,g2⟩,g3,λj hj=>?_⟩;have hne:j≠i':=λe=>by subst e;exact(hj st a 0 0 x).2 ho
    rw[g4 j (λst2 a2 t2 k2 x2=>by
     have:=hj st2 a2 t2 k2 x2;unfold Sy.own at this ⊢
     grind[aK])]
    simp_all[AS.frz,aE]
   grind
  grind
 |.ptr _ _ _::cs,ty,S,S',ps,xs,ρ,ρ',s,y::ys,h,he,hr,hc=>by grind[cW]
 |.elt _ _ _ _ _::cs,ty,S,S',ps,xs,ρ,ρ',s,y::ys,h,he,hr,hc=>by grind[cW]
 |.sub i st k z m::cs,ty,S,S',ps,xs,ρ,ρ',s,y::ys,h,he,hr,hc=>by
  simp[cW]at h;cases y<;>first|exact hc.1.elim|skip
  rename_i i' st' k0 lo n;obtain⟨⟨rfl,hst,rfl,⟨u,e1,e2,rfl⟩,⟨v,e3,e4,rfl⟩⟩,hc2⟩:=hc;split at h
  ·rename_i a t k' x ho;split at h
   ·rename_i hk;split at h
    ·rename_i p xs' S1 hg;injection h with h;injection h with e1' h;injection h with e2' e3';subst e1' e2' e3' hk;obtain⟨o',k1,k2,k3,k4⟩:=hr.own ho hst;cases o'<;>first|exact k2.elim|skip
     rename_i b ty' kk es' dp;obtain⟨k5,rfl,rfl,rfl,hx⟩:=k2
     have hb:b=st':=by
      obtain⟨-,q2,q3⟩:=am k1;rw[<-k3]at q2
      grind[AS.lv,Ob.st]
     subst hb;simp only[ax,aA,hx,e1,e3]at he;split at he
     ·rename_i out ho2;split at ho2
      ·rename_i hcc;obtain⟨hu0,hle⟩:=hcc;subst hu0;cases ho2;have hb:=hr.bind (out:=[DV.sl ty' kk (es'.take v.toNat)]) (k:=1) rfl
       have hr2:aN { (S.bind 1)with ob:=(i',SO.dead)::S.ob} (ρ++[DV.sl ty' kk (es'.take v.toNat)]) σ (s.kill i'):=
        hb.upd (s':=s.kill i') (n':=S.n) (c':=S.c) (so:=.dead) (aQ.refl _) hr.c hr.n (Nat.le_refl _) k4 rfl (λj hj=>by simp_all[AS.kill,aE]) (by simp[AS.kill,ae];trivial)
       obtain⟨s',ds,g1,g2,g3,g4⟩:=eK hg he hr2 (cQ.mono (aQ.app _ _) (aQ.refl _) hc2);refine⟨s',.sl ty' kk (es'.take v.toNat)::ds,Hg k1 hle g1,⟨(ao he).get (by simp[<-hr.m]),g2⟩,g3,λj hj=>?_⟩;have hne:=λe:j=i'=>(hj _ _ _ _ _).1 (e▸ho)
       rw[g4 j (λst2 a2 t2 k2 x2=>by
        have:=hj st2 a2 t2 k2 x2;unfold Sy.own at this ⊢
        grind[aK])]
       simp_all[AS.kill,aE]
      grind
     grind
    grind
   grind
  grind
 |.emp::cs,ty,S,S',ps,xs,ρ,ρ',s,y::ys,h,he,hr,hc=>by grind[cW]
 |.rd _::cs,ty,S,S',ps,xs,ρ,ρ',s,y::ys,h,he,hr,hc=>by grind[cW]
theorem GA:∀{cs:List SC} {ty:List (Option (Nat×Nat))} {S S':Sy} {ps:List PO} {xs:List Nat},cW cs ty S=some (ps,xs,S')->xs.length=cs.length:=by
 intro cs
 induction cs with
 |nil=>grind[cW]
 |cons c cs ih=>
  intro ty S S' ps xs h
  cases c with
  |d i=>
   grind[cW]
  |nil=>
   grind[cW]
  |own i st=>
   grind[cW]
  |ptr=>grind[cW]
  |elt=>grind[cW]
  |sub=>
   grind[cW]
  |emp=>grind[cW]
  |rd=>grind[cW]
def Je:Value->Bool
 |.slice none 0 0=>true
 |_=>false
def sZ:List Value->Nat->Option (List PO×List SC)
 |[],_=>some ([],[])
 |v::vs,m=>if Je v then(match sZ vs m with|some (p,cs)=>some (p,.nil::cs)|none=>none)
  else if pB v then(match sZ vs (m+1)with|some (p,cs)=>some (.k v::p,.d m::cs)|none=>none)else none
theorem Ir{v:Value}(h:Je v=true):v=.slice none 0 0:=by
 grind[Je]
theorem QI{v:Value}(h:pB v=true):J5 v=some (.d (.sc v)):=by
 cases v<;>first|rfl|simp[pB]at h
theorem C7:∀{vs:List Value} {m:Nat} {ps:List PO} {cs:List SC} {ρ ρ':List DV},sZ vs m=some (ps,cs)->ρ.length=m->ax ps ρ=some ρ'->∃acs,NM vs=some acs/\cQ ρ' σ cs acs/\ρ'.length=m+ps.length
 |[],m,ps,cs,ρ,ρ',h,hm,he=>by
  simp only[sZ]at h;cases h;simp[ax]at he;cases he
  exact⟨[],rfl,trivial,by omega⟩
 |v::vs,m,ps,cs,ρ,ρ',h,hm,he=>by
  simp[sZ]at h;split at h
  ·rename_i hn;obtain rfl:=Ir hn;split at h
   ·rename_i p cs' hz;cases h;obtain⟨acs,a1,a2,a3⟩:=C7 hz hm he;exact⟨.nil::acs,by grind[NM,J5],⟨trivial,a2⟩,a3⟩
   grind
  ·split at h
   ·rename_i hs;split at h
    ·rename_i p cs' hz;cases h;simp[ax,aA,hs,if_true]at he;obtain⟨acs,a1,a2,a3⟩:=C7 hz (by grind) he;exact⟨.d (.sc v)::acs,by grind[NM,QI],⟨(ao he).get (by grind),a2⟩,by grind⟩
    grind
   grind
abbrev Sh:=List (Bool×List (Option (Nat×Nat))×Bool)
structure fM where
 own:FuncId->Bool
 dx:Bool
 mks:List FuncId
 pf:List FuncId:=[]
 cf:List FuncId:=[]
 nf:List (Nat×Nat):=[]
 gf:List (Nat×Nat):=[]
 vf:List (Nat×Nat):=[]
instance:CoeFun fM (λ_=>FuncId->Bool):=⟨fM.own⟩
inductive Nd where
 |po (o:PO)
 |mark (f:FuncId) (b:Bool) (xs:List (Nat×Nat)) (k:Nat)
 |call (f:FuncId) (args:List (Bool×List Nat)) (sh:Sh)
def dc(ρ:List DV):List (Bool×List Nat)->Option (List (Bool×List DV))
 |[]=>some []
 |(b,is)::r=>match gL ρ is,dc ρ r with|some x,some xs=>some ((b,x)::xs)|_,_=>none
def zN:List (Option (Nat×Nat))->List DV->Bool
 |[],[]=>true
 |none::ss,.sc _::ds=>zN ss ds
 |some (t,k)::ss,.sl t' k' _::ds=>decide (t'=t/\k'=k)&&zN ss ds
 |_,_=>false
def c9:Sh->List Rs->Bool
 |[],[]=>true
 |(b,ss,o)::sh,(b',ds,o')::rs=>decide (b'=b/\o'=o)&&(zN ss ds&&c9 sh rs)
 |_,_=>false
def ca:List Rs->List DV
 |[]=>[]
 |(_,ds,_)::rs=>ds++ca rs
def yN:List (Nat×Nat)->List DV->List DV->Prop
 |[],[],[]=>True
 |(_,2)::r,_::ds,_::ds'=>yN r ds ds'
 |(_,1)::r,d::ds,d'::ds'=>(∃t k,0<k/\d=.sl t k []/\d'=.sl t k [])/\yN r ds ds'
 |(_,0)::r,d::ds,d'::ds'=>(∃v,d=.sc v/\d'=.sc v)/\yN r ds ds'
 |_,_,_=>False
def WN(P:Program):List Nd->(List DV->Prop)->List DV->Prop
 |[],K,ρ=>K ρ
 |.po o::r,K,ρ=>(match aA ρ o with|some out=>WN P r K (ρ++out)|none=>False)
 |.call f a sh::r,K,ρ=>∃ys res,dc ρ a=some ys/\ib P f ys res/\c9 sh res=true/\WN P r K (ρ++ca res)
 |.mark f b xs k::r,K,ρ=>∃ds ds' n n',gL ρ (xs.map (·.1))=some ds/\ρ[k]? =some (.sc (.int .i64 n))/\FP P f b ds n ds' n'/\yN xs ds ds'/\WN P r K (ρ++(ds'++[.sc (.int .i64 n')]))
theorem kU{K:List DV->Prop}:∀{a b:List Nd} {ρ:List DV},WN P (a++b) K ρ->WN P a (WN P b K) ρ
 |[],b,ρ,h=>h
 |.po o::r,b,ρ,h=>by
  simp[List.cons_append,WN]at h ⊢;split
  ·rename_i out ho;rw[ho]at h;exact kU h
  grind
 |.call f a sh::r,b,ρ,h=>by
  simp[List.cons_append,WN]at h ⊢;obtain⟨ys,res,h1,h2,h3,h4⟩:=h
  exact⟨ys,res,h1,h2,h3,kU h4⟩
 |.mark f bb xs kk::r,b,ρ,h=>by
  simp[List.cons_append,WN]at h ⊢;obtain⟨ds,ds',n,n',h1,h2,h3,h4,h5⟩:=h;exact⟨ds,ds',n,n',h1,h2,h3,h4,kU h5⟩
theorem bN{K:List DV->Prop}:∀{ps:List PO} {ρ:List DV},WN P (ps.map .po) K ρ->∃ρ',ax ps ρ=some ρ'/\K ρ'
 |[],ρ,h=>⟨ρ,rfl,h⟩
 |o::r,ρ,h=>by
  simp[List.map_cons,WN]at h;split at h
  ·rename_i out ho;obtain⟨ρ',h1,h2⟩:=bN h
   grind[ax]
  grind
end
end Go.Proofs.Ytgdbmcoamemmaaa
namespace Go.Proofs.Ytgdbmcoamemmaaa
open Go.RowKit
theorem DG{w0:Cx}{w:World}{N:Nat}{s s':AS}{a:Act}{E:En}(h:aB w0 N s a w E){i st t k:Nat}{es:List (List AC)}{ds:List (List DV)}(hi:s.own? i st=some (.arr st t k es))(hg:iM s s' es.flatten ds.flatten)
 (hl:ds.length=es.length) (hu:∀e∈ds,e.length=k) (hi':s'.own? i st=some (.arr st t k es)):∃E',aB w0 N {s' with ob:=upd s'.ob i (.row st t k ds true)} a w E':=by
 obtain⟨hin,hob,hlv⟩:=am hi;have hO:=h.obj i hin;rw[hob]at hO;obtain⟨g,vals,hst,e1,em,eo,hge,hmx,hB,hk,hun,hcs⟩:=hO;obtain⟨E1,f,G⟩:=hg.2.2.2.2 w0 N a w E vals h hcs;obtain⟨hin',hob',hlv'⟩:=am hi';have h':=G.rep;have hO':=h'.obj i hin';rw[hob']at hO';obtain⟨g',vals',hst',e1',em',eo',-⟩:=hO'
 have hg':g'=g:=by
  rw[G.v,e1]at e1';grind
 subst hg';have hlen:vals.length=ds.length*k:=by rw[G.own.rep.len,fg hu]
 refine⟨_,h'.change (i:=i) (n':=s'.n) (X:=.row st t k ds true) (v':=E1.v i) (m':=E1.m i) (o':=f) (A':=E1.A) (c':=s'.c) (Nat.le_refl _) (λj hj _=>hj) hin' h'.bel (Nat.le_refl _) (λ_ _ _=>rfl) (Nat.le_refl _)
  (.inl ⟨hin',by rw[hob'];rfl,rfl⟩) (λ_ hb=>hb) (λ_ hb=>.inl hb) (λb hb=>⟨h'.A_lt b hb,h'.A_m b hb i hin',λj hj _=>h'.A_m b hb j hj⟩) (λb hb=>⟨h'.m_lt i hin' b hb,λj hj hne=>h'.mm i j hin' hj (Ne.symm hne) b hb⟩) (λb hb=>⟨G.A b hb,λj hj _=>G.o b hb j hj⟩) ?_ (h'.mF i hin') (G.fr h)⟩
 rintro s2 rfl E' rfl hstay;refine⟨vals,hst',?_,hk,hu,by simp[ae,e1',em'];rfl,?_⟩
 ·simp[ae,e1',<-hl];rw[<-hl]at hmx;exact⟨hlen,.inr ⟨g',ds.length,vals.toArray,rfl,hge,hB,Nat.le_refl _,hmx,by omega,by rw[<-hlen];simp⟩⟩
 ·simp[if_pos,ae];exact G.own
def iS(P:Program)(N:Nat)(o:Oper)(s:AS)(S':Sy)(K:List DV->Prop):Prop:=∃ρ' σ' s',fF P N o s s'/\aN S' ρ' σ' s'/\K ρ'
theorem bh{s:AS}{i st b:Nat}{o:Ob}(h:s.own? i st=some o)(hs:o.st=some b):b=st:=by
 obtain⟨q1,q2,q3⟩:=am h;simp_all[AS.lv,if_pos]
section
variable {P:Program}{N:Nat}{ρ ρ':List DV}{σ σ':List Nat}{S S':Sy}{s s':AS}{ps:List PO}{v:SV}{o:Oper}{K:List DV->Prop}{dE:List Nd}
theorem GN(h:SA P S o.op=some (ps,v,S'))(hd:dB N o.dst=true)(hr:aN S ρ σ s)(hw:WN P (ps.map .po) K ρ):iS P N o s (S'.put o.dst v) K:=by
 obtain⟨ρ',he,hk⟩:=bN hw;obtain⟨x,x1,x2,x3⟩:=JD h he hr;exact⟨ρ',σ,_,(KM x1).toO (fU hd),x3.put x2,hk⟩
theorem Cv{t:TypeId}{cs:List SC}{ys:List AC}(hst:fS P o s (.p false [.ptr s.n s.c 0]) [.var s.c t ys])(hd:dB N o.dst=true)(hr:aN S ρ σ s)(hc:cQ ρ σ cs ys)(hk:K ρ):
 iS P N o s ((S.push (.var S.c t cs)).put o.dst (.p false [.ptr S.n S.c 0])) K:=
 ⟨ρ,σ++[s.c],_,hst.toO (fU hd),(hr.push (so:=.var S.c t cs) (ob:=.var s.c t ys) ⟨hr.last _,rfl,hc.mono (aQ.refl _) (aQ.app _ _)⟩).put ⟨rfl,⟨hr.n,hr.last _,rfl⟩,trivial⟩,hk⟩
def EN(P:Program)(S:Sy)(d:Option Nat)(t:TypeId):Option (List Nd×Sy):=
 match aU P t with
 |some vs=>(match sZ vs S.m with|some (p,cs)=>some (p.map .po,((S.bind p.length).push (.var S.c t cs)).put d (.p false [.ptr S.n S.c 0]))|none=>none)
 |none=>none
theorem D6{t:TypeId}(ho:o.op=.alloc t)(h:EN P S o.dst t=some (dE,S'))(hd:dB N o.dst=true)(hr:aN S ρ σ s)(hw:WN P dE K ρ):iS P N o s S' K:=by
 unfold EN at h;split at h
 ·rename_i vs hz;split at h
  ·rename_i p cs hs;cases h;obtain⟨ρ',he,hk⟩:=bN hw;obtain⟨acs,a1,a2,a3⟩:=C7 (σ:=σ) hs hr.m he;exact Cv (S:=S.bind p.length) (Lx ho (by grind[aW])) hd (hr.more (ao he) a3) a2 hk
  grind
 grind
def O2(S:Sy)(d:Option Nat)(t:TypeId)(x:Operand):Option (List Nd×Sy):=
 match ld S x with
 |some (p,v,S1)=>(match uP S1 v with|some cs=>some (p.map .po,(S1.push (.var S1.c t cs)).put d (.p false [.ptr S1.n S1.c 0]))|none=>none)
 |none=>none
theorem Ic{t:TypeId}{x:Operand}(ho:o.op=.box t x)(h:O2 S o.dst t x=some (dE,S'))(hd:dB N o.dst=true)(hr:aN S ρ σ s)(hw:WN P dE K ρ):iS P N o s S' K:=by
 unfold O2 at h;split at h
 ·rename_i p v S1 hv;split at h
  ·rename_i cs hc;cases h;obtain⟨ρ',he,hk⟩:=bN hw;obtain⟨k1,k2⟩:=aS hv he hr;obtain⟨ys,y1,y2⟩:=iX k2 hc k1;exact Cv (RJ ho y1) hd k2 y2 hk
  grind
 grind
theorem cQ.plug{off:Nat}{cs z:List SC}{ys zs:List AC}(h:cQ ρ σ cs ys)(k:cQ ρ σ z zs):cQ ρ σ (plug off cs z) (Go.Proofs.Ytgdbmcoamemmaaa.plug off ys zs):=by
 unfold Go.Proofs.Ytgdbmcoamemmaaa.plug;rw[<-h.len];exact((k.take off).app h).app (k.drop _)
def DA(P:Program)(t:TypeId):List (Nat×Operand)->List SC->Sy->Option (List PO×List SC×Sy)
 |[],z,S=>some ([],z,S)
 |(i,x)::r,z,S=>match gW P t i,ld S x with
  |some (off,k,_),some (p,v,S1)=>(match uP S1 v with
   |some cs=>if cs.length=k/\off+k<=z.length then(match DA P t r (plug off cs z) S1 with|some (q,z',S2)=>some (p++q,z',S2)|none=>none)else none
   |none=>none)
  |_,_=>none
theorem DY{t:TypeId}:∀{parts:List (Nat×Operand)} {z z':List SC} {S S':Sy} {ps:List PO} {ρ ρ':List DV} {zs:List AC},DA P t parts z S=some (ps,z',S')->ax ps ρ=some ρ'->aN S ρ σ s->cQ ρ σ z zs->
 ∃ys,iC P s t parts zs=some ys/\cQ ρ' σ z' ys/\aN S' ρ' σ s
 |[],z,z',S,S',ps,ρ,ρ',zs,h,he,hr,hz=>by
  simp only[DA]at h;cases h;simp only[ax]at he;cases he
  exact⟨zs,rfl,hz,hr⟩
 |(i,x)::r,z,z',S,S',ps,ρ,ρ',zs,h,he,hr,hz=>by
  simp[DA]at h;split at h
  ·rename_i off k ag p v S1 hf hv;split at h
   ·rename_i cs hc;split at h
    ·rename_i hl;split at h
     ·rename_i q z2 S2 hq;cases h;obtain⟨ρ1,a1,a2⟩:=ak he;obtain⟨k1,k2⟩:=aS hv a1 hr;obtain⟨ys,y1,y2⟩:=iX k2 hc k1;have hz1:cQ ρ1 σ z zs:=cQ.mono (ao a1) (aQ.refl _) hz;obtain⟨us,u1,u2,u3⟩:=DY hq a2 k2 (cQ.plug (off:=off) y2 hz1);refine⟨us,?_,u2,u3⟩;simp only[iC,hf,y1];rw[if_pos (by rw[<-y2.len,<-hz1.len];exact hl)];exact u1
     grind
    grind
   grind
  grind
def xW(P:Program)(S:Sy)(t:TypeId)(parts:List (Nat×Operand)):Option (List PO×List SC×Sy):=
 if DL P t then(match aU P t with
  |some vs=>(match sZ vs S.m with|some (p,z)=>(match DA P t parts z (S.bind p.length)with|some (q,cs,S2)=>some (p++q,cs,S2)|none=>none)|none=>none)
  |none=>none)else none
theorem zQ{t:TypeId}{parts:List (Nat×Operand)}{cs:List SC}(h:xW P S t parts=some (ps,cs,S'))(he:ax ps ρ=some ρ')(hr:aN S ρ σ s):DL P t=true/\∃z ys,aW P t=some z/\iC P s t parts z=some ys/\cQ ρ' σ cs ys/\aN S' ρ' σ s:=by
 unfold xW at h;split at h
 ·rename_i ht;split at h
  ·rename_i vs hz;split at h
   ·rename_i p z hs;split at h
    ·rename_i q cs' S2 hf;cases h;obtain⟨ρ1,a1,a2⟩:=ak he;obtain⟨acs,b1,b2,b3⟩:=C7 (σ:=σ) hs hr.m a1;obtain⟨ys,y1,y2,y3⟩:=DY hf a2 (hr.more (ao a1) b3) b2
     grind[aW]
    grind
   grind
  grind
 grind
theorem Ed{t:TypeId}{parts:Array (Nat×Operand)}{cs:List SC}(ho:o.op=.build t parts)(h:xW P S t parts.toList=some (ps,cs,S'))(hd:dB N o.dst=true)(hr:aN S ρ σ s)(hw:WN P (ps.map .po) K ρ):
 iS P N o s (S'.put o.dst (.p true cs)) K:=by
 obtain⟨ρ',he,hk⟩:=bN hw;obtain⟨ht,z,ys,z1,z2,z3,z4⟩:=zQ h he hr;exact⟨ρ',σ,_,(Gj ho ht z1 z2).toO (fU hd),z4.put ⟨rfl,z3⟩,hk⟩
theorem BM.flat:∀{xs:List (List SC)} {ys:List (List AC)},BM ρ σ xs ys->cQ ρ σ xs.flatten ys.flatten
 |[],[],_=>trivial
 |x::xs,y::ys,k=>by simp[List.flatten_cons];exact k.1.app k.2.flat
 |[],_::_,k=>k.elim
 |_::_,[],k=>k.elim
def Qh(k:Nat):List (Nat×Operand)->Nat->Sy->Option (List PO×List (List SC)×Sy)
 |[],_,S=>some ([],[],S)
 |(i,x)::r,j,S=>match ld S x with
  |some (p,v,S1)=>(match uP S1 v with
   |some cs=>if i=j/\cs.length=k then(match Qh k r (j+1) S1 with|some (q,es,S2)=>some (p++q,cs::es,S2)|none=>none)else none
   |none=>none)
  |none=>none
theorem oD{k:Nat}:∀{parts:List (Nat×Operand)} {j:Nat} {es:List (List SC)} {S S':Sy} {ps:List PO} {ρ ρ':List DV},Qh k parts j S=some (ps,es,S')->ax ps ρ=some ρ'->aN S ρ σ s->
 ∃ys,vx s k parts j=some ys/\BM ρ' σ es ys/\aN S' ρ' σ s
 |[],j,es,S,S',ps,ρ,ρ',h,he,hr=>by
  simp only[Qh]at h;cases h;simp only[ax]at he;cases he
  exact⟨[],rfl,trivial,hr⟩
 |(i,x)::r,j,es,S,S',ps,ρ,ρ',h,he,hr=>by
  simp[Qh]at h;split at h
  ·rename_i p v S1 hv;split at h
   ·rename_i cs hc;split at h
    ·rename_i hl;split at h
     ·rename_i q es' S2 hq;cases h;obtain⟨ρ1,a1,a2⟩:=ak he;obtain⟨k1,k2⟩:=aS hv a1 hr;obtain⟨ys,y1,y2⟩:=iX k2 hc k1;obtain⟨us,u1,u2,u3⟩:=oD hq a2 k2;refine⟨ys::us,?_,⟨cQ.mono (ao a2) (aQ.refl _) y2,u2⟩,u3⟩;simp only[vx,y1,u1];rw[if_pos (by rw[<-y2.len];exact hl)]
     grind
    grind
   grind
  grind
def zV(k:Nat):Nat->List Nat->List (List Nat)
 |0,_=>[]
 |n+1,l=>l.take k::zV k n (l.drop k)
theorem tz{k:Nat}:∀{n:Nat} {xs:List Nat} {ds:List DV},RD ρ xs ds->xs.length=n*k->∃es,CZ ρ (zV k n xs)=some es/\es.flatten=ds/\es.length=n/\∀e∈es,e.length=k
 |0,xs,ds,h,hl=>by
  have:xs=[]:=List.length_eq_zero_iff.1 (by omega);subst this
  cases ds with
  |nil=>exact⟨[],rfl,rfl,rfl,by simp⟩
  |cons=>exact h.elim
 |n+1,xs,ds,h,hl=>by
  have h1:RD ρ (xs.take k) (ds.take k):=RD.take k h;obtain⟨es,e1,e2,e3,e4⟩:=tz (k:=k) (n:=n) (h.drop k) (by rw[List.length_drop,hl,Nat.add_mul];omega);refine⟨ds.take k::es,by simp[zV,CZ,vl h1,e1],by simp[e2],by grind,?_⟩;intro e he;rcases List.mem_cons.1 he with rfl|he
  ·rw[List.length_take,<-h.len,hl,Nat.add_mul];omega
  grind
def C0(P:Program):Nat->TypeId->List (Option (Nat×Nat))
 |0,_=>[]
 |f+1,t=>match P.underlying t with
  |some (.struct fs)=>fs.toList.flatMap λfd=>C0 P f fd.type
  |some (.slice e)=>[(dV P e).map λk=>(e,k)]
  |some _=>[none]
  |none=>[]
def KF(P:Program)(S:Sy)(d:Option Nat)(t:TypeId)(len:Nat)(parts:List (Nat×Operand)):Option (List Nd×Sy):=
 match fL P t with
 |some (el,k)=>if(aU P el).isSome=true/\0<k/\parts.length=len/\len*k<=16777216 then(match Qh k parts 0 S with
  |some (p,es,S1)=>(match cW es.flatten ((List.replicate len (C0 P 9 el)).flatten) ((S1.push .dead).put d (.p false [.own S1.n S1.c]))with
   |some (q,xs,S2)=>if xs.length=len*k then some ((p++(q++[PO.mk el k (zV k len xs)])).map .po,{ (S2.bind 1)with ob:=(S1.n,.row S1.c el k S2.m)::S2.ob})else none
   |none=>none)
  |none=>none)else none
 |none=>none
theorem BM.len:∀{xs:List (List SC)} {ys:List (List AC)},BM ρ σ xs ys->xs.length=ys.length
 |[],[],_=>rfl
 |x::xs,y::ys,k=>by simp[BM.len k.2]
 |[],_::_,k=>k.elim
 |_::_,[],k=>k.elim
theorem Bx{el k:Nat}{rows:List (List Nat)}{es:List (List DV)}(h:CZ ρ rows=some es)(hu:∀e∈es,e.length=k):aA ρ (.mk el k rows)=some [.sl el k es]:=by
 simp_all[aA,if_pos,List.all_eq_true]
theorem Ab{t:TypeId}{len:Nat}{parts:Array (Nat×Operand)}(ho:o.op=.buildSlice t len parts)(h:KF P S o.dst t len parts.toList=some (dE,S'))(hd:dB N o.dst=true)(hr:aN S ρ σ s)(hw:WN P dE K ρ):∃ρ' σ' s',kZ P N o s s' none/\aN S' ρ' σ' s'/\K ρ':=by
 unfold KF at h;split at h
 ·rename_i el k ht;split at h
  ·rename_i hcnd;obtain⟨hz,hk,hl,hs⟩:=hcnd;split at h
   ·rename_i p es S1 hb;split at h
    ·rename_i q xs S2 hg;split at h
     ·rename_i hxl;cases h;obtain⟨ρ',he,hK⟩:=bN hw;obtain⟨ρ1,a1,a2⟩:=ak he;obtain⟨ρ2,b1,b2⟩:=ak a2;obtain⟨ys,y1,y2,y3⟩:=oD hb a1 hr;have hyl:ys.length=len:=by rw[(tH y1).1,hl]
      have hst:=(BH (s:=s) ho ht hz hk hl hs y1).toK (N:=N) (fU hd)
      have hp:aN ((S1.push .dead).put o.dst (.p false [.own S1.n S1.c])) ρ1 (σ++[s.c]) ((s.push (.arr s.c el k ys)).put o.dst (.p false [.own s.n s.c])):=
       (y3.push (so:=.dead) (ob:=.arr s.c el k ys) trivial).put ⟨rfl,⟨y3.n,y3.last _⟩,trivial⟩
      obtain⟨s2,ds,g1,g2,g3,g4⟩:=eK hg b1 hp (cQ.mono (aQ.refl _) (aQ.app _ _) y2.flat);obtain⟨ee,c1,c2,c3,c4⟩:=tz (n:=len) g2 hxl
      have hnone:∀st,Sy.own ((S1.push .dead).put o.dst (.p false [.own S1.n S1.c])) S1.n st=none:=by
       intro st
       have:aK ((S1.push .dead).put o.dst (.p false [.own S1.n S1.c])).ob S1.n=some .dead:=by
        cases o.dst<;>simp[Sy.put,Sy.push,aK]
       grind[Sy.own,SO.st]
      have hn1:((s.push (.arr s.c el k ys)).put o.dst (.p false [.own s.n s.c])).n=s.n+1:=by rw[AS.put_n];rfl
      have hob1:((s.push (.arr s.c el k ys)).put o.dst (.p false [.own s.n s.c])).ob s.n=.arr s.c el k ys:=by rw[AS.put_ob];simp[AS.push,ae]
      have hob2:s2.ob s.n=.arr s.c el k ys:=by
       have:=g4 S1.n (λst a t k x=>by rw[hnone st];grind);rw[<-y3.n]at this;rw[this];omega
      have hn2:s2.n=s.n+1:=by rw[g1.1,hn1]
      have hown1:((s.push (.arr s.c el k ys)).put o.dst (.p false [.own s.n s.c])).own? s.n s.c=some (.arr s.c el k ys):=by
       simp_all[AS.own?,if_pos,Nat.lt_succ_self,Ob.st]
      have hown2:s2.own? s.n s.c=some (.arr s.c el k ys):=by
       simp_all[AS.own?,if_pos,Nat.lt_succ_self,Ob.st]
      have hre:Re ((s.push (.arr s.c el k ys)).put o.dst (.p false [.own s.n s.c])) {s2 with ob:=upd s2.ob s.n (.row s.c el k ee true)}:=λw0 N a w E hR=>
       DG hR hown1 (by rw[c2];exact g1) (by rw[c3,hyl]) c4 hown2
      obtain⟨out,o1,rfl⟩:=az b2;rw[Bx c1 c4]at o1;cases o1;refine⟨_,σ++[s.c],_,hst.re hre,?_,hK⟩;have hb2:=g3.bind (out:=[DV.sl el k ee]) (k:=1) rfl;refine hb2.upd (s':={s2 with ob:=upd s2.ob s.n (.row s.c el k ee true)}) (i:=S1.n) (n':=(S2.bind 1).n) (c':=(S2.bind 1).c) (so:=.row S1.c el k S2.m) (aQ.refl _) hb2.c hb2.n (Nat.le_refl _) ?_ rfl (λj hj=>?_) ?_
      ·rw[<-hb2.n,hn2,y3.n];omega
      ·simp only;rw[aE _ _ (by rw[y3.n];exact hj)]
      ·simp[y3.n,ae];exact⟨y3.last _,rfl,rfl,rfl,by rw[<-g3.m];simp⟩
     grind
    grind
   grind
  grind
 grind
theorem Lb{t:TypeId}{len:Nat}{parts:Array (Nat×Operand)}(ho:o.op=.buildSlice t len parts)(h:KF P S o.dst t len parts.toList=some (dE,S'))(hd:dB N o.dst=true)(hr:aN S ρ σ s)(hw:WN P dE K ρ):iS P N o s S' K:=
 let⟨ρ',σ',s',h1,h2⟩:=Ab ho h hd hr hw
 ⟨ρ',σ',s',h1.step,h2⟩
def Ef(P:Program)(S:Sy)(t:TypeId)(x y:Operand):Option (List Nd×Sy):=
 match ld S x with
 |some (p,v,S1)=>(match ld S1 y with
  |some (q,u,S2)=>(match one v,uP S2 u with
   |some (.ptr i st off),some xs=>(match S2.own i st with
    |some (.var a t' cs)=>if dV P t=some xs.length/\off+xs.length<=cs.length then some ((p++q).map .po,{S2 with ob:=(i,.var a t' (plug off xs cs))::S2.ob})else none
    |some (.pvr a t' cs)=>if dV P t=some xs.length/\off+xs.length<=cs.length then some ((p++q).map .po,{S2 with ob:=(i,.pvr a t' (plug off xs cs))::S2.ob})else none
    |some (.cur a id t' z)=>(match Ck u with
     |some j=>if dV P t=some 1/\0<off then some ((p++(q++[PO.cuS z off j])).map .po,{ (S2.bind 1)with ob:=(i,.cur a id t' S2.m)::S2.ob})else none
     |none=>none)
    |_=>none)
   |some (.elt i st k j off),some xs=>(match S2.own i st,cW xs (C0 P 9 t) S2 with
    |some (.row a t' k' z),some (r,vs,S3)=>(match S3.own i st with
     |some (.row a3 t3 k3 z3)=>if k'=k/\dV P t=some xs.length/\off+xs.length<=k/\a3=a/\t3=t'/\k3=k/\z3=z then
      some ((p++(q++(r++[PO.set k z j off vs]))).map .po,{ (S3.bind 1)with ob:=(i,.row a t' k S3.m)::S3.ob})else none
     |_=>none)
    |_,_=>none)
   |_,_=>none)
  |none=>none)
 |none=>none
theorem Fi{t:TypeId}{x y:Operand}(ho:o.op=.store t x y)(hdn:o.dst=none)(h:Ef P S t x y=some (dE,S'))(hr:aN S ρ σ s)(hw:WN P dE K ρ):iS P N o s S' K:=by
 unfold Ef at h;split at h
 ·rename_i p v S1 hv;split at h
  ·rename_i q u S2 hu;split at h
   ·rename_i i st off xs hone hcs;split at h
    ·rename_i a t' cs hown;split at h
     ·rename_i hl;cases h;obtain⟨ρ',he,hK⟩:=bN hw;obtain⟨ρ1,a1,a2⟩:=ak he;obtain⟨k1,k2⟩:=aS hv a1 hr;obtain⟨m1,m2⟩:=aS hu a2 k2;obtain⟨ys,y1,y2⟩:=iX m2 hcs m1;obtain⟨z,z1,z2⟩:=bD hone (k1.mono (ao a2) (aQ.refl _));cases z<;>first|exact z2.elim|skip
      rename_i i' st' off';obtain⟨rfl,hst,rfl⟩:=z2;obtain⟨o',n1,n2,n3,n4⟩:=m2.own hown hst;cases o'<;>first|exact n2.elim|skip
      rename_i b ty cs';obtain⟨n5,rfl,n6⟩:=n2;obtain rfl:=bh n1 rfl;refine⟨ρ',σ,_,Q0 ho hdn z1 n1 y1 (by rw[<-y2.len];grind) (by rw[<-y2.len,<-n6.len];omega),?_,hK⟩
      exact m2.upd (s':={s with ob:=upd s.ob i' (.var b ty (plug off' ys cs'))}) (i:=i') (n':=S2.n) (c':=S2.c) (so:=.var a ty (plug off' xs cs)) (aQ.refl _) m2.c m2.n (Nat.le_refl _) n4 rfl (λj hj=>aE _ _ hj)
       (by simp[ae];exact⟨n5,rfl,cQ.plug y2 n6⟩)
     grind
    ·rename_i a t' cs hown;split at h
     ·rename_i hl;cases h;obtain⟨ρ',he,hK⟩:=bN hw;obtain⟨ρ1,a1,a2⟩:=ak he;obtain⟨k1,k2⟩:=aS hv a1 hr;obtain⟨m1,m2⟩:=aS hu a2 k2;obtain⟨ys,y1,y2⟩:=iX m2 hcs m1;obtain⟨z,z1,z2⟩:=bD hone (k1.mono (ao a2) (aQ.refl _));cases z<;>first|exact z2.elim|skip
      rename_i i' st' off';obtain⟨rfl,hst,rfl⟩:=z2;obtain⟨o',n1,n2,n3,n4⟩:=m2.own hown hst;cases o'<;>first|exact n2.elim|skip
      rename_i b ty cs';obtain⟨n5,rfl,n6⟩:=n2;obtain rfl:=bh n1 rfl;refine⟨ρ',σ,_,Pa ho hdn z1 n1 y1 (by rw[<-y2.len];grind) (by rw[<-y2.len,<-n6.len];omega),?_,hK⟩
      exact m2.upd (s':={s with ob:=upd s.ob i' (.pvr b ty (plug off' ys cs'))}) (i:=i') (n':=S2.n) (c':=S2.c) (so:=.pvr a ty (plug off' xs cs)) (aQ.refl _) m2.c m2.n (Nat.le_refl _) n4 rfl (λj hj=>aE _ _ hj)
       (by simp[ae];exact⟨n5,rfl,cQ.plug y2 n6⟩)
     grind
    ·rename_i a id t' z hown;split at h
     ·rename_i j hj;split at h
      ·rename_i hl;cases h;obtain⟨ρ',he,hK⟩:=bN hw;obtain⟨ρ1,a1,a2⟩:=ak he;obtain⟨ρ2,b1,b2⟩:=ak a2;obtain⟨k1,k2⟩:=aS hv a1 hr;obtain⟨m1,m2⟩:=aS hu b1 k2;obtain⟨zz,z1,z2⟩:=bD hone (k1.mono (ao b1) (aQ.refl _));cases zz<;>first|exact z2.elim|skip
       rename_i i' st' off';obtain⟨rfl,hst,rfl⟩:=z2;obtain⟨yv,y1,y2⟩:=dl hj m1;obtain⟨o',n1,n2,n3,n4⟩:=m2.own hown hst;cases o'<;>first|exact n2.elim|skip
       rename_i b id' ty x0 cs0;obtain⟨n5,rfl,rfl,hz⟩:=n2;obtain rfl:=bh n1 rfl;obtain⟨out,o1,rfl⟩:=az b2;simp[aA,hz,y2,iP]at o1
       cases yv with
       |sl=>grind
       |sc uu=>
        simp only at o1;split at o1
        ·rename_i hc;obtain⟨hc1,hc2,hc3⟩:=hc;cases o1;obtain⟨q,rfl⟩:=Nat.exists_eq_succ_of_ne_zero (Nat.pos_iff_ne_zero.1 hc2);have hc3:q<cs0.length:=hc3;refine⟨_,σ,_,OY ho hdn z1 n1 y1 hl.1 hc3,?_,hK⟩;have hb3:=m2.bind (out:=[DV.sl ty 0 [[x0],cs0.set q (.sc uu)]]) (k:=1) rfl
         exact hb3.upd (s':={s with ob:=upd s.ob i' (.cur b id' ty x0 (cs0.set q (.sc uu)))}) (i:=i') (n':=(S2.bind 1).n) (c':=(S2.bind 1).c) (so:=.cur a id' ty S2.m) (aQ.refl _) hb3.c hb3.n (Nat.le_refl _) n4 rfl (λj hj=>aE _ _ hj)
          (by simp[ae];exact⟨n5,rfl,rfl,by rw[<-m2.m];simp[iP]⟩)
        grind
      grind
     grind
    grind
   ·rename_i i st k j off xs hone hcs;split at h
    ·rename_i a t' k' z r vs S3 hown hgv;split at h
     ·rename_i a3 t3 k3 z3 hown3;split at h
      ·rename_i hl;obtain⟨rfl,hl1,hl2,rfl,rfl,rfl,rfl⟩:=hl;cases h;obtain⟨ρ',he,hK⟩:=bN hw;obtain⟨ρ1,a1,a2⟩:=ak he;obtain⟨ρ2,b1,b2⟩:=ak a2;obtain⟨ρ3,c1,c2⟩:=ak b2;obtain⟨k1,k2⟩:=aS hv a1 hr;obtain⟨m1,m2⟩:=aS hu b1 k2;obtain⟨ys,y1,y2⟩:=iX m2 hcs m1;obtain⟨zz,z1,z2⟩:=bD hone (k1.mono (ao b1) (aQ.refl _));cases zz<;>first|exact z2.elim|skip
       rename_i i' st' kk' j' off';obtain⟨rfl,hst,rfl,⟨kd,zi,hz1,hz2,rfl⟩,rfl⟩:=z2;obtain⟨s2,ds,g1,g2,g3,g4⟩:=eK hgv c1 m2 y2;obtain⟨o',n1,n2,n3,n4⟩:=m2.own hown hst;cases o'<;>first|exact n2.elim|skip
       rename_i b ty kr es dp;obtain⟨n5,rfl,rfl,rfl,n6⟩:=n2;obtain rfl:=bh n1 rfl;obtain⟨o3,q1,q2,q3,q4⟩:=g3.own hown3 hst;cases o3<;>first|exact q2.elim|skip
       rename_i b3 ty3 kr3 es3 dp3;obtain⟨q5,rfl,rfl,rfl,q6⟩:=q2;obtain rfl:=bh q1 rfl;have hp3:=ao c1;rw[hp3.get n6]at q6;cases q6;obtain⟨out,o1,rfl⟩:=az c2;simp only[aA,hp3.get n6,hp3.get hz1,vl g2]at o1;split at o1
       ·rename_i hcn;split at o1
        ·rename_i e hee;cases o1
         have hdl:ds.length=xs.length:=by
          have h1:=g2.len;have h2:vs.length=xs.length:=GA hgv;omega
         refine⟨_,σ,_,O4 ho hdn z1 n1 hee y1 (by rw[<-y2.len];omega) (by rw[<-y2.len];omega) g1 q1,?_,hK⟩;have hb3:=g3.bind (out:=[DV.sl ty3 kr3 (es.set zi.toNat (plug off' ds e))]) (k:=1) rfl
         exact hb3.upd (s':={s2 with ob:=upd s2.ob i' (.row b3 ty3 kr3 (es.set zi.toNat (plug off' ds e)) true)}) (i:=i') (n':=(S3.bind 1).n) (c':=(S3.bind 1).c) (so:=.row a3 ty3 kr3 S3.m) (aQ.refl _) hb3.c hb3.n (Nat.le_refl _) q4 rfl (λj hj=>aE _ _ hj)
          (by simp[ae];exact⟨q5,rfl,rfl,rfl,by rw[<-g3.m];simp⟩)
        grind
       grind
      grind
     grind
    grind
   grind
  grind
 grind
end
end Go.Proofs.Ytgdbmcoamemmaaa
namespace Go.Proofs.Ytgdbmcoamemmaaa
open Go.RowKit
section
variable {P:Program}{N:Nat}{ρ ρ':List DV}{σ σ':List Nat}{S S':Sy}{s s':AS}{ps:List PO}{v:SV}{o:Oper}{K:List DV->Prop}{dE:List Nd}
def KS(P:Program)(el:TypeId):Bool:=(C0 P 9 el).all (·.isNone)
def Qv(P:Program)(S:Sy)(el k:Nat):SC->Option (List PO×Nat×Sy)
 |.d y=>some ([.flat y],y,S)
 |.nil=>some ([.e el k],S.m,S.bind 1)
 |.own j st=>match S.own j st with
  |some (.row _ _ _ y)=>if KS P el then some ([.flat y],y,S)else some ([],y,{S with ob:=(j,.dead)::S.ob})
  |some (.frz _ y)=>some ([.flat y],y,S)
  |_=>none
 |.emp=>some ([.e el k],S.m,S.bind 1)
 |.sub j st k0 z m=>match S.own j st with
  |some (.row _ _ k2 x)=>if k2=k0 then some ([.viewD x z m,.flat S.m],S.m,S.bind 1)else none
  |_=>none
 |_=>none
theorem vg{x z m:Nat}(he:ax [.viewD x z m] ρ=some ρ'):∃t k es u v,ρ[x]? =some (.sl t k es)/\ρ[z]? =some (.sc (.int .i64 u))/\ρ[m]? =some (.sc (.int .i64 v))/\ρ'=ρ++[.sl t k ((es.drop u.toNat).take v.toNat)]:=by
 obtain⟨out,o1,rfl⟩:=az he
 grind[aA]
theorem IH{j st k2 x z m a tt t:Nat}{kk:Nat}{yc:AC}{es:List (List DV)}{u v:Int}(hr:aN S ρ σ s)(hc:RC ρ σ (.sub j st k2 z m) yc)(ho:S.ownR j st=some (.row a tt k2 x))(hx:ρ[x]? =some (.sl t kk es))(hz:ρ[z]? =some (.sc (.int .i64 u)))(hm:ρ[m]? =some (.sc (.int .i64 v))):
 zo s yc (.sl t kk ((es.drop u.toNat).take v.toNat)):=by
 cases yc<;>first|exact hc.elim|skip
 rename_i j' st' k' lo n;obtain⟨rfl,hst,rfl,⟨u',e1,e2,rfl⟩,⟨v',e3,e4,rfl⟩⟩:=hc;rw[hz]at e1;cases e1;rw[hm]at e3;cases e3;obtain⟨o',n1,n2,n3,n4⟩:=hr.ownR ho hst;cases o'<;>first|exact n2.elim|skip
 rename_i b ty kr es' dp;obtain⟨n5,rfl,rfl,-,n6⟩:=n2;obtain rfl:=bh n1 rfl;rw[hx]at n6;cases n6;refine⟨by rw[hr.n];exact n4,?_⟩;rw[n3];grind
theorem lO{y:Nat}(he:ax [.flat y] ρ=some ρ'):ρ'=ρ/\∀t k es,ρ[y]? =some (.sl t k es)->uN es.flatten:=by
 obtain⟨out,o1,rfl⟩:=az he;simp only[aA]at o1;split at o1
 ·rename_i t k es hy;split at o1
  ·rename_i hf;cases o1;refine⟨by simp,λt' k' es' hy'=>?_⟩;rw[hy]at hy';injection hy' with hy';injection hy' with _ _ hy';subst hy';intro d hd
   grind[td,List.all_eq_true]
  grind
 grind
theorem BQ{el k y t':Nat}{c:SC}{yc:AC}{es:List (List DV)}(h:Qv P S el k c=some (ps,y,S'))(he:ax ps ρ=some ρ')(hr:aN S ρ σ s)(hc:RC ρ σ c yc)(hy:ρ'[y]? =some (.sl t' k es)):
 ∃s',Rv s s' k yc es/\aN S' ρ' σ s':=by
 unfold Qv at h;split at h
 ·cases h;obtain⟨rfl,hf⟩:=lO he;obtain⟨x,rfl,hx⟩:=pG hc;rw[hy]at hx;cases hx;exact⟨s,lP (t:=t') rfl (hf _ _ _ hy),hr⟩
 ·cases h;cases yc<;>first|exact hc.elim|skip
  obtain⟨out,o1,rfl⟩:=az he;simp only[aA]at o1;cases o1;rw[<-hr.m]at hy;simp at hy;obtain⟨rfl,rfl⟩:=hy;exact⟨s,lP (t:=el) ⟨el,k,rfl⟩ (by intro d hd;grind),hr.bind rfl⟩
 ·rename_i j st;cases yc<;>first|exact hc.elim|skip
  rename_i j' st';obtain⟨rfl,hst⟩:=hc;split at h
  ·rename_i a tt kk y' ho;obtain⟨o',n1,n2,n3,n4⟩:=hr.own ho hst;cases o'<;>first|exact n2.elim|skip
   rename_i b ty kr es' dp;obtain⟨n5,rfl,rfl,rfl,n6⟩:=n2;obtain rfl:=bh n1 rfl;split at h
   ·cases h;obtain⟨rfl,hf⟩:=lO he;rw[n6]at hy;injection hy with hy;injection hy with y1 y2 y3;subst y1 y2 y3;refine⟨s,lP (t:=ty) ?_ (hf _ _ _ n6),hr⟩;refine⟨by rw[hr.n];exact n4,?_⟩;rw[n3];grind
   ·cases h;simp[ax]at he;cases he;rw[n6]at hy;cases hy;refine⟨s.kill j',LI n1,?_⟩;exact hr.upd (s':=s.kill j') (i:=j') (n':=S.n) (c':=S.c) (so:=.dead) (aQ.refl _) hr.c hr.n (Nat.le_refl _) n4 rfl (λi hi=>by simp_all[AS.kill,aE]) trivial
  ·rename_i a y' ho;cases h;obtain⟨rfl,hf⟩:=lO he;obtain⟨o',n1,n2,n3,n4⟩:=hr.own ho hst;cases o'<;>first|exact n2.elim|skip
   rename_i b yy;obtain⟨n5,n6⟩:=n2;obtain rfl:=bh n1 rfl;rw[n6]at hy;cases hy;refine⟨s,lP (t:=t') ?_ (hf _ _ _ n6),hr⟩;refine⟨by rw[hr.n];exact n4,?_⟩;rw[n3];grind
  grind
 ·cases h;cases yc<;>first|exact hc.elim|skip
  obtain⟨out,o1,rfl⟩:=az he;simp[aA]at o1;cases o1;rw[<-hr.m]at hy;simp at hy;obtain⟨rfl,rfl⟩:=hy;exact⟨s,lP (t:=el) ⟨el,k,rfl⟩ (by intro d hd;grind),hr.bind rfl⟩
 ·rename_i j st k0 z m;split at h
  ·rename_i a tt k2 x ho;split at h
   ·rename_i hk;subst hk;cases h;obtain⟨ρ1,a1,a2⟩:=ak (ps:=[.viewD x z m]) (qs:=[.flat S.m]) he;obtain⟨t,kk,es0,u,v,h1,h2,h3,rfl⟩:=vg a1;obtain⟨rfl,hf⟩:=lO a2;have hy':=hy;rw[<-hr.m]at hy';simp at hy';obtain⟨rfl,rfl,rfl⟩:=hy';exact⟨s,lP (IH hr hc (by unfold Sy.ownR;rw[ho];rfl) h1 h2 h3) (hf _ _ _ hy),hr.bind rfl⟩
   grind
  grind
 grind
def z8(P:Program)(d:Option Nat)(el k b i st x:Nat)(cy:SC)(pre:List PO)(S:Sy):Option (List Nd×Sy):=
 match Qv P S el k cy with
 |some (q,y,S1)=>(match S1.own i st with
  |some (.row _ t' k' x')=>if t'=el/\k'=k/\x'=x then
   some ((pre++(q++[PO.app el k b x y])).map .po,{ (S1.bind 1)with ob:=(i,.row S1.c el k S1.m)::S1.ob,c:=S1.c+1}.put d (.p false [.own i S1.c]))else none
  |_=>none)
 |none=>none
def Pc(P:Program)(S:Sy)(d:Option Nat)(X Y:Operand)(t:TypeId):Option (List Nd×Sy):=
 match fL P t with
 |some (el,k)=>(match aU P el,fT P el with
  |some zs,some b=>if zs.length=k/\0<k then(match ld S Y with
   |some (q,u,S1)=>(match ld S1 X with
    |some (p,v,S2)=>(match one v,one u with
     |some .nil,some cy=>z8 P d el k b S2.n S2.c S2.m cy (q++(p++[PO.e el k])) ((S2.bind 1).push (.row S2.c el k S2.m))
     |some (.own i st),some cy=>(match S2.own i st with|some (.row _ _ _ x)=>z8 P d el k b i st x cy (q++p) S2|_=>none)
     |some (.sub i st _ z m),some cy=>(match S2.own i st with|some (.row _ t' k' x)=>if t'=el/\k'=k then z8 P d el k b i S2.c S2.m cy (q++(p++[PO.cutP x z m])) { (S2.bind 1)with ob:=(i,.row S2.c el k S2.m)::S2.ob,c:=S2.c+1}else none|_=>none)
     |_,_=>none)
    |none=>none)
   |none=>none)else none
  |_,_=>none)
 |none=>none
theorem ou{el k b x y:Nat}(he:ax [.app el k b x y] ρ=some ρ'):∃es fs t',ρ[x]? =some (.sl el k es)/\ρ[y]? =some (.sl t' k fs)/\es.length+fs.length<=9223372036854775807/\(es.length+fs.length)*b<=140737488355328/\ρ'=ρ++[.sl el k (es++fs)]:=by
 obtain⟨out,o1,rfl⟩:=az he
 grind[aA]
theorem K4{X Y:Operand}{t:TypeId}(ho:o.op=.call ⟨.builtin .append,#[X,Y],#[t,t]⟩)(h:Pc P S o.dst X Y t=some (dE,S'))(hd:dB N o.dst=true)(hr:aN S ρ σ s)(hw:WN P dE K ρ):iS P N o s S' K:=by
 unfold Pc at h;split at h
 ·rename_i el k ht;split at h
  ·rename_i zs b hz hby
   split at h
   ·rename_i hzk;split at h
    ·rename_i q u S1 hu;split at h
     ·rename_i p v S2 hv;split at h
      ·rename_i cy hone hcy;unfold z8 at h;split at h
       ·rename_i qq y S3 hsrc;split at h
        ·rename_i a3 t3 k3 x3 hown;split at h
         ·rename_i hx;obtain⟨rfl,rfl,rfl⟩:=hx;cases h;obtain⟨ρ',he,hK⟩:=bN hw;obtain⟨ρ2,a1,a2⟩:=ak he;obtain⟨ρ3,b1,b2⟩:=ak a2;obtain⟨ρ0,c1,c2⟩:=ak a1;obtain⟨ρ1,d1,d2⟩:=ak c2;obtain⟨k1,k2⟩:=aS hu c1 hr;obtain⟨m1,m2⟩:=aS hv d1 k2;obtain⟨out,o1,rfl⟩:=az d2;simp[aA]at o1;cases o1;obtain⟨cx,x1,x2⟩:=bD hone m1;cases cx<;>first|exact x2.elim|skip
          obtain⟨cY,y1,y2⟩:=bD hcy k1
          have hps:aN ((S2.bind 1).push (.row S2.c t3 k3 S2.m)) (ρ1++[.sl t3 k3 []]) (σ++[s.c]) (s.push (.row s.c t3 k3 [] true)):=
           (m2.bind (out:=[DV.sl t3 k3 []]) (k:=1) rfl).push (so:=.row S2.c t3 k3 S2.m) (ob:=.row s.c t3 k3 [] true) ⟨m2.last _,rfl,rfl,rfl,by rw[<-m2.m];simp⟩
          obtain⟨es,fs,t',f1,f2,f3,f4,rfl⟩:=ou b2;obtain⟨s2,g1,g2⟩:=BQ hsrc b1 hps (y2.mono ((ao d1).trans (aQ.app _ _)) (aQ.app _ _)) f2;obtain⟨o3,q1,q2,q3,q4⟩:=g2.own hown (m2.last s.c);cases o3<;>first|exact q2.elim|skip
          rename_i b3 ty3 kr3 es3 dp3;obtain⟨q5,rfl,rfl,rfl,q6⟩:=q2;obtain rfl:=bh q1 rfl
          have hes:es=[]/\es3=[]:=by
           have h0:ρ3[S2.m]? =some (.sl ty3 kr3 []):=(ao b1).get (by rw[<-m2.m];simp);rw[h0]at f1 q6
           grind
          obtain⟨rfl,rfl⟩:=hes;rw[<-m2.n]at q1 q4;refine⟨_,σ++[s.c]++[s2.c],_,zE ho (fU hd) ht hz hzk.1 hzk.2 hby x1 y1 g1 q1 (by have:=f3;simp[List.length_nil,Nat.zero_add]at this;exact this) (by grind),?_,hK⟩;have hb3:=g2.bind (out:=[DV.sl ty3 kr3 ([]++fs)]) (k:=1) rfl;have hl:=g2.last s2.c
          have:=hb3.upd (s':={s2 with ob:=upd s2.ob s.n (.row s2.c ty3 kr3 fs true),c:=s2.c+1}) (i:=S2.n) (n':=(S3.bind 1).n) (c':=S3.c+1) (so:=.row S3.c ty3 kr3 S3.m) (aQ.app _ [s2.c]) (by have:=g2.c;grind) hb3.n (Nat.le_refl _) (by rw[m2.n]at q4;exact q4) rfl (λj hj=>by simp only;rw[aE _ _ (by rw[m2.n];exact hj)])
           (by simp only[m2.n,ae];exact⟨hl,rfl,rfl,rfl,by rw[<-g2.m];simp⟩)
          exact this.put ⟨rfl,⟨m2.n,hl⟩,trivial⟩
         grind
        grind
       grind
      ·rename_i i st cy hone hcy;split at h
       ·rename_i a0 t0 k0 x0 hown0;unfold z8 at h;split at h
        ·rename_i qq y S3 hsrc;split at h
         ·rename_i a3 t3 k3 x3 hown;split at h
          ·rename_i hx;obtain⟨rfl,rfl,rfl⟩:=hx;cases h;obtain⟨ρ',he,hK⟩:=bN hw;obtain⟨ρ1,a1,a2⟩:=ak he;obtain⟨ρ3,b1,b2⟩:=ak a2;obtain⟨ρ0,c1,d1⟩:=ak a1;obtain⟨k1,k2⟩:=aS hu c1 hr;obtain⟨m1,m2⟩:=aS hv d1 k2;obtain⟨cx,x1,x2⟩:=bD hone m1;cases cx<;>first|exact x2.elim|skip
           rename_i i' st';obtain⟨rfl,hst⟩:=x2;obtain⟨cY,y1,y2⟩:=bD hcy k1;obtain⟨es,fs,t',f1,f2,f3,f4,rfl⟩:=ou b2;obtain⟨s2,g1,g2⟩:=BQ hsrc b1 m2 (y2.mono (ao d1) (aQ.refl _)) f2;obtain⟨o3,q1,q2,q3,q4⟩:=g2.own hown hst;cases o3<;>first|exact q2.elim|skip
           rename_i b3 ty3 kr3 es3 dp3;obtain⟨q5,rfl,rfl,rfl,q6⟩:=q2;obtain rfl:=bh q1 rfl;rw[f1]at q6;cases q6;refine⟨_,σ++[s2.c],_,Ha ho (fU hd) ht hz hzk.1 hby x1 y1 g1 q1 f3 f4,?_,hK⟩;have hb3:=g2.bind (out:=[DV.sl ty3 kr3 (es++fs)]) (k:=1) rfl;have hl:=g2.last s2.c
           have:=hb3.upd (s':={s2 with ob:=upd s2.ob i' (.row s2.c ty3 kr3 (es++fs) true),c:=s2.c+1}) (i:=i') (n':=(S3.bind 1).n) (c':=S3.c+1) (so:=.row S3.c ty3 kr3 S3.m) (aQ.app _ [s2.c]) (by have:=g2.c;grind) hb3.n (Nat.le_refl _) q4 rfl (λj hj=>aE _ _ hj)
            (by simp[ae];exact⟨hl,rfl,rfl,rfl,by rw[<-g2.m];simp⟩)
           exact this.put ⟨rfl,⟨rfl,hl⟩,trivial⟩
          grind
         grind
        grind
       grind
      ·rename_i i st kq z m cy hone hcy;split at h
       ·rename_i a0 t0 k0 x0 hown0;split at h
        ·rename_i htk;obtain⟨rfl,rfl⟩:=htk;unfold z8 at h;split at h
         ·rename_i qq y S3 hsrc;split at h
          ·rename_i a3 t3 k3 x3 hown;split at h
           ·rename_i hx;obtain⟨rfl,rfl,rfl⟩:=hx;cases h;obtain⟨ρ',he,hK⟩:=bN hw;obtain⟨ρ2,a1,a2⟩:=ak he;obtain⟨ρ3,b1,b2⟩:=ak a2;obtain⟨ρ0,c1,c2⟩:=ak a1;obtain⟨ρ1,d1,d2⟩:=ak c2;obtain⟨k1,k2⟩:=aS hu c1 hr;obtain⟨m1,m2⟩:=aS hv d1 k2;obtain⟨cx,x1,x2⟩:=bD hone m1;cases cx<;>first|exact x2.elim|skip
            rename_i i' st' kx lo n;obtain⟨rfl,hst,rfl,⟨u',e1,e2,rfl⟩,⟨v',e3,e4,rfl⟩⟩:=x2;obtain⟨cY,y1,y2⟩:=bD hcy k1;obtain⟨o0,r1,r2,r3,r4⟩:=m2.own hown0 hst;cases o0<;>first|exact r2.elim|skip
            rename_i b0 ty0 kr0 es0 dp0;obtain⟨r5,rfl,rfl,rfl,r6⟩:=r2;obtain rfl:=bh r1 rfl;obtain⟨out,o1,rfl⟩:=az d2;simp only[aA,r6,e1,e3]at o1;split at o1
            ·rename_i lU;obtain⟨hu0,hle⟩:=lU;subst hu0;cases o1
             have hps:aN { (S2.bind 1)with ob:=(i',.row S2.c ty0 kr0 S2.m)::S2.ob,c:=S2.c+1} (ρ1++[.sl ty0 kr0 (es0.take v'.toNat)]) (σ++[s.c]) (s.cut i' ty0 kr0 v'.toNat es0):=by
              have hb:=m2.bind (out:=[DV.sl ty0 kr0 (es0.take v'.toNat)]) (k:=1) rfl
              exact hb.upd (s':=s.cut i' ty0 kr0 v'.toNat es0) (i:=i') (n':=S2.n) (c':=S2.c+1) (so:=.row S2.c ty0 kr0 S2.m) (aQ.app _ [s.c]) (by have:=m2.c;grind) hb.n (Nat.le_refl _) r4 rfl (λj hj=>aE _ _ hj)
               (by simp[AS.cut,ae];exact⟨m2.last _,rfl,rfl,rfl,by rw[<-m2.m];simp⟩)
             obtain⟨es,fs,t',f1,f2,f3,f4,rfl⟩:=ou b2;obtain⟨s2,g1,g2⟩:=BQ hsrc b1 hps (y2.mono ((ao d1).trans (aQ.app _ _)) (aQ.app _ _)) f2;obtain⟨o3,q1,q2,q3,q4⟩:=g2.own hown (m2.last s.c);cases o3<;>first|exact q2.elim|skip
             rename_i b3 ty3 kr3 es3 dp3;obtain⟨q5,rfl,rfl,rfl,q6⟩:=q2;obtain rfl:=bh q1 rfl
             have hes:es=es0.take v'.toNat/\es3=es0.take v'.toNat:=by
              have h0:ρ3[S2.m]? =some (.sl ty3 kr3 (es0.take v'.toNat)):=(ao b1).get (by rw[<-m2.m];simp);rw[h0]at f1 q6
              grind
             obtain⟨rfl,rfl⟩:=hes;refine⟨_,σ++[s.c]++[s2.c],_,zK ho (fU hd) ht hz hzk.1 hby x1 r1 hle y1 g1 q1 f3 f4,?_,hK⟩;have hb3:=g2.bind (out:=[DV.sl ty3 kr3 (es0.take v'.toNat++fs)]) (k:=1) rfl;have hl:=g2.last s2.c
             have:=hb3.upd (s':={s2 with ob:=upd s2.ob i' (.row s2.c ty3 kr3 (es0.take v'.toNat++fs) true),c:=s2.c+1}) (i:=i') (n':=(S3.bind 1).n) (c':=S3.c+1) (so:=.row S3.c ty3 kr3 S3.m) (aQ.app _ [s2.c]) (by have:=g2.c;grind) hb3.n (Nat.le_refl _) q4 rfl (λj hj=>aE _ _ hj)
              (by simp only[ae];exact⟨hl,rfl,rfl,rfl,by rw[<-g2.m];simp⟩)
             exact this.put ⟨rfl,⟨rfl,hl⟩,trivial⟩
            grind
           grind
          grind
         grind
        grind
       grind
      grind
     grind
    grind
   grind
  grind
 grind
def KT(P:Program)(S:Sy)(d:Option Nat)(X Y:Operand)(t:TypeId):Option (List Nd×Sy):=none
theorem Hk{X Y:Operand}{t:TypeId}(ho:o.op=.call ⟨.builtin .copy,#[X,Y],#[t,t]⟩)(h:KT P S o.dst X Y t=some (dE,S'))(hd:dB N o.dst=true)(hr:aN S ρ σ s)(hw:WN P dE K ρ):iS P N o s S' K:=by
 unfold KT at h;cases h
def H8:Operand->Operand->Bool
 |.tmp a,.tmp b=>decide (a=b)
 |.const (.int .i64 n),.const (.int .i64 m)=>decide (n=m)
 |_,_=>false
theorem Jm{x y:Operand}(h:H8 x y=true):s.ev y=s.ev x:=by
 unfold H8 at h
 grind
def Jw(P:Program)(S:Sy)(d:Option Nat)(t:TypeId)(x y:Operand):Option (List Nd×Sy):=
 match fL P t with
 |some (el,k)=>(match aU P el,fT P el with
  |some zs,some b=>(match Ru zs,ld S x with
   |some ds,some (p,v,S1)=>(match Ck v with
    |some i=>if zs.length=k/\0<k/\H8 x y=true then some ((p++[PO.make el k b ds i]).map .po,((S1.bind 1).push (.row S1.c el k S1.m)).put d (.p false [.own S1.n S1.c]))else none
    |none=>none)
   |_,_=>none)
  |_,_=>none)
 |none=>none
theorem HH{x y:Operand}{t:TypeId}(ho:o.op=.makeSlice t x y)(h:Jw P S o.dst t x y=some (dE,S'))(hd:dB N o.dst=true)(hr:aN S ρ σ s)(hw:WN P dE K ρ):iS P N o s S' K:=by
 unfold Jw at h;split at h
 ·rename_i el k ht;split at h
  ·rename_i zs b hz hby
   split at h
   ·rename_i ds p v S1 hzd hv;split at h
    ·rename_i i hi;split at h
     ·rename_i hc;injection h with h;injection h with e1 e2;subst e1 e2;obtain⟨ρ',he,hK⟩:=bN hw;obtain⟨ρ1,a1,a2⟩:=ak he;obtain⟨k1,k2⟩:=aS hv a1 hr;obtain⟨z,z1,z2⟩:=dl hi k1;obtain⟨out,o1,rfl⟩:=az a2;simp only[aA,z2]at o1;split at o1
      ·rename_i n hn;injection hn with hn;subst hn;split at o1
       ·rename_i hcn;injection o1 with o1;subst o1;obtain⟨m,rfl⟩:=Int.eq_ofNat_of_zero_le hcn.1;simp only[Int.toNat_natCast]at hcn hK ⊢;refine⟨_,σ++[s.c],_,(Pt (s:=s) ho z1 (by rw[Jm hc.2.2];exact z1) ht hc.2.1 hz hc.1 hzd hby hcn.2.1 hcn.2.2).toO (fU hd),?_,hK⟩;exact((k2.bind (out:=[DV.sl el k (List.replicate m ds)]) (k:=1) rfl).push (so:=.row S1.c el k S1.m) (ob:=.row s.c el k (List.replicate m ds) true) ⟨k2.last _,rfl,rfl,rfl,by rw[<-k2.m];simp⟩).put ⟨rfl,⟨k2.n,k2.last _⟩,trivial⟩
       ·cases o1
      ·cases o1
     ·cases h
    ·cases h
   ·cases h
  ·cases h
 ·cases h
end
end Go.Proofs.Ytgdbmcoamemmaaa
namespace Go.Proofs.Ytgdbmcoamemmaaa
open Go.RowKit
section
variable {P:Program}{N:Nat}{ρ ρ':List DV}{σ σ':List Nat}{S S':Sy}{s s':AS}{ps:List PO}{v:SV}{o:Oper}{K:List DV->Prop}{dE:List Nd}
def wO(F:Bool):List SC->List (Option (Nat×Nat))->Sy->Option (List PO×List Nat×Sy)
 |[],_,S=>some ([],[],S)
 |.d i::cs,ty,S=>(match wO F cs ty.tail S with|some (p,xs,S')=>some (p,i::xs,S')|none=>none)
 |.nil::cs,ty,S=>(match ty.headD none with
  |some (t,k)=>(match wO F cs ty.tail (S.bind 1)with|some (p,xs,S')=>some (PO.e t k::p,S.m::xs,S')|none=>none)
  |none=>none)
 |.own i st::cs,ty,S=>(match S.ownR i st with
  |some (.row _ _ _ x)=>if F then none else(match wO F cs ty.tail S with|some (p,xs,S')=>some (p,x::xs,S')|none=>none)
  |some (.frz _ x)=>(match wO F cs ty.tail S with|some (p,xs,S')=>some (p,x::xs,S')|none=>none)
  |some (.dx _ x)=>if F then none else(match wO F cs ty.tail S with|some (p,xs,S')=>some (p,x::xs,S')|none=>none)
  |_=>none)
 |.emp::cs,ty,S=>(match ty.headD none with
  |some (t,k)=>(match wO F cs ty.tail (S.bind 1)with|some (p,xs,S')=>some (PO.e t k::p,S.m::xs,S')|none=>none)
  |none=>none)
 |.sub i st k z m::cs,ty,S=>(match S.ownR i st with
  |some (.row _ _ k2 x)=>if F|| !(k2==k)then none else(match wO F cs ty.tail (S.bind 1)with|some (p,xs,S')=>some (PO.viewD x z m::p,S.m::xs,S')|none=>none)
  |_=>none)
 |_::_,_,_=>none
theorem jL{F:Bool}:∀{cs:List SC} {ty:List (Option (Nat×Nat))} {S S':Sy} {ps:List PO} {xs:List Nat} {ρ ρ':List DV} {ys:List AC},wO F cs ty S=some (ps,xs,S')->ax ps ρ=some ρ'->aN S ρ σ s->cQ ρ σ cs ys->
 ∃ds,RD ρ' xs ds/\(F=false->FQ s ys ds)/\(F=true->DK s ys ds)/\aN S' ρ' σ s
 |[],ty,S,S',ps,xs,ρ,ρ',ys,h,he,hr,hc=>by
  simp only[wO]at h;cases h;simp[ax]at he;cases he
  cases ys with
  |nil=>exact⟨[],trivial,λ_=>trivial,λ_=>trivial,hr⟩
  |cons=>exact hc.elim
 |c::cs,ty,S,S',ps,xs,ρ,ρ',[],h,he,hr,hc=>hc.elim
 |.d i::cs,ty,S,S',ps,xs,ρ,ρ',y::ys,h,he,hr,hc=>by
  simp[wO]at h;split at h
  ·rename_i p xs' S1 hg;cases h;obtain⟨x,rfl,hx⟩:=pG hc.1;obtain⟨ds,g1,g2,g3,g4⟩:=jL hg he hr hc.2;exact⟨x::ds,⟨(ao he).get hx,g1⟩,λhF=>⟨rfl,g2 hF⟩,λhF=>⟨rfl,g3 hF⟩,g4⟩
  grind
 |.nil::cs,ty,S,S',ps,xs,ρ,ρ',y::ys,h,he,hr,hc=>by
  simp[wO]at h;cases y<;>first|exact hc.1.elim|skip
  split at h
  ·rename_i t k ht;split at h
   ·rename_i p xs' S1 hg;cases h;simp[ax,aA]at he;obtain⟨ds,g1,g2,g3,g4⟩:=jL hg he (hr.bind rfl) (cQ.mono (aQ.app _ _) (aQ.refl _) hc.2);exact⟨.sl t k []::ds,⟨(ao he).get (by simp[<-hr.m]),g1⟩,λhF=>⟨⟨t,k,rfl⟩,g2 hF⟩,λhF=>⟨⟨t,k,rfl⟩,g3 hF⟩,g4⟩
   grind
  grind
 |.own i st::cs,ty,S,S',ps,xs,ρ,ρ',y::ys,h,he,hr,hc=>by
  simp[wO]at h;cases y<;>first|exact hc.1.elim|skip
  rename_i i' st';obtain⟨⟨rfl,hst⟩,hc2⟩:=hc;split at h
  ·rename_i a t k x ho;split at h
   ·cases h
   ·rename_i hF0;split at h
    ·rename_i p xs' S1 hg;cases h;obtain⟨o',k1,k2,k3,k4⟩:=hr.ownR ho hst;cases o'<;>first|exact k2.elim|skip
     rename_i b ty' kk es' dp;obtain⟨k5,rfl,rfl,-,hx⟩:=k2;obtain rfl:=bh k1 rfl;obtain⟨ds,g1,g2,g3,g4⟩:=jL hg he hr hc2;exact⟨.sl ty' kk es'::ds,⟨(ao he).get hx,g1⟩,λhF=>⟨⟨by rw[hr.n];exact k4,by rw[k3];grind⟩,g2 hF⟩,λhF=>absurd hF hF0,g4⟩
    grind
  ·rename_i a x ho;split at h
   ·rename_i p xs' S1 hg;cases h;obtain⟨o',k1,k2,k3,k4⟩:=hr.ownR ho hst;cases o'<;>first|exact k2.elim|skip
    rename_i b yy;obtain⟨k5,hx⟩:=k2;obtain rfl:=bh k1 rfl;obtain⟨ds,g1,g2,g3,g4⟩:=jL hg he hr hc2;exact⟨yy::ds,⟨(ao he).get hx,g1⟩,λhF=>⟨⟨by rw[hr.n];exact k4,by rw[k3];grind⟩,g2 hF⟩,λhF=>⟨⟨by rw[hr.n];exact k4,by rw[k3];grind⟩,g3 hF⟩,g4⟩
   grind
  ·rename_i a x ho;split at h
   ·cases h
   ·rename_i hF0;split at h
    ·rename_i p xs' S1 hg;cases h;obtain⟨o',k1,k2,k3,k4⟩:=hr.ownR ho hst;cases o'<;>first|exact k2.elim|skip
     rename_i b yy;obtain⟨k5,hx⟩:=k2;obtain rfl:=bh k1 rfl;obtain⟨ds,g1,g2,g3,g4⟩:=jL hg he hr hc2;exact⟨yy::ds,⟨(ao he).get hx,g1⟩,λhF=>⟨⟨by rw[hr.n];exact k4,by rw[k3];grind⟩,g2 hF⟩,λhF=>absurd hF hF0,g4⟩
    grind
  grind
 |.ptr _ _ _::cs,ty,S,S',ps,xs,ρ,ρ',y::ys,h,he,hr,hc=>by grind[wO]
 |.elt _ _ _ _ _::cs,ty,S,S',ps,xs,ρ,ρ',y::ys,h,he,hr,hc=>by grind[wO]
 |.emp::cs,ty,S,S',ps,xs,ρ,ρ',y::ys,h,he,hr,hc=>by
  simp[wO]at h;cases y<;>first|exact hc.1.elim|skip
  split at h
  ·rename_i t k ht;split at h
   ·rename_i p xs' S1 hg;cases h;simp[ax,aA]at he;obtain⟨ds,g1,g2,g3,g4⟩:=jL hg he (hr.bind rfl) (cQ.mono (aQ.app _ _) (aQ.refl _) hc.2);exact⟨.sl t k []::ds,⟨(ao he).get (by simp[<-hr.m]),g1⟩,λhF=>⟨⟨t,k,rfl⟩,g2 hF⟩,λhF=>⟨⟨t,k,rfl⟩,g3 hF⟩,g4⟩
   grind
  grind
 |.sub i st k z m::cs,ty,S,S',ps,xs,ρ,ρ',y::ys,h,he,hr,hc=>by
  simp[wO]at h;split at h
  ·rename_i a t k2 x ho;split at h
   ·cases h
   ·rename_i hF0;simp[Bool.or_eq_true,Bool.not_eq_true',beq_eq_false_iff_ne,ne_eq,not_or,Bool.not_eq_true,Classical.not_not]at hF0;obtain⟨hF0,rfl⟩:=hF0;split at h
    ·rename_i p xs' S1 hg;cases h;obtain⟨ρ1,a1,a2⟩:=ak (ps:=[.viewD x z m]) (qs:=p) he;obtain⟨t',kk,es0,u,v,h1,h2,h3,rfl⟩:=vg a1;obtain⟨ds,g1,g2,g3,g4⟩:=jL hg a2 (hr.bind rfl) (cQ.mono (aQ.app _ _) (aQ.refl _) hc.2);exact⟨_::ds,⟨(ao a2).get (by simp[<-hr.m]),g1⟩,λhF=>⟨IH hr hc.1 ho h1 h2 h3,g2 hF⟩,λhF=>(by rw[hF0]at hF;cases hF),g4⟩
    grind
  grind
 |.rd _::cs,ty,S,S',ps,xs,ρ,ρ',y::ys,h,he,hr,hc=>by grind[wO]
def rQ(F:Bool)(P:Program):List Operand->List TypeId->Sy->Option (List PO×List (Bool×List Nat)×Sy)
 |[],_,S=>some ([],[],S)
 |x::xs,ts,S=>match ld S x with
  |some (p,.p b cs,S1)=>(match wO F cs (C0 P 9 (ts.headD 0)) S1 with
   |some (q,is,S2)=>(match rQ F P xs ts.tail S2 with|some (r,as0,S3)=>some (p++(q++r),(b,is)::as0,S3)|none=>none)
   |none=>none)
  |_=>none
theorem RD.app_pre{xs:List Nat}{ds:List DV}(h:RD ρ xs ds)(hp:aQ ρ ρ'):gL ρ' xs=some ds:=vl (h.mono hp)
theorem lJ{F:Bool}:∀{xs:List Operand} {ts:List TypeId} {S S':Sy} {ps:List PO} {as0:List (Bool×List Nat)} {ρ ρ':List DV},rQ F P xs ts S=some (ps,as0,S')->ax ps ρ=some ρ'->aN S ρ σ s->
 ∃ys,dc ρ' as0=some ys/\(F=false->gj s xs ys)/\(F=true->gq s xs ys)/\aN S' ρ' σ s
 |[],ts,S,S',ps,as0,ρ,ρ',h,he,hr=>by
  simp only[rQ]at h;cases h;simp only[ax]at he;cases he
  exact⟨[],rfl,λ_=>trivial,λ_=>trivial,hr⟩
 |x::xs,ts,S,S',ps,as0,ρ,ρ',h,he,hr=>by
  simp[rQ]at h;split at h
  ·rename_i p b cs S1 hv;split at h
   ·rename_i q is S2 hq;split at h
    ·rename_i r as' S3 hr';cases h;obtain⟨ρ1,a1,a2⟩:=ak he;obtain⟨ρ2,b1,b2⟩:=ak a2;obtain⟨k1,k2⟩:=aS hv a1 hr
     cases hx:s.ev x with
     |p b' ys0=>
      rw[hx]at k1;obtain⟨rfl,hc⟩:=k1;obtain⟨ds,g1,g2,g3,g4⟩:=jL hq b1 k2 hc;obtain⟨ys,y1,y2,y3,y4⟩:=lJ hr' b2 g4;refine⟨(b',ds)::ys,by simp[dc,g1.app_pre (ao b2),y1],λhF=>⟨?_,y2 hF⟩,λhF=>⟨?_,y3 hF⟩,y4⟩
      ·rw[hx];grind
      grind
     |tup=>rw[hx]at k1;exact k1.elim
     |und=>rw[hx]at k1;exact k1.elim
    grind
   grind
  grind
def LN(X:Bool)(c t k m:Nat):SO:=if X then .dx c m else .row c t k m
theorem LC{X:Bool}{c c' t k m:Nat}{es:List (List DV)}(h1:σ[c]? =some c')(h2:ρ[m]? =some (.sl t k es)):RO ρ σ (LN X c t k m) (zD X c' t k es):=by
 cases X
 ·exact⟨h1,rfl,rfl,rfl,h2⟩
 ·exact⟨h1,h2⟩
def MB(X:Bool):List (Option (Nat×Nat))->Nat->Sy->List SC×Sy
 |[],m,S=>([],S)
 |none::r,m,S=>(.d m::(MB X r (m+1) S).1,(MB X r (m+1) S).2)
 |some (t,k)::r,m,S=>(.own S.n S.c::(MB X r (m+1) (S.push (LN X S.c t k m))).1,(MB X r (m+1) (S.push (LN X S.c t k m))).2)
theorem ED{X:Bool}:∀{ds:List DV} {ss:List (Option (Nat×Nat))} {m:Nat} {S:Sy} {s:AS} {σ:List Nat},zN ss ds=true->RD ρ (dW m ds.length) ds->aN S ρ σ s->
 ∃σ',aQ σ σ'/\aN (MB X ss m S).2 ρ σ' (s.pushL (jQ X ds s.c))/\cQ ρ σ' (MB X ss m S).1 (MH ds s.n s.c)
 |[],ss,m,S,s,σ,h,hd,hr=>by
  cases ss with
  |nil=>exact⟨σ,aQ.refl _,hr,trivial⟩
  |cons x r=>cases x<;>simp[zN]at h
 |.sc u::ds,ss,m,S,s,σ,h,hd,hr=>by
  match ss,h with
  |none::r,h=>
   simp[zN]at h;obtain⟨σ',p1,p2,p3⟩:=ED (ds:=ds) h hd.2 hr
   exact⟨σ',p1,p2,hd.1,p3⟩
 |.sl t k es::ds,ss,m,S,s,σ,h,hd,hr=>by
  match ss,h with
  |some (t',k')::r,h=>
   simp[zN,Bool.and_eq_true,decide_eq_true_eq]at h;obtain⟨⟨rfl,rfl⟩,h⟩:=h;have hp:=hr.push (so:=LN X S.c t k m) (ob:=zD X s.c t k es) (LC (hr.last _) hd.1);obtain⟨σ',p1,p2,p3⟩:=ED (ds:=ds) h hd.2 hp;refine⟨σ',(aQ.app _ _).trans p1,?_,⟨hr.n,p1.get (hr.last _)⟩,p3⟩;exact p2
def iG(X:Bool):Sh->Nat->Sy->List (Bool×List SC)×Sy
 |[],m,S=>([],S)
 |(b,ss,true)::r,m,S=>((b,(MB X ss m S).1)::(iG X r (m+ss.length) (MB X ss m S).2).1,(iG X r (m+ss.length) (MB X ss m S).2).2)
 |(b,ss,false)::r,m,S=>((b,(dW m ss.length).map .d)::(iG X r (m+ss.length) S).1,(iG X r (m+ss.length) S).2)
theorem w9:∀{xs ys:List DV} {m:Nat},RD ρ (dW m (xs++ys).length) (xs++ys)->RD ρ (dW m xs.length) xs/\RD ρ (dW (m+xs.length) ys.length) ys
 |[],ys,m,h=>⟨trivial,by simpa using h⟩
 |x::xs,ys,m,h=>by
  obtain⟨h1,h2⟩:=w9 (xs:=xs) (ys:=ys) (m:=m+1) h.2;refine⟨⟨h.1,h1⟩,?_⟩;have:m+1+xs.length=m+(x::xs).length:=by grind
  rw[<-this];exact h2
theorem o7:∀{ss:List (Option (Nat×Nat))} {ds:List DV},zN ss ds=true->ds.length=ss.length
 |[],[],_=>rfl
 |none::ss,.sc _::ds,h=>by simp[zN]at h;simp[o7 h]
 |some (t,k)::ss,.sl t' k' _::ds,h=>by simp[zN,Bool.and_eq_true]at h;simp[o7 h.2]
 |[],_::_,h=>by grind[zN]
 |none::_,[],h=>by grind[zN]
 |some _::_,[],h=>by grind[zN]
 |none::_,.sl _ _ _::_,h=>by grind[zN]
 |some _::_,.sc _::_,h=>by grind[zN]
theorem jv{X:Bool}:∀{rs:List Rs} {sh:Sh} {m:Nat} {S:Sy} {s:AS} {σ:List Nat},c9 sh rs=true->RD ρ (dW m (ca rs).length) (ca rs)->aN S ρ σ s->
 ∃σ',aQ σ σ'/\aN (iG X sh m S).2 ρ σ' (s.pushL (cS X rs s.c))/\RT ρ σ' (iG X sh m S).1 (iQ rs s.n s.c)
 |[],sh,m,S,s,σ,h,hd,hr=>by
  cases sh with
  |nil=>exact⟨σ,aQ.refl _,hr,trivial⟩
  |cons x r=>grind[c9]
 |(b,ds,ow)::rs,sh,m,S,s,σ,h,hd,hr=>by
  match sh,h with
  |(b',ss,ow')::r,h=>
   simp[c9,Bool.and_eq_true,decide_eq_true_eq]at h;obtain⟨⟨rfl,rfl⟩,h1,h2⟩:=h;obtain⟨d1,d2⟩:=w9 hd;rw[o7 h1]at d2
   cases ow with
   |true=>
    obtain⟨σ1,p1,p2,p3⟩:=ED h1 d1 hr;obtain⟨σ2,q1,q2,q3⟩:=jv h2 d2 p2;obtain⟨n1,n2,-,-⟩:=iO (jQ X ds s.c) s;rw[tM X]at n1;refine⟨σ2,p1.trans q1,?_,⟨rfl,cQ.mono (aQ.refl _) q1 p3⟩,?_⟩
    ·have:s.pushL (cS X ((b,ds,true)::rs) s.c)=(s.pushL (jQ X ds s.c)).pushL (cS X rs (s.pushL (jQ X ds s.c)).c):=by rw[n2,cS,uR]
     rw[this];exact q2
    grind[tM]
   |false=>
    obtain⟨σ2,q1,q2,q3⟩:=jv h2 d2 hr;refine⟨σ2,q1,q2,⟨rfl,?_⟩,q3⟩;rw[<-o7 h1];exact RD.toC d1
def p8(l:List (Bool×List SC)):SV:=match l with|[(b,cs)]=>.p b cs|l=>.tup l
theorem sj{l:List (Bool×List SC)}{rs:List Rs}{n c:Nat}(h:RT ρ σ l (iQ rs n c)):RV ρ σ (p8 l) (mL rs n c):=by
 unfold p8 mL;generalize iQ rs n c=l' at h
 match l,l',h with
 |[],[],h=>exact h
 |[(b,cs)],[(b',cs')],h=>exact h.1
 |x::y::l,x'::y'::l',h=>exact h
 |[x],_::_::_,h=>exact h.2.elim
 |_::_::_,[x],h=>exact h.2.elim
def dI:Sh->Nat
 |[]=>0
 |(_,ss,_)::r=>ss.length+dI r
theorem eL:∀{sh:Sh} {rs:List Rs},c9 sh rs=true->(ca rs).length=dI sh
 |[],[],_=>rfl
 |(b,ss,ow)::sh,(b',ds,ow')::rs,h=>by
  simp[c9,Bool.and_eq_true]at h
  simp[ca,dI,o7 h.2.1,eL h.2.2]
 |[],_::_,h=>by grind[c9]
 |(_,_,_)::_,[],h=>by grind[c9]
theorem w6:∀{sh:Sh} {rs:List Rs},c9 sh rs=true->(∀x∈sh,x.2.2=true)->∀r∈rs,r.2.2=true
 |[],[],_,_=>by simp
 |(b,ss,ow)::sh,(b',ds,ow')::rs,h,hx=>by
  simp[c9,Bool.and_eq_true,decide_eq_true_eq]at h;intro r hr;rcases List.mem_cons.1 hr with rfl|hr
  ·rw[h.1.2];simp_all
  ·exact w6 h.2.2 (λx hx'=>hx x (List.mem_cons_of_mem _ hx')) r hr
 |[],_::_,h,_=>by grind[c9]
 |(_,_,_)::_,[],h,_=>by grind
def Js(P:Program)(ow:fM)(f:FuncId):Option Sh:=match P.funcs[f]? with|some fn=>some (fn.resultTypes.toList.map λt=>((cm P t).getD false,C0 P 9 t,ow f))|none=>none
def E8(P:Program)(ow:fM)(S:Sy)(d:Option Nat)(f:FuncId)(args:List Operand)(ts:List TypeId):Option (List Nd×Sy):=
 match Js P ow f,rQ (!ow f) P args ts S with
 |some sh,some (p,as0,S1)=>if sh.all (λx=>x.2.2==ow f)&&decide (f<1000000)then some (p.map .po++[.call f as0 sh],(iG ow.dx sh S1.m (S1.bind (dI sh))).2.put d (p8 (iG ow.dx sh S1.m (S1.bind (dI sh))).1))else none
 |_,_=>none
theorem xo{ow:fM}{f:FuncId}{args:Array Operand}{ts:Array TypeId}(ho:o.op=.call ⟨.value (.func f),args,ts⟩)(h:E8 P ow S o.dst f args.toList ts.toList=some (dE,S'))(hd:dB N o.dst=true)(hr:aN S ρ σ s)(hw:WN P dE K ρ):iS P N o s S' K:=by
 unfold E8 at h;split at h
 ·rename_i sh p as0 S1 hsh has;split at h
  ·rename_i hall;rw[Bool.and_eq_true,decide_eq_true_eq]at hall;obtain⟨hall,hf6⟩:=hall;cases h;obtain⟨ρ1,he,hw2⟩:=bN (kU hw);simp only[WN]at hw2;obtain⟨ys,res,w1,w2,w3,w4⟩:=hw2;have w2:=w2.plain hf6;obtain⟨ys',y1,y2,y3,y4⟩:=lJ has he hr;rw[w1]at y1;cases y1;have hlen:=eL w3
   have har:(gj s args.toList ys/\∀r∈res,r.2.2=true)\/gq s args.toList ys:=by
    cases hf:ow f with
    |true=>
     refine .inl ⟨y2 (by rw[hf];rfl),w6 w3 λx hx=>?_⟩;have:=List.all_eq_true.1 hall x hx
     rw[hf]at this;grind
    |false=>grind
   have hb:=y4.bind (out:=ca res) hlen;obtain⟨σ',p1,p2,p3⟩:=jv (m:=S1.m) w3 (eQ y4.m rfl) hb;exact⟨_,σ',_,(PB (s:=s) ow.dx ho w2 har).toO (fU hd),p2.put (sj p3),w4⟩
  grind
 grind
def Fz(s s':AS):Prop:=∀w0 N a w E,aB w0 N s a w E->∃E',aB w0 N s' a w E'
theorem Fz.trans{s1:AS}(h:Fz s s1)(k:Fz s1 s'):Fz s s':=λw0 N a w E hr=>by
 obtain⟨E1,h1⟩:=h w0 N a w E hr;exact k w0 N a w E1 h1
def Mb(S:Sy):SC->Sy
 |.own i st=>(match S.own i st with|some (.row _ _ _ x)=>{S with ob:=(i,.frz st x)::S.ob}|_=>S)
 |_=>S
def UH(S:Sy):Operand->Sy
 |.tmp t=>(match aK S.sl t with|some (.p _ cs)=>cs.foldl Mb S|_=>S)
 |_=>S
def U9(S:Sy)(xs:List Operand):Sy:=xs.foldl UH S
theorem IX{c:SC}{y:AC}(hr:aN S ρ σ s)(hc:RC ρ σ c y):∃s',Fz s s'/\aN (Mb S c) ρ σ s':=by
 cases c<;>first|exact⟨s,λ_ _ _ _ E h=>⟨E,h⟩,hr⟩|skip
 rename_i i st;cases y<;>first|exact hc.elim|skip
 rename_i i' st';obtain⟨rfl,hst⟩:=hc;simp[Mb];split
 ·rename_i a t k x ho;obtain⟨o',k1,k2,k3,k4⟩:=hr.own ho hst;cases o'<;>first|exact k2.elim|skip
  rename_i b ty' kk es' dp;obtain⟨k5,rfl,rfl,rfl,hx⟩:=k2;obtain rfl:=bh k1 rfl
  exact⟨s.frz i' b (.sl ty' kk es'),λw0 N a w E h=>by obtain⟨q1,q2,-⟩:=CR k1 w0 N a w E h;obtain⟨E',h1,-⟩:=xv h k1 q1 q2 rfl;grind,
   hr.upd (s':=s.frz i' b (.sl ty' kk es')) (i:=i') (n':=S.n) (c':=S.c) (so:=.frz st x) (aQ.refl _) hr.c hr.n (Nat.le_refl _) k4 rfl (λj hj=>by simp_all[AS.frz,aE]) (by simp[AS.frz,ae];exact⟨hst,hx⟩)⟩
 ·exact⟨s,λ_ _ _ _ E h=>⟨E,h⟩,hr⟩
theorem JQ:∀{cs:List SC} {ys:List AC} {S:Sy} {s:AS},aN S ρ σ s->cQ ρ σ cs ys->∃s',Fz s s'/\aN (cs.foldl Mb S) ρ σ s'
 |[],_,S,s,hr,_=>⟨s,λ_ _ _ _ E h=>⟨E,h⟩,hr⟩
 |c::cs,[],S,s,hr,hc=>hc.elim
 |c::cs,y::ys,S,s,hr,hc=>by
  obtain⟨s1,f1,r1⟩:=IX hr hc.1;obtain⟨s2,f2,r2⟩:=JQ (cs:=cs) r1 hc.2;exact⟨s2,f1.trans f2,r2⟩
theorem Pb{x:Operand}(hr:aN S ρ σ s):∃s',Fz s s'/\aN (UH S x) ρ σ s':=by
 cases x<;>first|exact⟨s,λ_ _ _ _ E h=>⟨E,h⟩,hr⟩|skip
 rename_i t;simp[UH];split
 ·rename_i b cs hl;have h1:=hr.sl _ _ hl
  cases hx:s.sl t with
  |p b' ys=>
   rw[hx]at h1
   exact JQ hr h1.2
  |tup=>rw[hx]at h1;exact h1.elim
  |und=>rw[hx]at h1;exact h1.elim
 ·exact⟨s,λ_ _ _ _ E h=>⟨E,h⟩,hr⟩
theorem KD:∀{xs:List Operand} {S:Sy} {s:AS},aN S ρ σ s->∃s',Fz s s'/\aN (U9 S xs) ρ σ s'
 |[],S,s,hr=>⟨s,λ_ _ _ _ E h=>⟨E,h⟩,hr⟩
 |x::xs,S,s,hr=>by
  obtain⟨s1,f1,r1⟩:=Pb (x:=x) hr;obtain⟨s2,f2,r2⟩:=KD (xs:=xs) r1;exact⟨s2,f1.trans f2,r2⟩
theorem FX{s1:AS}(h:Fz s s1)(g:iS P N o s1 S' K):iS P N o s S' K:=by
 obtain⟨ρ',σ',s',h1,h2,h3⟩:=g;exact⟨ρ',σ',s',λw0 a w E hr=>by obtain⟨E1,hr1⟩:=h w0 N a w E hr;exact h1 w0 a w E1 hr1,h2,h3⟩
def HS(P:Program)(ow:fM)(S:Sy)(d:Option Nat)(f:FuncId)(args:List Operand)(ts:List TypeId):Option (List Nd×Sy):=
 E8 P ow (if ow f then S else U9 S args) d f args ts
theorem Hc{ow:fM}{f:FuncId}{args:Array Operand}{ts:Array TypeId}(ho:o.op=.call ⟨.value (.func f),args,ts⟩)(h:HS P ow S o.dst f args.toList ts.toList=some (dE,S'))(hd:dB N o.dst=true)(hr:aN S ρ σ s)(hw:WN P dE K ρ):iS P N o s S' K:=by
 unfold HS at h
 cases hf:ow f with
 |true=>
  rw[hf,if_pos rfl]at h
  grind[xo]
 |false=>
  rw[hf,if_neg (by decide)]at h;obtain⟨s1,f1,r1⟩:=KD (xs:=args.toList) hr
  grind[FX,xo]
def Eu(P:Program)(ow:fM)(S:Sy)(d:Option Nat)(f:FuncId)(args:List Operand)(ts:List TypeId):Option (List Nd×Sy):=none
theorem EQ{ow:fM}{f:Nat}{args:Array Operand}{ts:Array TypeId}(ho:o.op=.call ⟨.value (.func f),args,ts⟩)(h:Eu P ow S o.dst f args.toList ts.toList=some (dE,S'))(hd:dB N o.dst=true)(hr:aN S ρ σ s)(hw:WN P dE K ρ):iS P N o s S' K:=by
 unfold Eu at h;cases h
theorem xh{b ow:Bool}{d:DV}:∀{rs:List Rs},ca (rs++[(b,[d],ow)])=ca rs++[d]
 |[]=>rfl
 |(_,ds,_)::rs=>by simp[List.cons_append,ca,xh (rs:=rs),List.append_assoc]
theorem z9{q:Bool×List (Option (Nat×Nat))×Bool}:∀{sh:Sh} {R:List Rs},c9 (sh++[q]) R=true->∃rs r,R=rs++[r]/\c9 sh rs=true/\c9 [q] [r]=true
 |[],[],h=>by grind[c9]
 |[],[r],h=>⟨[],r,rfl,rfl,h⟩
 |[],r::r'::R,h=>by
  grind[c9]
 |x::sh,[],h=>by grind[c9]
 |(a,b,c)::sh,(a',b',c')::R,h=>by
  simp[List.cons_append,c9,Bool.and_eq_true]at h;obtain⟨rs,r,rfl,h1,h2⟩:=z9 h.2.2
  grind[c9]
def xF(P:Program)(ow:fM)(S:Sy)(d:Option Nat)(f:FuncId)(args:List Operand)(ts:List TypeId):Option (List Nd×Sy):=
 match args with
 |.tmp x::xs=>(match aK S.sl x with
  |some (.p false [.own i st])=>(match S.own i st with
   |some (.cur _ id t z)=>(match Js P ow f,rQ false P xs ts.tail {S with ob:=(i,.dead)::S.ob}with
    |some sh,some (p,as0,S1)=>if sh.all (λx=>x.2.2)&&decide (P.funcs.size<=1000000/\f<1000000)then
     some (p.map .po++[.call (2000000+f) ((false,[z])::as0) (sh++[(false,[some (t,0)],true)])],
      (iG ow.dx sh S1.m { (S1.bind (dI sh+1))with ob:=(i,.cur st id t (S1.m+dI sh))::S1.ob}).2.put d (p8 (iG ow.dx sh S1.m { (S1.bind (dI sh+1))with ob:=(i,.cur st id t (S1.m+dI sh))::S1.ob}).1))else none
    |_,_=>none)
   |_=>none)
  |_=>none)
 |_=>none
def OW:List Operand->Option Nat
 |.tmp x::_=>some x
 |_=>none
theorem vo{ow:fM}{f:Nat}{args:Array Operand}{ts:Array TypeId}(ho:o.op=.call ⟨.value (.func f),args,ts⟩)(h:xF P ow S o.dst f args.toList ts.toList=some (dE,S'))(hd:dB N o.dst=true)(hr:aN S ρ σ s)(hw:WN P dE K ρ):∃x,OW args.toList=some x/\∃ρ' σ' s',kZ P N o s s' (some x)/\aN S' ρ' σ' s'/\K ρ':=by
 unfold xF at h;split at h
 ·rename_i x xs hargs;split at h
  ·rename_i i st hx;split at h
   ·rename_i a0 id t z hown;split at h
    ·rename_i sh p as0 S1 hsh has;split at h
     ·rename_i hall;rw[Bool.and_eq_true,decide_eq_true_eq]at hall;obtain⟨hall,hsz,hf6⟩:=hall;have hf6:f<1000000:=hf6;injection h with h;injection h with e1 e2;subst e1 e2;obtain⟨ρ1,he,hw2⟩:=bN (kU hw);simp only[WN]at hw2;obtain⟨ys,res,w1,w2,w3,w4⟩:=hw2;have hv:=hr.sl _ _ hx
      cases hsx:s.sl x with
      |tup=>rw[hsx]at hv;exact hv.elim
      |und=>rw[hsx]at hv;exact hv.elim
      |p b cs=>
       rw[hsx]at hv;obtain⟨rfl,hv⟩:=hv
       match cs,hv with
       |[c],hv=>
        cases c<;>first|exact hv.1.elim|skip
        rename_i i' st';obtain⟨⟨rfl,hst⟩,-⟩:=hv;obtain⟨o',k1,k2,k3,k4⟩:=hr.own hown hst;cases o'<;>first|exact k2.elim|skip
        rename_i b id' ty' x0 cs0;obtain⟨k5,rfl,rfl,hz⟩:=k2;obtain rfl:=bh k1 rfl
        have hrk:aN {S with ob:=(i',.dead)::S.ob} ρ σ (s.kill i'):=
         hr.upd (s':=s.kill i') (i:=i') (n':=S.n) (c':=S.c) (so:=.dead) (aQ.refl _) hr.c hr.n (Nat.le_refl _) k4 rfl (λj hj=>by simp_all[AS.kill,aE]) trivial
        obtain⟨zs,y1,y2,y3,y4⟩:=lJ has he hrk;have hpre:=ao he;simp only[dc,gL,hpre.get hz,y1]at w1;injection w1 with w1;obtain⟨rs,r,er,s1,s2⟩:=z9 w3
        have hm:∃cs',r=(false,[iP ty' x0 cs'],true)/\cG P f ty' x0 cs0 zs rs cs':=by
         generalize hf:2000000+f=f' at w2
         cases w2 with
         |n h=>
          have hc:=h.1;rw[<-hf]at hc;unfold a9 at hc;rw[Array.getElem?_eq_none (Nat.le_trans hsz (by omega))]at hc
          cases hc
         |p h=>
          have hc:=h.1
          grind[a9,Array.getElem?_eq_none,Nat.le_trans]
         |c h=>
          have e:=Nat.add_left_cancel hf;injection w1 with w1 w2;injection w1 with _ w1;injection w1 with w1 _;unfold iP at w1
          grind[List.append_inj']
         |w h=>omega
         |g _ h=>omega
         |v _ h=>omega
        obtain⟨cs',er',hm⟩:=hm;subst er';subst er;have hlen:=eL s1;rw[xh]at w4;have hb:=y4.bind (out:=ca rs++[iP ty' x0 cs']) (k:=dI sh+1) (by grind)
        have hu:=hb.upd (s':={s with ob:=upd s.ob i' (.cur b id' ty' x0 cs')}) (i:=i') (n':=S1.n) (c':=S1.c) (so:=.cur st id' ty' (S1.m+dI sh)) (aQ.refl _) y4.c (by rw[<-y4.n];rfl) (Nat.le_refl _) (by have h1:=y4.n;have h2:=hr.n;have:(s.kill i').n=s.n:=rfl;omega) rfl (λj hj=>by simp_all[AS.kill,aE]) (by
         simp only[ae]
         exact⟨hst,rfl,rfl,by rw[<-y4.m,<-hlen];simp⟩)
        rw[<-List.append_assoc]at hu w4;obtain⟨σ',p1,p2,p3⟩:=jv (X:=ow.dx) (m:=S1.m) s1 (RD.mono (aQ.app (ρ1++ca rs) [iP ty' x0 cs']) (eQ y4.m rfl)) hu;refine⟨x,by rw[hargs];rfl,_,σ',_,H5 ho hargs hd hm ?_ k1 (y2 rfl),p2.put (sj p3),w4⟩
        assumption
     grind
    grind
   grind
  grind
 grind
theorem Fe{ow:fM}{f:Nat}{args:Array Operand}{ts:Array TypeId}(ho:o.op=.call ⟨.value (.func f),args,ts⟩)(h:xF P ow S o.dst f args.toList ts.toList=some (dE,S'))(hd:dB N o.dst=true)(hr:aN S ρ σ s)(hw:WN P dE K ρ):iS P N o s S' K:=
 let⟨_,_,ρ',σ',s',h1,h2⟩:=vo ho h hd hr hw
 ⟨ρ',σ',s',h1.step,h2⟩
def EV(P:Program)(ow:fM)(S:Sy)(d:Option Nat)(f t:Nat)(args:List Operand)(ts:List TypeId):Option (List Nd×Sy):=
 match rQ true P args ts S with
 |some (p,as0,S1)=>if decide (P.funcs.size<=1000000/\f<1000000)then
  some (p.map .po++[.call (3000000+f) as0 [(false,[some (t,0)],true)]],((S1.bind 1).push (.cur S1.c false t S1.m)).put d (.p false [.own S1.n S1.c]))else none
 |none=>none
theorem EL{ow:fM}{f:Nat}{t:Nat}{args:Array Operand}{ts:Array TypeId}(ho:o.op=.call ⟨.value (.func f),args,ts⟩)(h:EV P ow S o.dst f t args.toList ts.toList=some (dE,S'))(hd:dB N o.dst=true)(hr:aN S ρ σ s)(hw:WN P dE K ρ):iS P N o s S' K:=by
 unfold EV at h;split at h
 ·rename_i p as0 S1 has;split at h
  ·rename_i hall;rw[decide_eq_true_eq]at hall;obtain⟨hsz,hf6⟩:=hall;have hf6:f<1000000:=hf6;cases h;obtain⟨ρ1,he,hw2⟩:=bN (kU hw);simp only[WN]at hw2;obtain⟨ys,res,w1,w2,w3,w4⟩:=hw2;obtain⟨zs,y1,y2,y3,y4⟩:=lJ has he hr;rw[w1]at y1;cases y1
   have hm:∃x cs',res=[(false,[iP t x cs'],true)]/\oM P f ys t x cs':=by
    generalize hf:3000000+f=f' at w2
    cases w2 with
    |n h=>
     have hc:=h.1;rw[<-hf]at hc;unfold a9 at hc;rw[Array.getElem?_eq_none (Nat.le_trans hsz (by omega))]at hc
     cases hc
    |p h=>
     have hc:=h.1
     grind[a9,Array.getElem?_eq_none,Nat.le_trans]
    |c h=>
     have hc:=h.1
     grind[a9,Array.getElem?_eq_none,Nat.le_trans]
    |w h=>
     have e:=Nat.add_left_cancel hf;rename_i t' x cs'
     have ht:t'=t:=by
      grind[c9,zN,iP]
     grind
    |g _ h=>omega
    |v _ h=>omega
   obtain⟨x,cs',rfl,hm⟩:=hm;have hb:=y4.bind (out:=[iP t x cs']) (k:=1) rfl;have hp:=hb.push (so:=.cur S1.c false t S1.m) (ob:=.cur s.c false t x cs') ⟨hb.last _,rfl,rfl,by rw[<-y4.m];simp⟩;exact⟨_,_,_,IU ho hd hm (y3 rfl),hp.put ⟨rfl,⟨hb.n,hb.last _⟩,trivial⟩,w4⟩
  grind
 grind
def Sy.del(S:Sy)(d:Option Nat):Sy:=match d with|some t=>{S with sl:=S.sl.filter λp=>!(p.1==t)}|none=>S
theorem mq{α:Type}{t t':Nat}:∀{l:List (Nat×α)} {x:α},aK (l.filter λp=>!(p.1==t)) t'=some x->t'≠t/\aK l t'=some x
 |[],x,h=>by grind[aK]
 |(j,y)::r,x,h=>by
  by_cases e:j=t
  ·subst e;simp[List.filter_cons,beq_self_eq_true,Bool.not_true,Bool.false_eq_true,if_false]at h;obtain⟨h1,h2⟩:=mq h
   grind[aK]
  ·have hb:(!(j==t))=true:=by simp[e]
   simp[List.filter_cons,hb,if_true,aK]at h ⊢;split at h
   ·grind
   ·rename_i e2;rw[if_neg e2];exact mq h
theorem aN.del(hr:aN S ρ σ s){d:Option Nat}{x:AV}:aN (S.del d) ρ σ (s.put d x):=by
 cases d with
 |none=>exact hr
 |some t=>
  refine⟨hr.n,hr.c,hr.m,λt' v hv=>?_,hr.ob,hr.kn⟩;obtain⟨h1,h2⟩:=mq hv;simp[AS.put];rw[aE _ _ h1];exact hr.sl t' v h2
def ku:List SC->List (Option (Nat×Nat))->Sy->Option (List PO×List Nat×Sy)
 |[],_,S=>some ([],[],S)
 |.d i::cs,ty,S=>(match ku cs ty.tail S with|some (p,xs,S')=>some (.sc i::p,i::xs,S')|none=>none)
 |.nil::cs,ty,S=>(match ty.headD none with
  |some (t,k)=>if 0<k then(match ku cs ty.tail (S.bind 1)with|some (p,xs,S')=>some (.e t k::p,S.m::xs,S')|none=>none)else none
  |none=>none)
 |.own i st::cs,ty,S=>(match S.own i st with
  |some (.row _ _ _ x)=>(match ku cs ty.tail {S with ob:=(i,.dead)::S.ob}with|some (p,xs,S')=>some (p,x::xs,S')|none=>none)
  |_=>none)
 |_::_,_,_=>none
theorem rY:∀{cs:List SC} {ty:List (Option (Nat×Nat))} {S S':Sy} {ps:List PO} {xs:List Nat} {ρ ρ':List DV} {s:AS} {ys:List AC},ku cs ty S=some (ps,xs,S')->ax ps ρ=some ρ'->aN S ρ σ s->cQ ρ σ cs ys->
 ∃s' ds,rC s s' ys ds/\RD ρ' xs ds/\aN S' ρ' σ s'
 |[],ty,S,S',ps,xs,ρ,ρ',s,ys,h,he,hr,hc=>by
  simp only[ku]at h;injection h with h;injection h with e1 h;injection h with e2 e3;subst e1 e2 e3;simp only[ax]at he;cases he
  cases ys with
  |nil=>exact⟨s,[],JE,trivial,hr⟩
  |cons=>exact hc.elim
 |c::cs,ty,S,S',ps,xs,ρ,ρ',s,[],h,he,hr,hc=>hc.elim
 |.d i::cs,ty,S,S',ps,xs,ρ,ρ',s,y::ys,h,he,hr,hc=>by
  simp[ku]at h;split at h
  ·rename_i p xs' S1 hg;injection h with h;injection h with e1 h;injection h with e2 e3;subst e1 e2 e3;obtain⟨x,rfl,hx⟩:=pG hc.1;simp[ax,aA,hx]at he;split at he
   ·rename_i out ho;split at ho
    ·rename_i hsc;cases ho;rw[List.append_nil]at he;obtain⟨u,rfl⟩:=td hsc;obtain⟨s',ds,g1,g2,g3⟩:=rY hg he hr hc.2;exact⟨s',.sc u::ds,Ly g1,⟨(ao he).get hx,g2⟩,g3⟩
    grind
   grind
  grind
 |.nil::cs,ty,S,S',ps,xs,ρ,ρ',s,y::ys,h,he,hr,hc=>by
  simp[ku]at h;cases y<;>first|exact hc.1.elim|skip
  split at h
  ·rename_i t k ht;split at h
   ·rename_i hk;split at h
    ·rename_i p xs' S1 hg;injection h with h;injection h with e1 h;injection h with e2 e3;subst e1 e2 e3;simp[ax,aA]at he;obtain⟨s',ds,g1,g2,g3⟩:=rY hg he (hr.bind rfl) (cQ.mono (aQ.app _ _) (aQ.refl _) hc.2);exact⟨s',.sl t k []::ds,GD hk g1,⟨(ao he).get (by simp[<-hr.m]),g2⟩,g3⟩
    grind
   grind
  grind
 |.own i st::cs,ty,S,S',ps,xs,ρ,ρ',s,y::ys,h,he,hr,hc=>by
  simp[ku]at h;cases y<;>first|exact hc.1.elim|skip
  rename_i i' st';obtain⟨⟨rfl,hst⟩,hc2⟩:=hc;split at h
  ·rename_i a t k x ho;split at h
   ·rename_i p xs' S1 hg;injection h with h;injection h with e1 h;injection h with e2 e3;subst e1 e2 e3;obtain⟨o',k1,k2,k3,k4⟩:=hr.own ho hst;cases o'<;>first|exact k2.elim|skip
    rename_i b ty' kk es' dp;obtain⟨k5,rfl,rfl,rfl,hx⟩:=k2
    have hb:b=st':=by
     obtain⟨-,q2,q3⟩:=am k1;rw[<-k3]at q2
     grind[AS.lv,Ob.st]
    subst hb
    have hr2:aN {S with ob:=(i',SO.dead)::S.ob} ρ σ (s.kill i'):=
     hr.upd (s':=s.kill i') (i:=i') (n':=S.n) (c':=S.c) (so:=.dead) (aQ.refl _) hr.c hr.n (Nat.le_refl _) k4 rfl (λj hj=>by simp_all[AS.kill,aE]) trivial
    obtain⟨s',ds,g1,g2,g3⟩:=rY hg he hr2 hc2;exact⟨s',.sl ty' kk es'::ds,Iy k1 g1,⟨(ao he).get hx,g2⟩,g3⟩
   grind
  grind
 |.ptr _ _ _::cs,ty,S,S',ps,xs,ρ,ρ',s,y::ys,h,he,hr,hc=>by grind[ku]
 |.elt _ _ _ _ _::cs,ty,S,S',ps,xs,ρ,ρ',s,y::ys,h,he,hr,hc=>by grind[ku]
 |.sub _ _ _ _ _::cs,ty,S,S',ps,xs,ρ,ρ',s,y::ys,h,he,hr,hc=>by grind[ku]
 |.emp::cs,ty,S,S',ps,xs,ρ,ρ',s,y::ys,h,he,hr,hc=>by grind[ku]
 |.rd _::cs,ty,S,S',ps,xs,ρ,ρ',s,y::ys,h,he,hr,hc=>by grind[ku]
def MC(P:Program):List Bool->List Operand->List TypeId->Sy->Option (List PO×List (Bool×List Nat)×Sy)
 |true::g,x::xs,ts,S=>(match x with
  |.tmp t=>(match aK S.sl t with
   |some (.p b cs)=>(match ku cs (C0 P 9 (ts.headD 0)) S with
    |some (q,is,S1)=>(match MC P g xs ts.tail S1 with|some (r,as0,S2)=>some (q++r,(b,is)::as0,S2)|none=>none)
    |none=>none)
   |_=>none)
  |_=>none)
 |false::g,x::xs,ts,S=>(match MC P g xs ts.tail S with
  |some (r,as0,S1)=>(match ld S1 x with
   |some (p,.p b cs,S2)=>(match wO false cs (C0 P 9 (ts.headD 0)) S2 with
    |some (q,is,S3)=>some (r++(p++q),(b,is)::as0,S3)
    |none=>none)
   |_=>none)
  |none=>none)
 |[],[],_,S=>some ([],[],S)
 |_,_,_,_=>none
theorem Lm(hp:aQ ρ ρ'):∀{is:List Nat} {xs:List DV},gL ρ is=some xs->gL ρ' is=some xs
 |[],xs,h=>h
 |i::is,xs,h=>by
  simp[gL]at h ⊢;split at h
  ·rename_i x ys h1 h2;rw[hp.get h1,Lm hp h2];exact h
  grind
theorem AH(hp:aQ ρ ρ'):∀{as0:List (Bool×List Nat)} {ys:List (Bool×List DV)},dc ρ as0=some ys->dc ρ' as0=some ys
 |[],ys,h=>h
 |(b,is)::r,ys,h=>by
  simp[dc]at h ⊢;split at h
  ·rename_i x xs h1 h2;rw[Lm hp h1,AH hp h2];exact h
  grind
theorem Ee{s0:AS}:∀{g:List Bool} {xs:List Operand} {ts:List TypeId} {S S':Sy} {ps:List PO} {as0:List (Bool×List Nat)} {ρ ρ':List DV} {s:AS},MC P g xs ts S=some (ps,as0,S')->ax ps ρ=some ρ'->aN S ρ σ s->s.sl=s0.sl->
 ∃sF ys,dc ρ' as0=some ys/\tx s0 sF xs (Fh g ys) s/\aN S' ρ' σ sF/\sF.sl=s0.sl/\ys.length=xs.length
 |[],[],ts,S,S',ps,as0,ρ,ρ',s,h,he,hr,hs=>by
  simp only[MC]at h;cases h;simp only[ax]at he;cases he
  exact⟨s,[],rfl,rfl,hr,hs,rfl⟩
 |[],_::_,ts,S,S',ps,as0,ρ,ρ',s,h,_,_,_=>by grind[MC]
 |b::_,[],ts,S,S',ps,as0,ρ,ρ',s,h,_,_,_=>by cases b<;>simp[MC]at h
 |true::g,x::xs,ts,S,S',ps,as0,ρ,ρ',s,h,he,hr,hs=>by
  simp[MC]at h;split at h
  ·rename_i t;split at h
   ·rename_i b cs hl;split at h
    ·rename_i q is S1 hq;split at h
     ·rename_i r as' S2 hr';cases h;obtain⟨ρ1,a1,a2⟩:=ak he;have h1:=hr.sl _ _ hl
      cases hx:s.sl t with
      |p b' ys0=>
       rw[hx]at h1;obtain⟨rfl,hc⟩:=h1;obtain⟨s1,ds,g1,g2,g3⟩:=rY hq a1 hr hc;obtain⟨sF,ys,k1,k2,k3,k4,k5⟩:=Ee hr' a2 g3 (g1.2.2.1.trans hs);refine⟨sF,(b',ds)::ys,by simp[dc,g2.app_pre (ao a2),k1],?_,k3,k4,by grind⟩;simp[Fh,tx,AS.ev,<-hs,hx]
       grind
      |tup=>rw[hx]at h1;exact h1.elim
      |und=>rw[hx]at h1;exact h1.elim
     grind
    grind
   grind
  grind
 |false::g,x::xs,ts,S,S',ps,as0,ρ,ρ',s,h,he,hr,hs=>by
  simp[MC]at h;split at h
  ·rename_i r as' S1 hr';split at h
   ·rename_i p b cs S2 hv;split at h
    ·rename_i q is S3 hq;cases h;obtain⟨ρ1,a1,a2⟩:=ak he;obtain⟨ρ2,b1,b2⟩:=ak a2;obtain⟨sF,ys,k1,k2,k3,k4,k5⟩:=Ee hr' a1 hr hs;obtain⟨m1,m2⟩:=aS hv b1 k3
     cases hx:sF.ev x with
     |p b' ys0=>
      rw[hx]at m1;obtain⟨rfl,hc⟩:=m1;obtain⟨ds,g1,g2,g3,g4⟩:=jL hq b2 m2 hc
      have hx0:s0.ev x=.p b' ys0:=by
       rw[<-hx];cases x<;>simp[AS.ev,k4]
      refine⟨sF,(b',ds)::ys,by simp[dc,vl g1,AH (ao a2) k1],?_,g4,k4,by grind⟩;simp[Fh,tx,hx0]
      grind
     |tup=>rw[hx]at m1;exact m1.elim
     |und=>rw[hx]at m1;exact m1.elim
    grind
   grind
  grind
def Fa(P:Program)(ow:fM)(S:Sy)(d:Option Nat)(f:Nat)(bits:Nat)(args:List Operand)(ts:List TypeId):Option (List Nd×Sy):=
 match Js P ow f,MC P (za args.length bits) args ts S with
 |some sh,some (p,as0,S1)=>if decide (P.funcs.size<=1000000/\f<1000000/\bits<1000)then some (p.map .po++[.call ((4+bits)*1000000+f) as0 sh],(iG false sh S1.m (S1.bind (dI sh))).2.put d (p8 (iG false sh S1.m (S1.bind (dI sh))).1))else none
 |_,_=>none
theorem Eb{ow:fM}{f bits:Nat}{args:Array Operand}{ts:Array TypeId}(ho:o.op=.call ⟨.value (.func f),args,ts⟩)(h:Fa P ow S o.dst f bits args.toList ts.toList=some (dE,S'))(hd:dB N o.dst=true)(hr:aN S ρ σ s)(hw:WN P dE K ρ):iS P N o s S' K:=by
 unfold Fa at h;split at h
 ·rename_i sh p as0 S1 hsh has;split at h
  ·rename_i hall;rw[decide_eq_true_eq]at hall;obtain⟨hsz,hf6,hb6⟩:=hall;have hf6:f<1000000:=hf6;injection h with h;injection h with e1 e2;subst e1 e2;obtain⟨ρ1,he,hw2⟩:=bN (kU hw);simp only[WN]at hw2;obtain⟨ys,res,w1,w2,w3,w4⟩:=hw2;have hlen:=eL w3;obtain⟨sF,ys',y1,y2,y3,y4,y5⟩:=Ee (s0:=s) has he hr rfl;rw[w1]at y1;injection y1 with y1;subst y1
   have hm:fI P f (Fh (za args.toList.length bits) ys) res:=by
    rw[<-y5];generalize hf:(4+bits)*1000000+f=f' at w2
    cases w2 with
    |n h=>
     have hc:=h.1;rw[<-hf]at hc;unfold a9 at hc;rw[Array.getElem?_eq_none (Nat.le_trans hsz (by omega))]at hc
     cases hc
    |p h=>
     have hc:=h.1;unfold a9 at hc;rw[Array.getElem?_eq_none (Nat.le_trans hsz (by omega))]at hc
     cases hc
    |c h=>
     have hc:=h.1;unfold a9 at hc;rw[Array.getElem?_eq_none (Nat.le_trans hsz (by omega))]at hc
     cases hc
    |w h=>
     have hc:=h.1;unfold a9 at hc;rw[Array.getElem?_eq_none (Nat.le_trans hsz (by omega))]at hc
     cases hc
    |@g f2 bits2 ys res _ h=>
     rcases Nat.lt_or_ge f2 1000000 with hf2|hf2
     ·have e1:f=f2:=by omega
      have e2:bits=bits2:=by omega
      rw[e1,e2];exact h
     ·have hc:=h.1;unfold a9 at hc;rw[Array.getElem?_eq_none (Nat.le_trans hsz (by omega))]at hc
      cases hc
    |v _ h=>
     have hc:=h.1;unfold a9 at hc;rw[Array.getElem?_eq_none (Nat.le_trans hsz (by omega))]at hc;cases hc
   have hb:=y3.bind (out:=ca res) hlen;obtain⟨σ',p1,p2,p3⟩:=jv (X:=false) (m:=S1.m) w3 (eQ y3.m rfl) hb;exact⟨_,σ',_,IQ ho hd hm y2,p2.put (sj p3),w4⟩
  ·cases h
 ·cases h
end
end Go.Proofs.Ytgdbmcoamemmaaa
namespace Go.Proofs.Ytgdbmcoamemmaaa
open Go.RowKit
section
variable {P:Program}{N:Nat}{ρ ρ':List DV}{σ σ':List Nat}{S S':Sy}{s s':AS}{ps:List PO}{v:SV}{o:Oper}{K:List DV->Prop}{dE:List Nd}
def KL(P:Program)(S:Sy)(el k:Nat):SC->Option (List PO×Nat×Sy)
 |.d y=>some ([],y,S)
 |.nil=>some ([.e el k],S.m,S.bind 1)
 |.emp=>some ([.e el k],S.m,S.bind 1)
 |.own j st=>(match S.ownR j st with
  |some (.row _ _ _ y)=>some ([],y,S)
  |some (.frz _ y)=>some ([],y,S)
  |some (.arr _ t k0 es)=>if k0=k then(match wO true es.flatten (List.replicate es.length (C0 P 9 t)).flatten S with
   |some (p,xs,S1)=>if xs.length=es.length*k then some (p++[.mk t k (zV k es.length xs)],S1.m,S1.bind 1)else none
   |none=>none)else none
  |_=>none)
 |.sub j st k0 z m=>(match S.ownR j st with
  |some (.row _ _ k2 x)=>if k2=k0 then some ([.viewD x z m],S.m,S.bind 1)else none
  |_=>none)
 |_=>none
theorem I2{i st t k:Nat}{es:List (List AC)}{news:List (List DV)}(hi:s.own? i st=some (.arr st t k es))(hl:es.length=news.length)(hu:∀e∈news,e.length=k)(hf:DK s es.flatten news.flatten):AU s k (.own i st) news:=by
 intro w0 N a w E v h hc;obtain⟨hin,hob,hlv⟩:=am hi;obtain rfl:v=E.v i:=hc.2 hlv;have hO:=h.obj i hin;rw[hob]at hO;obtain⟨g,vals,_,e1,em,eo,hge,hmx,hB,hk,hun,hcs⟩:=hO;refine⟨some ⟨g,0,none⟩,es.length,vals,λ_=>True,by rw[e1,hl],⟨by rw[<-hcs.1,fg hun,hl],by omega,hmx,λ_=>⟨_,rfl,trivial,λq u hq=>?_⟩⟩,FW h hcs hf,hu⟩;rw[yf,hB.cell];grind
theorem CX{F:Bool}:∀{cs:List SC} {ty:List (Option (Nat×Nat))} {S S':Sy} {ps:List PO} {xs:List Nat},wO F cs ty S=some (ps,xs,S')->S'.ob=S.ob/\S'.n=S.n/\S'.c=S.c
 |[],ty,S,S',ps,xs,h=>by grind[wO]
 |c::cs,ty,S,S',ps,xs,h=>by
  cases c<;>simp[wO]at h<;>(try cases h)
  all_goals repeat' split at h
  all_goals first
   |(cases h;done)
   |(rename_i h1;cases h;have h2:=CX h1;exact h2)
theorem Ku{el k y t':Nat}{c:SC}{yc:AC}{es:List (List DV)}(h:KL P S el k c=some (ps,y,S'))(he:ax ps ρ=some ρ')(hr:aN S ρ σ s)(hc:RC ρ σ c yc)(hy:ρ'[y]? =some (.sl t' k es)):
 AU s k yc es/\aN S' ρ' σ s/\S'.ob=S.ob/\S'.n=S.n/\S'.c=S.c:=by
 unfold KL at h;split at h
 ·cases h;simp[ax]at he;cases he;obtain⟨x,rfl,hx⟩:=pG hc;rw[hy]at hx;grind[OS]
 ·cases h;cases yc<;>first|exact hc.elim|skip
  obtain⟨out,o1,rfl⟩:=az he;simp[aA]at o1;cases o1;rw[<-hr.m]at hy;simp at hy;obtain⟨rfl,rfl⟩:=hy;exact⟨zS (.inl rfl),hr.bind rfl,rfl,rfl,rfl⟩
 ·cases h;cases yc<;>first|exact hc.elim|skip
  obtain⟨out,o1,rfl⟩:=az he;simp[aA]at o1;cases o1;rw[<-hr.m]at hy;simp at hy;obtain⟨rfl,rfl⟩:=hy;exact⟨zS (.inr rfl),hr.bind rfl,rfl,rfl,rfl⟩
 ·rename_i j st;cases yc<;>first|exact hc.elim|skip
  rename_i j' st';obtain⟨rfl,hst⟩:=hc;split at h
  ·rename_i a tt kk y' ho;cases h;simp[ax]at he;cases he;obtain⟨o',n1,n2,n3,n4⟩:=hr.ownR ho hst;cases o'<;>first|exact n2.elim|skip
   rename_i b ty kr es' dp;obtain⟨n5,rfl,rfl,-,n6⟩:=n2;obtain rfl:=bh n1 rfl;rw[n6]at hy;grind[KE]
  ·rename_i a y' ho;cases h;simp[ax]at he;cases he;obtain⟨o',n1,n2,n3,n4⟩:=hr.ownR ho hst;cases o'<;>first|exact n2.elim|skip
   rename_i b yy;obtain⟨n5,n6⟩:=n2;obtain rfl:=bh n1 rfl;rw[n6]at hy;grind[K9]
  ·rename_i a tt k0 es0 ho;split at h
   ·rename_i hk;subst hk;split at h
    ·rename_i p xs S1 hrd;split at h
     ·rename_i hlen;cases h;obtain⟨ρ1,a1,a2⟩:=ak he;obtain⟨o',n1,n2,n3,n4⟩:=hr.ownR ho hst;cases o'<;>first|exact n2.elim|skip
      rename_i b ty kr es';obtain⟨n5,rfl,rfl,n6⟩:=n2;obtain rfl:=bh n1 rfl;obtain⟨ds,d1,-,d3,d4⟩:=jL hrd a1 hr n6.flat;obtain⟨rows,r1,r2,r3,r4⟩:=tz (n:=es0.length) d1 hlen;obtain⟨out,o1,rfl⟩:=az a2;rw[Bx r1 r4]at o1;cases o1;have hy':=hy;rw[<-d4.m]at hy';simp at hy';obtain⟨rfl,rfl⟩:=hy';obtain⟨q1,q2,q3⟩:S1.ob=S.ob/\S1.n=S.n/\S1.c=S.c:=CX hrd;exact⟨I2 n1 (by rw[r3];grind[BM.len]) r4 (by rw[r2];grind),d4.bind rfl,q1,q2,q3⟩
     grind
    grind
   grind
  grind
 ·rename_i j st k0 z m;split at h
  ·rename_i a tt k2 x ho;split at h
   ·rename_i hk;subst hk;cases h;obtain⟨t,kk,es0,u,v,h1,h2,h3,rfl⟩:=vg he;have hy':=hy;rw[<-hr.m]at hy';simp at hy';obtain⟨rfl,rfl,rfl⟩:=hy';cases yc<;>first|exact hc.elim|skip
    rename_i j' st' k' lo n;obtain⟨rfl,hst,rfl,⟨u',e1,e2,rfl⟩,⟨v',e3,e4,rfl⟩⟩:=hc;rw[h2]at e1;cases e1;rw[h3]at e3;cases e3;obtain⟨o',n1,n2,n3,n4⟩:=hr.ownR ho hst;cases o'<;>first|exact n2.elim|skip
    rename_i b ty kr es' dp;obtain⟨n5,rfl,rfl,-,n6⟩:=n2;obtain rfl:=bh n1 rfl;rw[h1]at n6;cases n6;exact⟨K5 n1,hr.bind rfl,rfl,rfl,rfl⟩
   grind
  grind
 grind
def Iq(P:Program)(S:Sy)(d:Option Nat)(X Y:Operand)(t:TypeId):Option (List Nd×Sy):=none
def Vs(P:Program)(S:Sy)(X Y:Operand)(t:TypeId):Bool:=match fL P t with
 |some (el,_)=>!(KS P el)&&((match X with
  |.tmp x=>(match aK S.sl x with
   |some (.p false [.own i st])=>(match S.own i st with|some (.shr _ _ _ _)=>true|_=>false)
   |some (.p false [.sub i st _ _ _])=>(match S.own i st with|some (.shr _ _ _ _)=>true|_=>false)
   |_=>false)
  |_=>false)||(match Y with
  |.tmp y=>(match aK S.sl y with
   |some (.p false [.d _])=>true
   |some (.p false [.sub _ _ _ _ _])=>true
   |some (.p false [.own i st])=>(match S.own i st with|some (.row _ _ _ _)=>false|some (.dx _ _)=>false|_=>true)
   |_=>false)
  |_=>false))
 |none=>false
theorem GI{X Y:Operand}{t:TypeId}(ho:o.op=.call ⟨.builtin .append,#[X,Y],#[t,t]⟩)(h:Iq P S o.dst X Y t=some (dE,S'))(hd:dB N o.dst=true)(hr:aN S ρ σ s)(hw:WN P dE K ρ):iS P N o s S' K:=by
 unfold Iq at h;cases h
def OQ(pv:Bool)(st:Nat)(T:TypeId)(cs:List SC):SO:=if pv then .pvr st T cs else .var st T cs
def sV(S:Sy)(i st:Nat):Option (Bool×TypeId×List SC):=match S.own i st with
 |some (.var _ T cs)=>some (false,T,cs)
 |some (.pvr _ T cs)=>some (true,T,cs)
 |_=>none
theorem Eo{pv:Bool}{st st':Nat}{T:TypeId}{cs:List SC}{acs:List AC}(h1:σ[st]? =some st')(h2:cQ ρ σ cs acs):RO ρ σ (OQ pv st T cs) (D3 pv st' T acs):=by
 cases pv
 ·exact⟨h1,rfl,h2⟩
 ·exact⟨h1,rfl,h2⟩
theorem Gi{i st st':Nat}{pv:Bool}{T:TypeId}{cs:List SC}(h:sV S i st=some (pv,T,cs))(hr:aN S ρ σ s)(hs:σ[st]? =some st'):∃acs,s.own? i st'=some (D3 pv st' T acs)/\cQ ρ σ cs acs/\i<S.n:=by
 unfold sV at h;split at h
 ·rename_i a T' cs' ho;cases h;obtain⟨o',k1,k2,k3,k4⟩:=hr.own ho hs;cases o'<;>first|exact k2.elim|skip
  obtain⟨k5,rfl,k6⟩:=k2;obtain rfl:=bh k1 rfl;exact⟨_,k1,k6,k4⟩
 ·rename_i a T' cs' ho;cases h;obtain⟨o',k1,k2,k3,k4⟩:=hr.own ho hs;cases o'<;>first|exact k2.elim|skip
  obtain⟨k5,rfl,k6⟩:=k2;obtain rfl:=bh k1 rfl;exact⟨_,k1,k6,k4⟩
 grind
def Gu(i st:Nat)(pv:Bool)(T:TypeId)(cs:List SC)(j:Nat)(S:Sy):Option (List PO×List SC×Sy):=match cs[j]? with
 |some (.sub r sr k z m)=>(match S.ownR r sr with
  |some (.row _ t k' x)=>if k'=k/\r≠i then some ([.cutP x z m],cs.set j (.own r S.c),{ (S.bind 1)with ob:=(i,OQ pv st T (cs.set j (.own r S.c)))::(r,.shr S.c t k S.m)::S.ob,c:=S.c+1})else none
  |_=>none)
 |_=>none
theorem cQ.setV{x:SC}{y:AC}(hx:RC ρ σ x y):∀{cs:List SC} {ys:List AC} {j:Nat},cQ ρ σ cs ys->cQ ρ σ (cs.set j x) (ys.set j y)
 |[],[],_,_=>trivial
 |[],_::_,_,h=>h.elim
 |_::_,[],_,h=>h.elim
 |c::cs,y0::ys,0,h=>⟨hx,h.2⟩
 |c::cs,y0::ys,j+1,h=>⟨h.1,cQ.setV hx h.2⟩
theorem JX{i st st' j:Nat}{pv:Bool}{T:TypeId}{cs cs':List SC}{acs:List AC}(h:Gu i st pv T cs j S=some (ps,cs',S'))(he:ax ps ρ=some ρ')(hr:aN S ρ σ s)(hs:σ[st]? =some st')(hi:s.own? i st'=some (D3 pv st' T acs))(hc:cQ ρ σ cs acs):
 ∃s' σ' acs',Fz s s'/\aQ σ σ'/\aN S' ρ' σ' s'/\s'.own? i st'=some (D3 pv st' T acs')/\cQ ρ' σ' cs' acs'/\s'.sl=s.sl:=by
 unfold Gu at h;split at h
 ·rename_i r sr k z m hj;split at h
  ·rename_i a t k' x ho;split at h
   ·rename_i hk;obtain⟨rfl,hne⟩:=hk;simp[Option.some.injEq,Prod.mk.injEq]at h;obtain⟨rfl,rfl,rfl⟩:=h;obtain⟨y,hy,hyc⟩:=hc.get hj;cases y<;>first|exact hyc.elim|skip
    rename_i r' sr' kx lo n;obtain⟨rfl,hst,rfl,⟨u',e1,e2,rfl⟩,⟨v',e3,e4,rfl⟩⟩:=hyc;obtain⟨o',k1,k2,k3,k4⟩:=hr.ownR ho hst;cases o'<;>first|exact k2.elim|skip
    rename_i b ty kr es dp;obtain⟨k5,rfl,rfl,-,hx⟩:=k2;obtain rfl:=bh k1 rfl;obtain⟨out,o1,rfl⟩:=az he;simp only[aA,hx,e1,e3]at o1;split at o1
    ·rename_i lU;obtain⟨hu0,hle⟩:=lU;subst hu0;cases o1;obtain⟨hin,hob,hlv⟩:=am hi;have hb:=hr.bind (out:=[DV.sl ty kr (es.take v'.toNat)]) (k:=1) rfl
     have h1:=hb.upd (s':=s.cutS r' ty kr v'.toNat es) (i:=r') (n':=S.n) (c':=S.c+1) (so:=.shr S.c ty kr S.m) (aQ.app _ [s.c]) (by have:=hr.c;grind) hb.n (Nat.le_refl _) k4 rfl (λj hj=>aE _ _ hj)
      (by simp[AS.cutS,ae];exact⟨hr.last _,rfl,rfl,rfl,by rw[<-hr.m];simp⟩)
     have hcs:cQ (ρ++[DV.sl ty kr (es.take v'.toNat)]) (σ++[s.c]) (cs.set j (.own r' S.c)) (acs.set j (.own r' s.c)):=cQ.setV (x:=.own r' S.c) (y:=.own r' s.c) ⟨rfl,hr.last _⟩ (hc.mono (aQ.app _ _) (aQ.app _ _));have hst':(σ++[s.c])[st]? =some st':=(aQ.app σ [s.c]).get hs;have hu:=h1.upd (s':=s.cutC i st' j pv T acs r' ty kr v'.toNat es) (i:=i) (n':=S.n) (c':=S.c+1) (so:=OQ pv st T (cs.set j (.own r' S.c))) (aQ.refl _) h1.c h1.n (Nat.le_refl _) (by have:=hr.n;omega) rfl (λq hq=>aE _ _ hq) (by simp_all[AS.cutC,ae,Eo]);refine⟨s.cutC i st' j pv T acs r' ty kr v'.toNat es,σ++[s.c],_,λw0 N a w E h=>No h hi hy k1 hle,aQ.app _ _,hu,?_,hcs,rfl⟩;unfold AS.own? AS.cutC;simp only[ae,xG];rw[if_pos (by exact hin)];simp
    grind
   grind
  grind
 grind
def E7(P:Program)(S:Sy)(d:Option Nat)(f bits:Nat)(args:List Operand)(ts:List TypeId):Option (List Nd×Sy):=none
theorem Eh{f bits:Nat}{args:Array Operand}{ts:Array TypeId}(ho:o.op=.call ⟨.value (.func f),args,ts⟩)(h:E7 P S o.dst f bits args.toList ts.toList=some (dE,S'))(hd:dB N o.dst=true)(hr:aN S ρ σ s)(hw:WN P dE K ρ):iS P N o s S' K:=by
 unfold E7 at h;cases h
end
end Go.Proofs.Ytgdbmcoamemmaaa
namespace Go.Proofs.Ytgdbmcoamemmaaa
open Go.RowKit
section
variable {P:Program}{N:Nat}{ρ ρ':List DV}{σ σ':List Nat}{S S':Sy}{s s':AS}{ps:List PO}{v:SV}{o:Oper}{K:List DV->Prop}{dE:List Nd}
def BP(P:Program)(ow:fM)(S:Sy)(d:Option Nat)(f:FuncId)(args:List Operand)(ts:List TypeId):Option (List Nd×Sy):=
 if ow.pf.contains f then Eu P ow S d f args ts else if ow.cf.contains f then xF P ow S d f args ts else match aK ow.nf f with
 |some t=>EV P ow S d f t args ts
 |none=>match aK ow.gf f with
  |some b=>Fa P ow S d f b args ts
  |none=>match aK ow.vf f with
   |some b=>E7 P S d f b args ts
   |none=>HS P ow S d f args ts
theorem yt{ow:fM}{f:FuncId}{args:Array Operand}{ts:Array TypeId}(ho:o.op=.call ⟨.value (.func f),args,ts⟩)(h:BP P ow S o.dst f args.toList ts.toList=some (dE,S'))(hd:dB N o.dst=true)(hr:aN S ρ σ s)(hw:WN P dE K ρ):iS P N o s S' K:=by
 grind[BP,EQ,Fe,EL,Eb,Eh,Hc]
def Ix(P:Program)(S:Sy)(d:Option Nat)(f:FuncId)(X Y:Operand)(ts:List TypeId):Option (List Nd×Sy):=none
theorem GY{f:FuncId}{X Y:Operand}{ts:Array TypeId}(ho:o.op=.call ⟨.value (.func f),#[X,Y],ts⟩)(h:Ix P S o.dst f X Y ts.toList=some (dE,S'))(hd:dB N o.dst=true)(hr:aN S ρ σ s)(hw:WN P dE K ρ):iS P N o s S' K:=by
 unfold Ix at h;cases h
def T3(P:Program)(ow:fM)(S:Sy)(o:Oper):Option (List Nd×Sy):=
 match o.op with
 |.assign (.const (.pointer none))=>some ([],S.del o.dst)
 |.alloc t=>EN P S o.dst t
 |.box t x=>O2 S o.dst t x
 |.build t parts=>(match xW P S t parts.toList with|some (ps,cs,S')=>some (ps.map .po,S'.put o.dst (.p true cs))|none=>none)
 |.buildSlice t len parts=>KF P S o.dst t len parts.toList
 |.store t x y=>(match o.dst with|none=>Ef P S t x y|some _=>none)
 |.makeSlice t x y=>Jw P S o.dst t x y
 |.call ⟨.builtin .append,⟨[X,Y]⟩,⟨[t,t']⟩⟩=>if t'=t then(if Vs P S X Y t then Iq P S o.dst X Y t else Pc P S o.dst X Y t)else none
 |.call ⟨.builtin .copy,⟨[X,Y]⟩,⟨[t,t']⟩⟩=>if t'=t then KT P S o.dst X Y t else none
 |.call ⟨.value (.func f),⟨[X,Y]⟩,ts⟩=>if ow.mks.contains f then Ix P S o.dst f X Y ts.toList else BP P ow S o.dst f [X,Y] ts.toList
 |.call ⟨.value (.func f),args,ts⟩=>BP P ow S o.dst f args.toList ts.toList
 |op=>(match SA P S op with|some (ps,v,S')=>some (ps.map .po,S'.put o.dst v)|none=>none)
theorem IC{ow:fM}(h:T3 P ow S o=some (dE,S'))(hd:dB N o.dst=true)(hr:aN S ρ σ s)(hw:WN P dE K ρ):iS P N o s S' K:=by
 unfold T3 at h;split at h
 ·rename_i ho;cases h;exact⟨ρ,σ,_,(KM (x:=s.ev (.const (.pointer none))) (by rw[ho];rfl)).toO (fU hd),hr.del,hw⟩
 ·grind[D6]
 ·grind[Ic]
 ·grind[Ed]
 ·grind[Lb]
 ·grind[Fi]
 ·grind[HH]
 ·grind[GI,K4]
 ·grind[Hk]
 ·rename_i f X Y ts ho;split at h
  ·grind[GY]
  ·exact yt ho h hd hr hw
 ·grind[yt]
 grind[GN]
end
end Go.Proofs.Ytgdbmcoamemmaaa
