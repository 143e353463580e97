/- Proved: for every input the law 'FnExactModelFrame' returns true and its arguments read behind the call as before: part 2 of its proof. No condition. -/
import Derived.WalkKit
import Derived.Lib.Hide
import Derived.WalkSpells
import Derived.Laws.OwnMore
import Derived.Deep.AppendLies
import Derived.Deep.Draws
import Derived.Maps.AppendAt
import Derived.RegionTactic
import Derived.OwnWalk
import Derived.Below
import Derived.Laws.AppendOwnNone
import Derived.Deep.QuietTactic
import Derived.BigQuiet
import Derived.StillTailTactics
import Derived.Laws.Cells
import Derived.Laws.IdiomCopy
import Derived.ChangeKeysEq
import Derived.Laws.BytesArg
import Derived.Laws.StructEq
import Derived.Laws.Tables
import Derived.Great.BuildSlice
import Derived.StillTail
import Derived.ArgAppend
import Derived.OrdersHeld
import Derived.Test.YtliknccmjjncbaaGreatExModelFrameQ1
set_option linter.unusedVariables false
set_option linter.unusedSimpArgs false
namespace Go.Proofs.YtliknccmjjncbaaGreat
open Go.RowKit
def Re(s s':AS):Prop:=∀w0 N a w E,aH w0 N s a w E->∃E',aH w0 N s' a w E'
theorem Re.refl(s:AS):Re s s:=λ_ _ _ _ E h=>⟨E,h⟩
theorem Re.trans{s t u:AS}(h:Re s t)(k:Re t u):Re s u:=λw0 N a w E hr=>by
 obtain⟨E',h'⟩:=h w0 N a w E hr;exact k w0 N a w E' h'
def sD(φ:Nat->Nat):AC->AC
 |.own i st=>.own (φ i) st
 |.ptr i st off=>.ptr (φ i) st off
 |.elt i st k j off=>.elt (φ i) st k j off
 |.sub i st k lo n=>.sub (φ i) st k lo n
 |x=>x
def K4(φ:Nat->Nat):AV->AV
 |.p b cs=>.p b (cs.map (sD φ))
 |.tup xs=>.tup (xs.map λx=>(x.1,x.2.map (sD φ)))
 |.und=>.und
def Fo(φ:Nat->Nat):Ob->Ob
 |.var st t cs=>.var st t (cs.map (sD φ))
 |.arr st t k es=>.arr st t k (es.map λe=>e.map (sD φ))
 |.pvr st t cs=>.pvr st t (cs.map (sD φ))
 |.opn st t k es h=>.opn st t k es (h.map λq=>(q.1,q.2.1,φ q.2.2.1,q.2.2.2))
 |x=>x
theorem Qm(φ:Nat->Nat)(x:Ob):(Fo φ x).st=x.st:=by cases x<;>rfl
section
variable {w0:Cx}{w:World}{E:En}{N:Nat}{s s':AS}{a:Act}
theorem aH.reindex(h:aH w0 N s a w E){φ:Nat->Nat}(hφ:∀i,i<s'.n->φ i<s.n)(inj:∀i j,i<s'.n->j<s'.n->φ i=φ j->i=j)(hc:s.c<=s'.c)
 (ho:∀i,i<s'.n->s'.ob i=.dead\/Fo φ (s'.ob i)=s.ob (φ i)) (hs:∀t,s'.sl t=.und\/K4 φ (s'.sl t)=s.sl t):
 aH w0 N s' a w ⟨λi=>E.v (φ i),λi=>E.m (φ i),λi=>E.o (φ i),E.A⟩:=by
 have hL:∀i st,s'.lv i=some st->s.lv (φ i)=some st:=by
  intro i st hl;unfold AS.lv at hl ⊢;split at hl
  ·rename_i hi;rw[if_pos (hφ i hi)];rcases ho i hi with e|e
   ·rw[e]at hl;cases hl
   ·rw[<-e,Qm];exact hl
  grind
 have hC:∀(x:AC) (u:Value),dw w E s.lv s.c (sD φ x) u->dw w ⟨λi=>E.v (φ i),λi=>E.m (φ i),λi=>E.o (φ i),E.A⟩ s'.lv s'.c x u:=by
  intro x u hx
  cases x with
  |d y=>exact hx
  |nil=>exact hx
  |own i st=>exact⟨Nat.lt_of_lt_of_le hx.1 hc,λhl=>hx.2 (hL i st hl)⟩
  |ptr i st off=>exact⟨Nat.lt_of_lt_of_le hx.1 hc,λhl=>hx.2 (hL i st hl)⟩
  |elt i st k j off=>exact⟨Nat.lt_of_lt_of_le hx.1 hc,λhl=>hx.2 (hL i st hl)⟩
  |sub i st k lo n=>exact⟨Nat.lt_of_lt_of_le hx.1 hc,λhl=>hx.2 (hL i st hl)⟩
  |emp=>exact hx
  |rd cs=>exact hx
  |fn f cs=>exact hx
  |lit=>exact hx
 have hCs:∀(cs:List AC) (us:List Value),aD w E s.lv s.c (cs.map (sD φ)) us->aD w ⟨λi=>E.v (φ i),λi=>E.m (φ i),λi=>E.o (φ i),E.A⟩ s'.lv s'.c cs us:=by
  intro cs us hx;refine⟨by simpa using hx.1,λj x u h1 h2=>hC x u (hx.2 j _ u (by rw[List.getElem?_map,h1];rfl) h2)⟩
 have hP:∀(b:Bool) (cs:List AC) (v:Value),cM w E s.lv s.c b (cs.map (sD φ)) v->cM w ⟨λi=>E.v (φ i),λi=>E.m (φ i),λi=>E.o (φ i),E.A⟩ s'.lv s'.c b cs v:=by
  intro b cs v hx;unfold cM at hx ⊢
  grind
 refine⟨h.size,h.defers,h.bel,λi hi=>?_,λt=>?_,h.A_lt,λb hb i hi=>h.A_m b hb _ (hφ i hi),λi hi=>h.A_o _ (hφ i hi),λi j hi hj hne=>h.mm _ _ (hφ i hi) (hφ j hj) (λe=>hne (inj i j hi hj e)),
  λi j hi hj hne=>h.oo _ _ (hφ i hi) (hφ j hj) (λe=>hne (inj i j hi hj e)),λi hi=>h.m_lt _ (hφ i hi),h.anc,λi hi=>h.mF _ (hφ i hi),λi hi=>h.oF _ (hφ i hi)⟩
 ·have hO:=h.obj (φ i) (hφ i hi);rcases ho i hi with e|e
  ·rw[e];trivial
  ·rw[<-e]at hO
   cases hx:s'.ob i with
   |var st t cs=>
    rw[hx]at hO;obtain⟨g,vals,h1,h2,h3,h4,h5,h6,h7⟩:=hO
    exact⟨g,vals,Nat.lt_of_lt_of_le h1 hc,h2,h3,h4,h5,h6,hCs _ _ h7⟩
   |arr st t k es=>
    rw[hx]at hO;obtain⟨g,vals,h1,h2,h3,h4,h5,h6,h7,h8,h9,h10⟩:=hO;rw[List.length_map]at h2 h6;refine⟨g,vals,Nat.lt_of_lt_of_le h1 hc,h2,h3,h4,h5,h6,h7,h8,λe he=>?_,hCs _ _ ?_⟩
    ·have:=h9 _ (List.mem_map.2 ⟨e,he,rfl⟩);grind
    grind
   |row st t k es deep=>
    rw[hx]at hO;obtain⟨cells,h1,h2,h3,h4,h5,h6⟩:=hO
    exact⟨cells,Nat.lt_of_lt_of_le h1 hc,h2,h3,h4,h5,h6⟩
   |frz st x=>rw[hx]at hO;exact⟨Nat.lt_of_lt_of_le hO.1 hc,hO.2⟩
   |dx st x=>rw[hx]at hO;exact⟨Nat.lt_of_lt_of_le hO.1 hc,hO.2⟩
   |cur st id t x cs=>
    rw[hx]at hO;obtain⟨g,u,h0,h1,h2,h3,h4,h5⟩:=hO
    exact⟨g,u,Nat.lt_of_lt_of_le h0 hc,h1,h2,h3,h4,h5⟩
   |pvr st t cs=>
    rw[hx]at hO;obtain⟨g,vals,h1,h2,h3,h4,h6,h7,h8⟩:=hO
    exact⟨g,vals,Nat.lt_of_lt_of_le h1 hc,h2,h3,h4,h6,hCs _ _ h7,h8⟩
   |opn st t k es q=>
    rw[hx]at hO;obtain⟨cells,g,h0,h1,h2,h3,h4,h5,h6,h7,h8⟩:=hO;have hq:∀{α:Type} (x:α) (l:List α),vL k x (q.map λq=>(q.1,q.2.1,φ q.2.2.1,q.2.2.2)) l=vL k x q l:=λx l=>by cases q<;>rfl
    rw[hq,hq]at h7;refine⟨cells,g,Nat.lt_of_lt_of_le h0 hc,h1,h2,h3,h4,h5,h6,h7,λp hp=>?_⟩
    grind
   |dead=>trivial
 ·have hS:=h.slot t;rcases hs t with e|e
  ·rw[e];trivial
  ·rw[<-e]at hS
   cases hx:s'.sl t with
   |p b cs=>rw[hx]at hS;exact hP b cs _ hS
   |tup xs=>
    rw[hx]at hS;obtain⟨vs,h1,h2,h3⟩:=hS;refine⟨vs,h1,by grind,λj b cs u k1 k2=>hP b cs u (h3 j b _ u ?_ k2)⟩
    rw[List.getElem?_map,k1];rfl
   |und=>trivial
theorem Re.reindex{φ:Nat->Nat}(hφ:∀i,i<s'.n->φ i<s.n)(inj:∀i j,i<s'.n->j<s'.n->φ i=φ j->i=j)(hc:s.c<=s'.c)
 (ho:∀i,i<s'.n->s'.ob i=.dead\/Fo φ (s'.ob i)=s.ob (φ i)) (hs:∀t,s'.sl t=.und\/K4 φ (s'.sl t)=s.sl t):Re s s':=
 λw0 N a w E h=>⟨_,h.reindex hφ inj hc ho hs⟩
end
section
variable {P:Program}{N:Nat}{Q:Exit->AS->Prop}{s s':AS}{o:Oper}
theorem Ts{c:Code}(h:Re s s')(k:tN P N c Q s'):tN P N c Q s:=λw0 a w E hr=>by
 obtain⟨E',h'⟩:=h w0 N a w E hr;exact k w0 a w E' h'
theorem Jk{ops:Array Oper}{l:List Oper}(h:Re s s')(k:lu P N ops l Q s'):lu P N ops l Q s:=λw0 a w E hr=>by
 obtain⟨E',h'⟩:=h w0 N a w E hr;exact k w0 a w E' h'
theorem s9.re{s2:AS}{X:Option Nat}(h:s9 P N o s s' X)(hr:Re s' s2):s9 P N o s s2 X:=λw0 a w E hR=>Oper.wp_mono (λa' w' ⟨⟨E',h1⟩,h2⟩=>⟨hr w0 N a' w' E' h1,h2⟩) (h w0 a w E hR)
theorem Lq(h:Q .normal s):tN P N .skip Q s:=λw0 a w E hr=>wp_skip ⟨s,E,h,hr⟩
theorem L6{id:Nat}(h:Q (.exit id) s):tN P N (.exit id) Q s:=λw0 a w E hr=>wp_exit ⟨s,E,h,hr⟩
theorem P5(h:Q .ret s):tN P N .ret Q s:=λw0 a w E hr=>wp_ret ⟨s,E,h,hr⟩
def Yj(P:Program)(N:Nat)(y:Code)(Q:Exit->AS->Prop):Exit->AS->Prop
 |.normal,s=>tN P N y Q s
 |e,s=>Q e s
theorem PY{x y:Code}(h:tN P N x (Yj P N y Q) s):tN P N (.seq x y) Q s:=λw0 a w E hr=>by
 refine wp_seq (Code.wp_mono (λe a w he=>?_) (h w0 a w E hr));obtain⟨s',E',h1,h2⟩:=he
 cases e with
 |normal=>exact h1 w0 a w E' h2
 |_=>exact⟨s',E',h1,h2⟩
theorem Kx{id:Nat}{x:Code}(h:tN P N x (Fg id Q) s):tN P N (.block id x) Q s:=λw0 a w E hr=>by
 refine wp_block (Code.wp_mono (λe a w he=>?_) (h w0 a w E hr));obtain⟨s',E',h1,h2⟩:=he
 cases e with
 |exit id'=>
  simp[Fg]at h1;show(if id'=id then AQ w0 N Q .normal _ _ else AQ w0 N Q (.exit id') _ _);split
  ·rename_i he;rw[if_pos he]at h1;exact⟨s',E',h1,h2⟩
  ·rename_i he;rw[if_neg he]at h1;exact⟨s',E',h1,h2⟩
 |_=>exact⟨s',E',h1,h2⟩
theorem FT{c:Operand}{x y:Code}{b:Bool}(hb:s.ev c=.p false [.d (.sc (.bool b))])(h:tN P N (if b then x else y) Q s):tN P N (.cond c x y) Q s:=λw0 a w E hr=>by
 have:=aP hr c;rw[hb]at this;refine wp_cond_split (bA this) (λhb=>?_) (λhb=>?_)
 ·subst hb;exact h w0 a w E hr
 ·subst hb;exact h w0 a w E hr
theorem Hj{id:Nat}{ops:Array Oper}(h:lu P N ops ops.toList Q s):tN P N (.region id ops false) Q s:=λw0 a w E hr=>wp_region_list (h w0 a w E hr)
theorem GV{c:Code}(I:AS->Nat->Prop)(m:Nat)(h0:I s m)(round:∀s m,I s m->tN P N c (λe s'=>match e with|.normal=>∃m' s'',m'<m/\Re s' s''/\I s'' m'|e=>Q e s') s):tN P N (.loop c) Q s:=by
 intro w0 a w E hrep b k cs
 have key:∀m s a w E,I s m->aH w0 N s a w E->∃e a' w',AQ w0 N Q e a' w'/\Arrives P (lone (b.at a (.code c::.inLoop c::k)) cs w) b k cs e a' w':=by
  intro m
  induction m using Nat.strongRecOn with
  |_ m ih=>
   intro s a w E hI hr;obtain⟨e,a₁,w₁,⟨s1,E1,hq,hr1⟩,harr⟩:=round s m hI w0 a w E hr b (.inLoop c::k) cs
   cases e with
   |normal=>
    obtain⟨m',s2,hlt,hre,hI'⟩:=hq;obtain⟨E2,hr2⟩:=hre w0 N a₁ w₁ E1 hr1;obtain⟨e₂,a₂,w₂,hq₂,harr₂⟩:=ih m' hlt _ a₁ w₁ E2 hI' hr2
    exact⟨e₂,a₂,w₂,hq₂,.of_steps (Steps.trans harr (.one step_inLoop)) harr₂⟩
   |exit id=>exact⟨_,a₁,w₁,⟨s1,E1,hq,hr1⟩,.pass (x:=.inLoop c) rfl (λ_ _=>.inl (by simp)) harr⟩
   |goto l=>exact⟨_,a₁,w₁,⟨s1,E1,hq,hr1⟩,.pass (x:=.inLoop c) rfl (λ_ _=>.inl (by simp)) harr⟩
   |ret=>exact⟨_,a₁,w₁,⟨s1,E1,hq,hr1⟩,.pass (x:=.inLoop c) rfl (λ_ _=>.inl (by simp)) harr⟩
   |panic ch=>exact⟨_,a₁,w₁,⟨s1,E1,hq,hr1⟩,.pass (x:=.inLoop c) rfl (λ_ _=>.inl (by simp)) harr⟩
   |outgrown=>exact⟨_,a₁,w₁,⟨s1,E1,hq,hr1⟩,.pass (x:=.inLoop c) rfl (λ_ _=>.inl (by simp)) harr⟩
 obtain⟨e,a',w',hq,harr⟩:=key m s a w E h0 hrep;exact⟨e,a',w',hq,.of_steps (.one step_loop) harr⟩
theorem Dm{f:FuncId}{fn:Func}{c:Code}{args:List (Bool×List DV)}{res:List Rs}(hf:P.funcs[f]? =some fn)(hb:fn.body=some c)(hc:bc P f=true)(hN:args.length<=fn.ntmps)
 (h:tN P fn.ntmps c (DO P fn.results.toList res) (lF args)):aB P f args res:=by
 refine⟨hc,λw B vs hB ha=>?_⟩;refine calls_of_wp hf hb ?_;refine Code.wp_mono (λe a' w' he=>?_) (h (Xd w B) _ w _ (JL hB ha (by rw[ha.1];exact hN)));obtain⟨s,E,hq,hr⟩:=he;have key:=λhq=>BV (P:=P) (fn:=fn) (res:=res) hr hq
 cases e with
 |normal=>exact key hq
 |ret=>exact key hq
 |_=>exact hq.elim
theorem Is{f:FuncId}{fn:Func}{c:Code}{args:List (Bool×List AC)}{res:List Rs}(hf:P.funcs[f]? =some fn)(hb:fn.body=some c)(hc:bc P f=true)(hN:args.length<=fn.ntmps)
 (h:tN P fn.ntmps c (DO P fn.results.toList res) (uS args)):sx P f args res:=by
 refine⟨hc,λw B vs hB ha=>?_⟩;refine calls_of_wp hf hb ?_;refine Code.wp_mono (λe a' w' he=>?_) (h (Xd w B) _ w _ (Oc hB ha (by rw[ha.1];exact hN)));obtain⟨s,E,hq,hr⟩:=he;have key:=λhq=>BV (P:=P) (fn:=fn) (res:=res) hr hq
 cases e with
 |normal=>exact key hq
 |ret=>exact key hq
 |_=>exact hq.elim
end
end Go.Proofs.YtliknccmjjncbaaGreat
namespace Go.Proofs.YtliknccmjjncbaaGreat
open Go.RowKit
inductive SC where
 |d (i:Nat)
 |nil
 |own (i st:Nat)
 |ptr (i st off:Nat)
 |elt (i st k j off:Nat)
 |rd (cs:List Nat)
 |fn (f:Nat) (cs:List Nat)
 |lit (i:Nat)
 |sub (i st k lo n:Nat)
 |emp
 deriving DecidableEq
inductive SV where
 |p (agg:Bool) (cs:List SC)
 |tup (xs:List (Bool×List SC))
inductive SO where
 |var (st:Nat) (t:TypeId) (cs:List SC)
 |row (st:Nat) (t:TypeId) (k x:Nat)
 |frz (st x:Nat)
 |dx (st x:Nat)
 |cur (st:Nat) (id:Bool) (t:TypeId) (z:Nat)
 |arr (st:Nat) (t:TypeId) (k:Nat) (es:List (List SC))
 |opn (st k x:Nat) (q:Option (Nat×Nat×Nat×Nat))
 |pvr (st:Nat) (t:TypeId) (cs:List SC)
 |shr (st:Nat) (t:TypeId) (k x:Nat)
 |dead
def SO.st:SO->Option Nat
 |.var st _ _|.row st _ _ _|.frz st _|.dx st _|.arr st _ _ _|.cur st _ _ _|.opn st _ _ _|.pvr st _ _|.shr st _ _ _=>some st
 |.dead=>none
structure Sy where
 sl:List (Nat×SV)
 ob:List (Nat×SO)
 n:Nat
 c:Nat
 m:Nat
 kn:List (Nat×Bool)
def aS{α:Type}:List (Nat×α)->Nat->Option α
 |[],_=>none
 |(j,x)::r,i=>if j=i then some x else aS r i
def Sy.own(S:Sy)(i st:Nat):Option SO:=(aS S.ob i).bind λo=>if o.st=some st then some o else none
def Sy.put(S:Sy)(d:Option Nat)(v:SV):Sy:=match d with|some t=>{S with sl:=(t,v)::S.sl}|none=>S
inductive PO where
 |k (v:Value)
 |e (t k:Nat)
 |sc (x:Nat)
 |isI (x:Nat)
 |flat (x:Nat)
 |isL (t k x:Nat)
 |bin (op:BinOp) (b:Bool) (x y:Nat)
 |un (op:UnOp) (x:Nat)
 |cvI (k:IntKind) (x:Nat)
 |cvS (x:Nat)
 |cvB (x:Nat)
 |lenS (x:Nat)
 |lenL (x:Nat)
 |chr (x i:Nat)
 |idx (k x i:Nat)
 |chk (k x i:Nat)
 |cutS (x:Nat) (lo hi:Option Nat)
 |cutL (k x:Nat) (lo hi:Option Nat)
 |app (el k b x y:Nat)
 |mk (el k:Nat) (rows:List (List Nat))
 |make (el k b:Nat) (z:List DV) (n:Nat)
 |set (k x j off:Nat) (vs:List Nat)
 |mm (mx:Bool) (x y:Nat)
 |eqS (neg:Bool) (ks:List Kd) (xs ys:List Nat)
 |cutI (x:Nat) (lo hi:Option Nat)
 |cutJ (z m:Nat) (lo hi:Option Nat)
 |atJ (z m i:Nat)
 |viewD (x z m:Nat)
 |cutP (x z m:Nat)
 |emp (x:Nat)
 |unc (z n:Nat)
 |cuS (z off v:Nat)
 |stop (k:Nat)
 |cpy (k x lo n lo' n':Nat)
def uk:Value->Bool
 |.bool _|.int _ _|.string _=>true
 |_=>false
def im:DV->Bool
 |.sc v=>uk v
 |_=>false
def gI(ρ:List DV)(i:Nat):Option Int:=match ρ[i]? with|some (.sc (.int _ z))=>some z|_=>none
def CR(ρ:List DV):Option Nat->Option (Option Int)
 |none=>some none
 |some i=>(gI ρ i).map some
def gL(ρ:List DV):List Nat->Option (List DV)
 |[]=>some []
 |i::r=>match ρ[i]?,gL ρ r with|some x,some xs=>some (x::xs)|_,_=>none
def JR(ρ:List DV):List (List Nat)->Option (List (List DV))
 |[]=>some []
 |i::r=>match gL ρ i,JR ρ r with|some x,some xs=>some (x::xs)|_,_=>none
def kh(op:BinOp)(b:Bool)(x y:Value):Option Value:=
 match x,y with
 |.int k a,.int k' c=>dK op k k' a c
 |.string a,.string c=>v8 op a c
 |.bool a,.bool c=>if b then(match op with
  |.eql=>some (.bool (a==c))
  |.neq=>some (.bool (!(a==c)))
  |_=>none)else none
 |_,_=>none
def zx:Option Value->Option (List DV)
 |some v=>some [.sc v]
 |none=>none
def EZ:List Kd->List DV->List DV->Option Bool
 |[],[],[]=>some true
 |k::ks,.sc a::xs,.sc b::ys=>(match Ue k a b,EZ ks xs ys with|some p,some q=>some (p&&q)|_,_=>none)
 |_,_,_=>none
def aG(ρ:List DV):PO->Option (List DV)
 |.k v=>if uk v then some [.sc v]else none
 |.e t k=>some [.sl t k []]
 |.sc x=>match ρ[x]? with|some d=>if im d then some []else none|none=>none
 |.isI x=>match ρ[x]? with|some (.sc (.int _ _))=>some []|_=>none
 |.flat x=>match ρ[x]? with|some (.sl _ _ es)=>if es.flatten.all im then some []else none|_=>none
 |.isL t k x=>match ρ[x]? with|some (.sl t' k' es)=>if t'=t/\k'=k/\es.flatten.all im=true then some []else none|_=>none
 |.bin op b x y=>match ρ[x]?,ρ[y]? with|some (.sc u),some (.sc v)=>zx (kh op b u v)|_,_=>none
 |.un op x=>match ρ[x]? with|some (.sc u)=>zx (Sx op u)|_=>none
 |.cvI k x=>match ρ[x]? with|some (.sc (.int _ n))=>some [.sc (.int k (k.wrap n))]|_=>none
 |.cvS x=>match ρ[x]? with|some (.sc (.string s))=>some [.sc (.string s)]|_=>none
 |.cvB x=>match ρ[x]? with|some (.sl _ 1 es)=>(match je es with|some xs=>some [.sc (.string (strOfNums xs))]|none=>none)|_=>none
 |.lenS x=>match ρ[x]? with|some (.sc (.string s))=>some [.sc (.int .i64 s.size)]|_=>none
 |.lenL x=>match ρ[x]? with|some (.sl _ _ es)=>some [.sc (.int .i64 es.length)]|_=>none
 |.chr x i=>match ρ[x]?,ρ[i]? with
  |some (.sc (.string s)),some (.sc (.int _ z))=>if 0<=z then(match s[z.toNat]? with|some u=>some [.sc (.int .u8 u.toNat)]|none=>none)else none
  |_,_=>none
 |.idx k x i=>match ρ[x]?,ρ[i]? with
  |some (.sl _ k' es),some (.sc (.int _ z))=>if k'=k/\0<=z then(match es[z.toNat]? with|some e=>if e.length=k then some e else none|none=>none)else none
  |_,_=>none
 |.chk k x i=>match ρ[x]?,ρ[i]? with
  |some (.sl _ k' es),some (.sc (.int _ z))=>if k'=k/\0<=z/\z.toNat<es.length then some []else none
  |_,_=>none
 |.cutS x lo hi=>match ρ[x]?,CR ρ lo,CR ρ hi with
  |some (.sc (.string s)),some l,some h=>(match ne l h s.size with|some (a,b)=>some [.sc (.string (s.extract a b))]|none=>none)
  |_,_,_=>none
 |.cutL k x lo hi=>match ρ[x]?,CR ρ lo,CR ρ hi with
  |some (.sl t k' es),some l,some h=>if k'=k then(match ne l h es.length with|some (a,b)=>some [.sl t k ((es.drop a).take (b-a))]|none=>none)else none
  |_,_,_=>none
 |.app el k b x y=>match ρ[x]?,ρ[y]? with
  |some (.sl t1 k1 es),some (.sl _ k2 fs)=>if t1=el/\k1=k/\k2=k/\es.length+fs.length<=9223372036854775807/\(es.length+fs.length)*b<=140737488355328 then some [.sl el k (es++fs)]else none
  |_,_=>none
 |.mk el k rows=>match JR ρ rows with|some es=>if es.all (λe=>e.length==k)then some [.sl el k es]else none|none=>none
 |.make el k b z n=>match ρ[n]? with
  |some (.sc (.int .i64 n))=>if 0<=n/\b*n.toNat<=281474976710656/\n.toNat<=9223372036854775807 then some [.sl el k (List.replicate n.toNat z)]else none
  |_=>none
 |.set k x j off vs=>match ρ[x]?,ρ[j]?,gL ρ vs with
  |some (.sl t k' es),some (.sc (.int _ z)),some ds=>if k'=k/\0<=z/\off+ds.length<=k then(match es[z.toNat]? with|some e=>some [.sl t k (es.set z.toNat (plug off ds e))]|none=>none)else none
  |_,_,_=>none
 |.mm mx x y=>match ρ[x]?,ρ[y]? with
  |some (.sc (.int k a)),some (.sc (.int k' b))=>if k=k' then some [.sc (.int k (U7 mx a b))]else none
  |_,_=>none
 |.eqS neg ks xs ys=>match gL ρ xs,gL ρ ys with
  |some ds,some es=>(match EZ ks ds es with|some b=>some [.sc (.bool (if neg then !b else b))]|none=>none)
  |_,_=>none
 |.cutI x lo hi=>match ρ[x]?,CR ρ lo,CR ρ hi with
  |some (.sl _ _ es),some l,some h=>(match ne l h es.length with|some (a,b)=>some [.sc (.int .i64 a),.sc (.int .i64 ((b-a:Nat):Int))]|none=>none)
  |_,_,_=>none
 |.cutJ z m lo hi=>match ρ[z]?,ρ[m]?,CR ρ lo,CR ρ hi with
  |some (.sc (.int .i64 u)),some (.sc (.int .i64 v)),some l,some h=>if 0<=u/\0<=v then(match ne l h v.toNat with|some (a,b)=>some [.sc (.int .i64 ((u.toNat+a:Nat):Int)),.sc (.int .i64 ((b-a:Nat):Int))]|none=>none)else none
  |_,_,_,_=>none
 |.atJ z m i=>match ρ[z]?,ρ[m]?,ρ[i]? with
  |some (.sc (.int .i64 u)),some (.sc (.int .i64 v)),some (.sc (.int _ j))=>if 0<=u/\0<=j/\j<v then some [.sc (.int .i64 (u+j))]else none
  |_,_,_=>none
 |.viewD x z m=>match ρ[x]?,ρ[z]?,ρ[m]? with
  |some (.sl t k es),some (.sc (.int .i64 u)),some (.sc (.int .i64 v))=>some [.sl t k ((es.drop u.toNat).take v.toNat)]
  |_,_,_=>none
 |.cutP x z m=>match ρ[x]?,ρ[z]?,ρ[m]? with
  |some (.sl t k es),some (.sc (.int .i64 u)),some (.sc (.int .i64 v))=>if u=0/\v.toNat<=es.length then some [.sl t k (es.take v.toNat)]else none
  |_,_,_=>none
 |.emp x=>match ρ[x]? with
  |some (.sl _ _ es)=>some [.sc (.bool es.isEmpty)]
  |_=>none
 |.unc z n=>match ρ[z]? with
  |some (.sl _ 0 [[x],cs])=>if cs.length+1=n then some (x::cs)else none
  |_=>none
 |.cuS z off v=>match ρ[z]?,ρ[v]? with
  |some (.sl t 0 [[x],cs]),some (.sc u)=>if uk u=true/\0<off/\off-1<cs.length then some [.sl t 0 [[x],cs.set (off-1) (.sc u)]]else none
  |_,_=>none
 |.stop _=>none
 |.cpy k x lo n lo' n'=>match ρ[x]?,ρ[lo]?,ρ[n]?,ρ[lo']?,ρ[n']? with
  |some (.sl t k' es),some (.sc (.int .i64 a)),some (.sc (.int .i64 m)),some (.sc (.int .i64 b)),some (.sc (.int .i64 m'))=>
   if k'=k/\es.flatten.all im=true then some [.sl t k (mY es a.toNat m.toNat b.toNat m'.toNat),.sc (.int .i64 ((min m'.toNat m.toNat:Nat):Int))]else none
  |_,_,_,_,_=>none
def ay:List PO->List DV->Option (List DV)
 |[],ρ=>some ρ
 |o::r,ρ=>match aG ρ o with|some out=>ay r (ρ++out)|none=>none
section
variable (ρ:List DV)(σ:List Nat)
def RD:List Nat->List DV->Prop
 |[],[]=>True
 |i::is,x::xs=>ρ[i]? =some x/\RD is xs
 |_,_=>False
def RC:SC->AC->Prop
 |.d i,.d x=>ρ[i]? =some x
 |.nil,.nil=>True
 |.own i st,.own i' st'=>i'=i/\σ[st]? =some st'
 |.ptr i st off,.ptr i' st' off'=>i'=i/\σ[st]? =some st'/\off'=off
 |.elt i st k j off,.elt i' st' k' j' off'=>i'=i/\σ[st]? =some st'/\k'=k/\(∃kd z,ρ[j]? =some (.sc (.int kd z))/\0<=z/\j'=z.toNat)/\off'=off
 |.rd cs,.rd ds=>RD ρ cs ds
 |.fn f cs,.fn f2 ds=>f2=f/\RD ρ cs ds
 |.lit i,.lit el k ds=>ρ[i]? =some (.sl el k ds)
 |.sub i st k lo n,.sub i' st' k' lo' n'=>i'=i/\σ[st]? =some st'/\k'=k/\(∃z,ρ[lo]? =some (.sc (.int .i64 z))/\0<=z/\lo'=z.toNat)/\(∃z,ρ[n]? =some (.sc (.int .i64 z))/\0<=z/\n'=z.toNat)
 |.emp,.emp=>True
 |_,_=>False
def cm:List SC->List AC->Prop
 |[],[]=>True
 |x::xs,y::ys=>RC ρ σ x y/\cm xs ys
 |_,_=>False
def RT:List (Bool×List SC)->List (Bool×List AC)->Prop
 |[],[]=>True
 |x::xs,y::ys=>(y.1=x.1/\cm ρ σ x.2 y.2)/\RT xs ys
 |_,_=>False
def RV:SV->AV->Prop
 |.p b cs,.p b' cs'=>b'=b/\cm ρ σ cs cs'
 |.tup xs,.tup ys=>RT ρ σ xs ys
 |_,_=>False
def Ee:List (List SC)->List (List AC)->Prop
 |[],[]=>True
 |x::xs,y::ys=>cm ρ σ x y/\Ee xs ys
 |_,_=>False
def RH:Option (Nat×Nat×Nat×Nat)->Option (Nat×Nat×Nat×Nat)->Prop
 |none,none=>True
 |some (j,off,n,sn),some (j',off',n',sn')=>(∃kd z,ρ[j]? =some (.sc (.int kd z))/\0<=z/\j'=z.toNat)/\off'=off/\n'=n/\σ[sn]? =some sn'
 |_,_=>False
def RO:SO->Ob->Prop
 |.arr st t k es,.arr st' t' k' es'=>σ[st]? =some st'/\t'=t/\k'=k/\Ee ρ σ es es'
 |.var st t cs,.var st' t' cs'=>σ[st]? =some st'/\t'=t/\cm ρ σ cs cs'
 |.row st t k x,.row st' t' k' es dp=>σ[st]? =some st'/\t'=t/\k'=k/\dp=true/\ρ[x]? =some (.sl t k es)
 |.frz st x,.frz st' y=>σ[st]? =some st'/\ρ[x]? =some y
 |.dx st x,.dx st' y=>σ[st]? =some st'/\ρ[x]? =some y
 |.cur st id t z,.cur st' id' t' x cs=>σ[st]? =some st'/\id'=id/\t'=t/\ρ[z]? =some (TD t x cs)
 |.opn st k x q,.opn st' t' k' es q'=>σ[st]? =some st'/\k'=k/\ρ[x]? =some (.sl t' k es)/\RH ρ σ q q'
 |.pvr st t cs,.pvr st' t' cs'=>σ[st]? =some st'/\t'=t/\cm ρ σ cs cs'
 |.shr st t k x,.row st' t' k' es dp=>σ[st]? =some st'/\t'=t/\k'=k/\dp=false/\ρ[x]? =some (.sl t k es)
 |.dead,_=>True
 |_,_=>False
end
structure aV(S:Sy)(ρ:List DV)(σ:List Nat)(s:AS):Prop where
 n:s.n=S.n
 c:σ.length=S.c
 m:ρ.length=S.m
 sl:∀t x,aS S.sl t=some x->RV ρ σ x (s.sl t)
 ob:∀i x,aS S.ob i=some x->i<S.n/\RO ρ σ x (s.ob i)
 kn:∀i b,aS S.kn i=some b->ρ[i]? =some (.sc (.bool b))
def aW{α:Type}(l l':List α):Prop:=∃e,l'=l++e
theorem aW.refl{α:Type}(l:List α):aW l l:=⟨[],by simp⟩
theorem aW.trans{α:Type}{a b c:List α}(h:aW a b)(k:aW b c):aW a c:=by
 obtain⟨e,rfl⟩:=h;obtain⟨f,rfl⟩:=k;exact⟨e++f,by simp⟩
theorem aW.get{α:Type}{l l':List α}(h:aW l l'){i:Nat}{x:α}(hx:l[i]? =some x):l'[i]? =some x:=by
 obtain⟨e,rfl⟩:=h;rw[List.getElem?_append_left (List.getElem?_eq_some_iff.1 hx).1];exact hx
theorem aW.app{α:Type}(l e:List α):aW l (l++e):=⟨e,rfl⟩
section
variable {ρ ρ':List DV}{σ σ':List Nat}
theorem RD.mono(h:aW ρ ρ'):∀{is:List Nat} {xs:List DV},RD ρ is xs->RD ρ' is xs
 |[],[],_=>trivial
 |i::is,x::xs,k=>⟨h.get k.1,RD.mono h k.2⟩
 |[],_::_,k=>k.elim
 |_::_,[],k=>k.elim
theorem RC.mono(h:aW ρ ρ')(g:aW σ σ'){x:SC}{y:AC}(k:RC ρ σ x y):RC ρ' σ' x y:=by
 cases x<;>cases y<;>first|exact k.elim|skip
 ·exact h.get k
 ·trivial
 ·exact⟨k.1,g.get k.2⟩
 ·exact⟨k.1,g.get k.2.1,k.2.2⟩
 ·obtain⟨k1,k2,k3,⟨kd,z,k4,k5⟩,k6⟩:=k;exact⟨k1,g.get k2,k3,⟨kd,z,h.get k4,k5⟩,k6⟩
 ·exact RD.mono h k
 ·exact⟨k.1,RD.mono h k.2⟩
 ·exact h.get k
 ·obtain⟨k1,k2,k3,⟨z,k4,k5⟩,⟨z',k6,k7⟩⟩:=k;exact⟨k1,g.get k2,k3,⟨z,h.get k4,k5⟩,⟨z',h.get k6,k7⟩⟩
 ·trivial
theorem cm.mono(h:aW ρ ρ')(g:aW σ σ'):∀{xs:List SC} {ys:List AC},cm ρ σ xs ys->cm ρ' σ' xs ys
 |[],[],_=>trivial
 |x::xs,y::ys,k=>⟨k.1.mono h g,cm.mono h g k.2⟩
 |[],_::_,k=>k.elim
 |_::_,[],k=>k.elim
theorem RT.mono(h:aW ρ ρ')(g:aW σ σ'):∀{xs:List (Bool×List SC)} {ys:List (Bool×List AC)},RT ρ σ xs ys->RT ρ' σ' xs ys
 |[],[],_=>trivial
 |x::xs,y::ys,k=>⟨⟨k.1.1,cm.mono h g k.1.2⟩,RT.mono h g k.2⟩
 |[],_::_,k=>k.elim
 |_::_,[],k=>k.elim
theorem RV.mono(h:aW ρ ρ')(g:aW σ σ'){x:SV}{y:AV}(k:RV ρ σ x y):RV ρ' σ' x y:=by
 cases x<;>cases y<;>first|exact k.elim|skip
 ·exact⟨k.1,cm.mono h g k.2⟩
 ·exact RT.mono h g k
theorem Ee.mono(h:aW ρ ρ')(g:aW σ σ'):∀{xs:List (List SC)} {ys:List (List AC)},Ee ρ σ xs ys->Ee ρ' σ' xs ys
 |[],[],_=>trivial
 |x::xs,y::ys,k=>⟨cm.mono h g k.1,Ee.mono h g k.2⟩
 |[],_::_,k=>k.elim
 |_::_,[],k=>k.elim
theorem RH.mono(h:aW ρ ρ')(g:aW σ σ'){x y:Option (Nat×Nat×Nat×Nat)}(k:RH ρ σ x y):RH ρ' σ' x y:=by
 cases x<;>cases y<;>first|exact k.elim|trivial|skip
 obtain⟨⟨kd,z,k1,k2⟩,k3,k4,k5⟩:=k;exact⟨⟨kd,z,h.get k1,k2⟩,k3,k4,g.get k5⟩
theorem RO.mono(h:aW ρ ρ')(g:aW σ σ'){x:SO}{y:Ob}(k:RO ρ σ x y):RO ρ' σ' x y:=by
 cases x<;>cases y<;>first|exact k.elim|trivial|skip
 ·exact⟨g.get k.1,k.2.1,cm.mono h g k.2.2⟩
 ·exact⟨g.get k.1,k.2.1,k.2.2.1,k.2.2.2.1,h.get k.2.2.2.2⟩
 ·exact⟨g.get k.1,h.get k.2⟩
 ·exact⟨g.get k.1,h.get k.2⟩
 ·exact⟨g.get k.1,k.2.1,k.2.2.1,h.get k.2.2.2⟩
 ·exact⟨g.get k.1,k.2.1,k.2.2.1,Ee.mono h g k.2.2.2⟩
 ·exact⟨g.get k.1,k.2.1,h.get k.2.2.1,RH.mono h g k.2.2.2⟩
 ·exact⟨g.get k.1,k.2.1,cm.mono h g k.2.2⟩
 ·exact⟨g.get k.1,k.2.1,k.2.2.1,k.2.2.2.1,h.get k.2.2.2.2⟩
theorem cm.len:∀{xs:List SC} {ys:List AC},cm ρ σ xs ys->xs.length=ys.length
 |[],[],_=>rfl
 |x::xs,y::ys,k=>by simp[cm.len k.2]
 |[],_::_,k=>k.elim
 |_::_,[],k=>k.elim
theorem cm.drop(n:Nat):∀{xs:List SC} {ys:List AC},cm ρ σ xs ys->cm ρ σ (xs.drop n) (ys.drop n):=by
 induction n with
 |zero=>grind
 |succ n ih=>intro xs ys k;match xs,ys,k with
  |[],[],_=>simp;trivial
  |x::xs,y::ys,k=>exact ih k.2
theorem cm.take(n:Nat):∀{xs:List SC} {ys:List AC},cm ρ σ xs ys->cm ρ σ (xs.take n) (ys.take n):=by
 induction n with
 |zero=>intro xs ys k;simp;trivial
 |succ n ih=>intro xs ys k;match xs,ys,k with
  |[],[],_=>simp;trivial
  |x::xs,y::ys,k=>exact⟨k.1,ih k.2⟩
theorem cm.app:∀{xs xs':List SC} {ys ys':List AC},cm ρ σ xs ys->cm ρ σ xs' ys'->cm ρ σ (xs++xs') (ys++ys')
 |[],_,[],_,_,h=>h
 |x::xs,_,y::ys,_,k,h=>⟨k.1,cm.app k.2 h⟩
 |[],_,_::_,_,k,_=>k.elim
 |_::_,_,[],_,k,_=>k.elim
theorem cm.get:∀{xs:List SC} {ys:List AC} {i:Nat} {x:SC},cm ρ σ xs ys->xs[i]? =some x->∃y,ys[i]? =some y/\RC ρ σ x y
 |x::xs,y::ys,0,x',k,h=>by simp at h;subst h;exact⟨y,rfl,k.1⟩
 |x::xs,y::ys,i+1,x',k,h=>by obtain⟨y',h1,h2⟩:=cm.get k.2 (i:=i) (by simpa using h);grind
 |[],[],i,x,_,h=>by grind
 |[],_::_,_,_,k,_=>k.elim
 |_::_,[],_,_,k,_=>k.elim
theorem Nk:∀{xs:List (Bool×List SC)} {ys:List (Bool×List AC)} {i:Nat} {b:Bool} {cs:List SC},RT ρ σ xs ys->xs[i]? =some (b,cs)->∃y,ys[i]? =some y/\y.1=b/\cm ρ σ cs y.2
 |x::xs,y::ys,0,b,cs,k,h=>by simp at h;subst h;exact⟨y,rfl,k.1.1,k.1.2⟩
 |x::xs,y::ys,i+1,b,cs,k,h=>by obtain⟨y',h1,h2⟩:=Nk k.2 (i:=i) (by simpa using h);grind
 |[],[],i,b,cs,_,h=>by grind
 |[],_::_,_,_,_,k,_=>k.elim
 |_::_,[],_,_,_,k,_=>k.elim
theorem RD.toC:∀{is:List Nat} {xs:List DV},RD ρ is xs->cm ρ σ (is.map .d) (xs.map .d)
 |[],[],_=>trivial
 |i::is,x::xs,k=>⟨k.1,RD.toC k.2⟩
 |[],_::_,k=>k.elim
 |_::_,[],k=>k.elim
theorem RD.drop(n:Nat):∀{xs:List Nat} {ys:List DV},RD ρ xs ys->RD ρ (xs.drop n) (ys.drop n):=by
 induction n with
 |zero=>grind
 |succ n ih=>intro xs ys k;match xs,ys,k with
  |[],[],_=>simp;trivial
  |x::xs,y::ys,k=>exact ih k.2
theorem RD.take(n:Nat):∀{xs:List Nat} {ys:List DV},RD ρ xs ys->RD ρ (xs.take n) (ys.take n):=by
 induction n with
 |zero=>intro xs ys k;simp;trivial
 |succ n ih=>intro xs ys k;match xs,ys,k with
  |[],[],_=>simp;trivial
  |x::xs,y::ys,k=>exact⟨k.1,ih k.2⟩
theorem wl:∀{is:List Nat} {xs:List DV},RD ρ is xs->gL ρ is=some xs
 |[],[],_=>rfl
 |i::is,x::xs,k=>by simp[gL,k.1,wl k.2]
 |[],_::_,k=>k.elim
 |_::_,[],k=>k.elim
theorem RD.len:∀{xs:List Nat} {ys:List DV},RD ρ xs ys->xs.length=ys.length
 |[],[],_=>rfl
 |x::xs,y::ys,k=>by simp[RD.len k.2]
 |[],_::_,k=>k.elim
 |_::_,[],k=>k.elim
theorem IR:∀{is:List Nat} {xs:List DV},gL ρ is=some xs->RD ρ is xs
 |[],xs,h=>by simp[gL]at h;cases h;trivial
 |i::is,xs,h=>by
  simp[gL]at h;split at h
  ·rename_i x xs' h1 h2;cases h;exact⟨h1,IR h2⟩
  grind
def db:Nat->Nat->List Nat
 |_,0=>[]
 |m,k+1=>m::db (m+1) k
theorem Es:∀{e:List DV} {ρ:List DV},RD (ρ++e) (db ρ.length e.length) e
 |[],ρ=>trivial
 |x::e,ρ=>by
  refine⟨by simp,?_⟩;have:=Es (e:=e) (ρ:=ρ++[x])
  grind
theorem dG{e:List DV}{m k:Nat}(h:ρ.length=m)(hk:e.length=k):RD (ρ++e) (db m k) e:=by grind[Es]
theorem aj:∀{ps:List PO} {ρ ρ':List DV},ay ps ρ=some ρ'->aW ρ ρ'
 |[],ρ,ρ',h=>by grind[ay,aW.refl]
 |o::r,ρ,ρ',h=>by
  simp[ay]at h;split at h
  ·exact(aW.app _ _).trans (aj h)
  grind
theorem ai:∀{ps qs:List PO} {ρ ρ':List DV},ay (ps++qs) ρ=some ρ'->∃ρ1,ay ps ρ=some ρ1/\ay qs ρ1=some ρ'
 |[],qs,ρ,ρ',h=>⟨ρ,rfl,h⟩
 |o::r,qs,ρ,ρ',h=>by
  simp[List.cons_append,ay]at h ⊢;split at h
  ·rename_i out he;obtain⟨ρ1,h1,h2⟩:=ai h;grind
  grind
theorem az{o:PO}{ρ ρ':List DV}(h:ay [o] ρ=some ρ'):∃out,aG ρ o=some out/\ρ'=ρ++out:=by
 grind[ay]
variable {S:Sy}{s:AS}
theorem aV.more(h:aV S ρ σ s)(hp:aW ρ ρ'){m:Nat}(hm:ρ'.length=m):aV {S with m:=m} ρ' σ s:=
 ⟨h.n,h.c,hm,λt x hx=>(h.sl t x hx).mono hp (aW.refl _),λi x hx=>⟨(h.ob i x hx).1,(h.ob i x hx).2.mono hp (aW.refl _)⟩,λi b hb=>hp.get (h.kn i b hb)⟩
theorem aV.know(h:aV S ρ σ s){i:Nat}{b:Bool}(hb:ρ[i]? =some (.sc (.bool b))):aV {S with kn:=(i,b)::S.kn} ρ σ s:=
 ⟨h.n,h.c,h.m,h.sl,h.ob,λj c hc=>by
  simp[aS]at hc;split at hc
  ·grind
  ·exact h.kn j c hc⟩
theorem aV.put(h:aV S ρ σ s){d:Option Nat}{v:SV}{x:AV}(hv:RV ρ σ v x):aV (S.put d v) ρ σ (s.put d x):=by
 cases d with
 |none=>exact h
 |some t=>
  refine⟨h.n,h.c,h.m,λt' x' hx'=>?_,h.ob,h.kn⟩;simp[Sy.put,aS]at hx';simp[AS.put];split at hx'
  ·rename_i e;injection hx' with hx';subst e hx';rw[af];exact hv
  ·rename_i e;rw[aJ _ _ (λh=>e h.symm)];exact h.sl t' x' hx'
theorem aV.own(h:aV S ρ σ s){i st st':Nat}{o:SO}(ho:S.own i st=some o)(hs:σ[st]? =some st'):∃o',s.own? i st'=some o'/\RO ρ σ o o'/\s.ob i=o'/\i<S.n:=by
 unfold Sy.own at ho
 cases hl:aS S.ob i with
 |none=>grind
 |some x=>
  simp only[hl,Option.bind_some]at ho;split at ho
  ·rename_i hst;injection ho with ho;subst ho;obtain⟨hi,hr⟩:=h.ob i x hl;refine⟨s.ob i,?_,hr,rfl,hi⟩;unfold AS.own?;rw[if_pos (by rw[h.n];exact hi)]
   have:(s.ob i).st=some st':=by
    cases hx:x with
    |var a t cs=>rw[hx]at hr hst;cases hy:s.ob i<;>rw[hy]at hr<;>first|exact hr.elim|skip
                 simp only[SO.st]at hst;cases hst
                 have:=hr.1;rw[hs]at this;injection this with this;simp[Ob.st,this]
    |row a t k y=>rw[hx]at hr hst;cases hy:s.ob i<;>rw[hy]at hr<;>first|exact hr.elim|skip
                  simp only[SO.st]at hst;cases hst
                  have:=hr.1;rw[hs]at this;injection this with this;simp[Ob.st,this]
    |dx a y=>rw[hx]at hr hst;cases hy:s.ob i<;>rw[hy]at hr<;>first|exact hr.elim|skip
             simp[SO.st]at hst;cases hst
             have:=hr.1;rw[hs]at this;injection this with this;simp[Ob.st,this]
    |frz a y=>rw[hx]at hr hst;cases hy:s.ob i<;>rw[hy]at hr<;>first|exact hr.elim|skip
              simp[SO.st]at hst;cases hst
              have:=hr.1;rw[hs]at this;injection this with this;simp[Ob.st,this]
    |arr a t k es=>rw[hx]at hr hst;cases hy:s.ob i<;>rw[hy]at hr<;>first|exact hr.elim|skip
                   simp[SO.st]at hst;cases hst
                   have:=hr.1;rw[hs]at this;injection this with this;simp[Ob.st,this]
    |cur a b t y=>rw[hx]at hr hst;cases hy:s.ob i<;>rw[hy]at hr<;>first|exact hr.elim|skip
                  simp[SO.st]at hst;cases hst
                  have:=hr.1;rw[hs]at this;injection this with this;simp[Ob.st,this]
    |opn a b y q=>rw[hx]at hr hst;cases hy:s.ob i<;>rw[hy]at hr<;>first|exact hr.elim|skip
                  simp[SO.st]at hst;cases hst
                  have:=hr.1;rw[hs]at this;injection this with this;simp[Ob.st,this]
    |pvr a t cs=>rw[hx]at hr hst;cases hy:s.ob i<;>rw[hy]at hr<;>first|exact hr.elim|skip
                 simp[SO.st]at hst;cases hst
                 have:=hr.1;rw[hs]at this;injection this with this;simp[Ob.st,this]
    |shr a t k y=>rw[hx]at hr hst;cases hy:s.ob i<;>rw[hy]at hr<;>first|exact hr.elim|skip
                  simp[SO.st]at hst;cases hst
                  have:=hr.1;rw[hs]at this;injection this with this;simp[Ob.st,this]
    |dead=>rw[hx]at hst;cases hst
   rw[if_pos this]
  grind
def Zt:SO->SO
 |.shr a t k x=>.row a t k x
 |o=>o
def Sy.ownR(S:Sy)(i st:Nat):Option SO:=(S.own i st).map Zt
def Zq(ρ:List DV)(σ:List Nat):SO->Ob->Prop
 |.row st t k x,.row st' t' k' es dp=>σ[st]? =some st'/\t'=t/\k'=k/\True/\ρ[x]? =some (.sl t k es)
 |.row _ _ _ _,_=>False
 |o,o'=>RO ρ σ o o'
theorem aV.ownR(h:aV S ρ σ s){i st st':Nat}{o:SO}(ho:S.ownR i st=some o)(hs:σ[st]? =some st'):∃o',s.own? i st'=some o'/\Zq ρ σ o o'/\s.ob i=o'/\i<S.n:=by
 unfold Sy.ownR at ho
 cases hx:S.own i st with
 |none=>grind
 |some x=>
  simp only[hx,Option.map_some]at ho;injection ho with ho;obtain⟨o',k1,k2,k3,k4⟩:=h.own hx hs;refine⟨o',k1,?_,k3,k4⟩;subst ho
  cases x with
  |row a t k y=>cases o'<;>first|exact k2.elim|exact⟨k2.1,k2.2.1,k2.2.2.1,trivial,k2.2.2.2.2⟩
  |shr a t k y=>cases o'<;>first|exact k2.elim|exact⟨k2.1,k2.2.1,k2.2.2.1,trivial,k2.2.2.2.2⟩
  |_=>exact k2
end
end Go.Proofs.YtliknccmjjncbaaGreat
namespace Go.Proofs.YtliknccmjjncbaaGreat
open Go.RowKit
def gW(S:Sy):Operand->Option (List PO×SV×Sy)
 |.tmp t=>match aS S.sl t with|some v=>some ([],v,S)|none=>none
 |.const (.bool b)=>some ([.k (.bool b)],.p false [.d S.m],{S with m:=S.m+1,kn:=(S.m,b)::S.kn})
 |.const (.int k n)=>some ([.k (.int k n)],.p false [.d S.m],{S with m:=S.m+1})
 |.const (.string x)=>some ([.k (.string x)],.p false [.d S.m],{S with m:=S.m+1})
 |.const (.slice none 0 0)=>some ([],.p false [.nil],S)
 |_=>none
section
variable {P:Program}{ρ ρ':List DV}{σ σ':List Nat}{S S':Sy}{s:AS}{ps:List PO}{v:SV}
theorem aU{x:Operand}(h:gW S x=some (ps,v,S'))(he:ay ps ρ=some ρ')(hr:aV S ρ σ s):RV ρ' σ v (s.ev x)/\aV S' ρ' σ s:=by
 have key:∀(u:Value),uk u=true->ay [.k u] ρ=some ρ'->ρ'=ρ++[.sc u]/\ρ'.length=S.m+1/\ρ'[S.m]? =some (.sc u):=by
  intro u hu he;obtain⟨out,h1,h2⟩:=az he;simp only[aG,hu,if_true]at h1;injection h1 with h1;subst h1 h2;exact⟨rfl,by simp[hr.m],by simp[<-hr.m]⟩
 unfold gW at h;split at h
 ·split at h
  ·rename_i v' hv;injection h with h;injection h with h1 h;injection h with h2 h3;subst h1 h2 h3;simp only[ay]at he;cases he;exact⟨hr.sl _ _ hv,hr⟩
  grind
 ·injection h with h;injection h with h1 h;injection h with h2 h3;subst h1 h2 h3;obtain⟨e1,e2,e3⟩:=key _ rfl he;have hp:=aj he;refine⟨⟨rfl,e3,trivial⟩,?_⟩;exact(hr.more hp e2).know e3
 ·injection h with h;injection h with h1 h;injection h with h2 h3;subst h1 h2 h3;obtain⟨e1,e2,e3⟩:=key _ rfl he;exact⟨⟨rfl,e3,trivial⟩,hr.more (aj he) e2⟩
 ·injection h with h;injection h with h1 h;injection h with h2 h3;subst h1 h2 h3;obtain⟨e1,e2,e3⟩:=key _ rfl he;exact⟨⟨rfl,e3,trivial⟩,hr.more (aj he) e2⟩
 ·injection h with h;injection h with h1 h;injection h with h2 h3;subst h1 h2 h3;simp[ay]at he;cases he;exact⟨⟨rfl,trivial,trivial⟩,hr⟩
 grind
def Sy.bind(S:Sy)(k:Nat):Sy:={S with m:=S.m+k}
theorem aV.bind(h:aV S ρ σ s){out:List DV}{k:Nat}(hk:out.length=k):aV (S.bind k) (ρ++out) σ s:=
 h.more (aW.app _ _) (by simp[h.m,hk])
def one(v:SV):Option SC:=match v with|.p false [c]=>some c|_=>none
def Fe(v:SV):Option Nat:=match v with|.p false [.d i]=>some i|_=>none
theorem bk{x:AV}{c:SC}(h:one v=some c)(hv:RV ρ σ v x):∃y,x=.p false [y]/\RC ρ σ c y:=by
 unfold one at h;split at h
 ·cases h
  cases x with
  |p b cs=>
   obtain⟨rfl,hc⟩:=hv
   match cs,hc with
   |[y],hc=>exact⟨y,rfl,hc.1⟩
  |tup=>exact hv.elim
  |und=>exact hv.elim
 grind
theorem sy{i:Nat}{y:AC}(h:RC ρ σ (.d i) y):∃x,y=.d x/\ρ[i]? =some x:=by
 cases y<;>first|exact h.elim|exact⟨_,rfl,h⟩
theorem cJ{x:AV}{i:Nat}(h:Fe v=some i)(hv:RV ρ σ v x):∃y,x=.p false [.d y]/\ρ[i]? =some y:=by
 unfold Fe at h;split at h
 ·rename_i j;injection h with h;subst h;obtain⟨y,rfl,hy⟩:=bk (c:=.d j) rfl hv
  grind[sy]
 grind
def Vb(P:Program)(t:TypeId)(cs:List SC):Option SV:=
 match bR P t with
 |some true=>match cG P t with|some k=>if k<=cs.length then some (.p true (cs.take k))else none|none=>none
 |some false=>match cs with|c::_=>some (.p false [c])|[]=>none
 |none=>none
theorem Bq{t:TypeId}{cs:List SC}{ys:List AC}(h:Vb P t cs=some v)(hc:cm ρ σ cs ys):∃x,JX P t ys=some x/\RV ρ σ v x:=by
 unfold Vb at h;unfold JX;split at h
 ·split at h
  ·split at h
   ·rename_i k hk hl;cases h;refine⟨.p true (ys.take k),?_,rfl,hc.take k⟩;simp only[*];rw[if_pos (by rw[<-hc.len];exact hl)]
   grind
  grind
 ·split at h
  ·rename_i c r;cases h
   match ys,hc with
   |y::ys,hc=>refine⟨.p false [y],?_,rfl,hc.1,trivial⟩;grind
  grind
 grind
def Js(P:Program)(S:Sy)(t:TypeId):SC->Option (List PO×SV×Sy)
 |.ptr i st off=>match S.own i st with
  |some (.var _ _ cs)=>(match Vb P t (cs.drop off)with|some v=>some ([],v,S)|none=>none)
  |some (.cur _ _ ty z)=>(match cG P ty with
   |some n=>(match Vb P t (((db S.m n).drop off).map .d)with|some v=>some ([.unc z n],v,S.bind n)|none=>none)
   |none=>none)
  |some (.pvr _ _ cs)=>(match Vb P t (cs.drop off)with|some v=>some ([],v,S)|none=>none)
  |_=>none
 |.elt i st k j off=>match S.ownR i st with
  |some (.row _ _ k' x)=>if k'=k then(match Vb P t (((db S.m k).drop off).map .d)with|some v=>some ([.idx k x j],v,S.bind k)|none=>none)else none
  |_=>none
 |.rd cs=>match Vb P t (cs.map .d)with|some v=>some ([],v,S)|none=>none
 |_=>none
theorem wi{k x i:Nat}{out:List DV}(h:aG ρ (.idx k x i)=some out):∃t es kd z,ρ[x]? =some (.sl t k es)/\ρ[i]? =some (.sc (.int kd z))/\0<=z/\es[z.toNat]? =some out/\out.length=k:=by
 grind[aG]
theorem GD{t:TypeId}{c:SC}{y:AC}(h:Js P S t c=some (ps,v,S'))(he:ay ps ρ=some ρ')(hr:aV S ρ σ s)(hc:RC ρ σ c y):
 ∃x,G7 P s t (.p false [y])=some x/\RV ρ' σ v x/\aV S' ρ' σ s:=by
 unfold Js at h;split at h
 ·rename_i i st off;cases y<;>first|exact hc.elim|skip
  rename_i i' st' off';obtain⟨rfl,hst,rfl⟩:=hc;split at h
  ·rename_i a ty cs ho;split at h
   ·rename_i v' hv;injection h with h;injection h with h1 h;injection h with h2 h3;subst h1 h2 h3;simp[ay]at he;cases he;obtain⟨o',k1,k2,-,-⟩:=hr.own ho hst;cases o'<;>first|exact k2.elim|skip
    rename_i b ty' ys;obtain⟨x,q1,q2⟩:=Bq (P:=P) hv (k2.2.2.drop off')
    grind[G7]
   grind
  ·rename_i a id ty z ho;split at h
   ·rename_i n hn;split at h
    ·rename_i v' hv;injection h with h;injection h with h1 h;injection h with h2 h3;subst h1 h2 h3;obtain⟨out,e1,rfl⟩:=az he;obtain⟨o',k1,k2,-,-⟩:=hr.own ho hst;cases o'<;>first|exact k2.elim|skip
     rename_i b id' ty' x0 cs0;obtain⟨-,rfl,rfl,hz⟩:=k2;simp only[aG,hz,TD]at e1;split at e1
     ·rename_i hl;cases e1;have hln:(x0::cs0).length=n:=by assumption
      have hrd:RD (ρ++(x0::cs0)) (db S.m n) (x0::cs0):=dG hr.m hln;obtain⟨x,q1,q2⟩:=Bq (P:=P) (σ:=σ) hv (RD.toC (hrd.drop off'));refine⟨x,?_,q2,hr.bind hln⟩
      grind[G7,List.map_drop]
     grind
    grind
   grind
  ·rename_i a ty cs ho;split at h
   ·rename_i v' hv;injection h with h;injection h with h1 h;injection h with h2 h3;subst h1 h2 h3;simp[ay]at he;cases he;obtain⟨o',k1,k2,-,-⟩:=hr.own ho hst;cases o'<;>first|exact k2.elim|skip
    rename_i b ty' ys;obtain⟨x,q1,q2⟩:=Bq (P:=P) hv (k2.2.2.drop off')
    grind[G7]
   grind
  grind
 ·rename_i i st k j off;cases y<;>first|exact hc.elim|skip
  rename_i i' st' k' j' off';obtain⟨rfl,hst,rfl,⟨kd,z,hz1,hz2,rfl⟩,rfl⟩:=hc;split at h
  ·rename_i a ty k'' x ho;split at h
   ·rename_i hk;subst hk;split at h
    ·rename_i v' hv;injection h with h;injection h with h1 h;injection h with h2 h3;subst h1 h2 h3;obtain⟨out,e1,rfl⟩:=az he;obtain⟨t',es,kd',z',i1,i2,i3,i4,i5⟩:=wi e1;obtain⟨o',k1,k2,-,-⟩:=hr.ownR ho hst;cases o'<;>first|exact k2.elim|skip
     rename_i b ty' kk es' dp;obtain⟨-,rfl,rfl,-,hx⟩:=k2;rw[i1]at hx;injection hx with hx;injection hx with hx1 hx2 hx3;subst hx1 hx3;rw[hz1]at i2;injection i2 with i2;injection i2 with i2;injection i2 with i2a i2b;subst i2b;have hrd:RD (ρ++out) (db S.m kk) out:=dG hr.m i5;obtain⟨x',q1,q2⟩:=Bq (P:=P) (σ:=σ) hv (RD.toC (hrd.drop off'));refine⟨x',?_,q2,hr.bind i5⟩;simp_all[G7,if_true]
    grind
   grind
  grind
 ·rename_i cs;cases y<;>first|exact hc.elim|skip
  split at h
  ·rename_i v' hv;injection h with h;injection h with h1 h;injection h with h2 h3;subst h1 h2 h3;simp[ay]at he;cases he;obtain⟨x,q1,q2⟩:=Bq (P:=P) (σ:=σ) hv (RD.toC hc);exact⟨x,q1,q2,hr⟩
  grind
 grind
def Y2(P:Program)(S:Sy)(t:TypeId)(f:Nat)(c:SC):Option SV:=
 match dd P t f with
 |some (fo,k,_)=>if 0<k then(match c with
  |.ptr i st off=>if(S.own i st).isSome then some (.p false [.ptr i st (off+fo)])else none
  |.elt i st k' j off=>if(S.own i st).isSome then some (.p false [.elt i st k' j (off+fo)])else none
  |.rd cs=>some (.p false [.rd (cs.drop fo)])
  |.own i st=>(match S.own i st with|some (.cur _ _ _ _)=>some (.p false [.ptr i st fo])|_=>none)
  |_=>none)else none
 |none=>none
theorem cU(hr:aV S ρ σ s){i st st':Nat}(h:(S.own i st).isSome=true)(hs:σ[st]? =some st'):(s.own? i st').isSome=true:=by
 obtain⟨o,ho⟩:=Option.isSome_iff_exists.1 h;obtain⟨o',k1,-⟩:=hr.own ho hs;rw[k1];rfl
theorem TE{t:TypeId}{f:Nat}{c:SC}{y:AC}(h:Y2 P S t f c=some v)(hr:aV S ρ σ s)(hc:RC ρ σ c y):∃x,P0 P s t f (.p false [y])=some x/\RV ρ σ v x:=by
 unfold Y2 at h;unfold P0;split at h
 ·rename_i fo k ag hf;split at h
  ·rename_i hk;rw[hf];simp[if_pos hk];split at h
   ·cases y<;>first|exact hc.elim|skip
    obtain⟨rfl,hst,rfl⟩:=hc;split at h
    ·rename_i ho;cases h;simp only[cU hr ho hst,if_true];exact⟨_,rfl,rfl,⟨rfl,hst,rfl⟩,trivial⟩
    grind
   ·cases y<;>first|exact hc.elim|skip
    obtain⟨rfl,hst,rfl,hj,rfl⟩:=hc;split at h
    ·rename_i ho;cases h;simp only[cU hr ho hst,if_true];exact⟨_,rfl,rfl,⟨rfl,hst,rfl,hj,rfl⟩,trivial⟩
    grind
   ·cases y<;>first|exact hc.elim|skip
    cases h;exact⟨_,rfl,rfl,RD.drop fo hc,trivial⟩
   ·split at h
    ·rename_i i st _ _ _ _ ho;cases h;cases y<;>first|exact hc.elim|skip
     rename_i i' st';obtain⟨rfl,hst⟩:=hc;obtain⟨o',k1,k2,-,-⟩:=hr.own ho hst;cases o'<;>first|exact k2.elim|skip
     refine⟨.p false [.ptr i' st' fo],?_,rfl,⟨rfl,hst,rfl⟩,trivial⟩
     grind
    grind
   grind
  grind
 grind
def Y3(P:Program)(t:TypeId)(f:Nat)(x:SV):Option SV:=
 match dd P t f,x with
 |some (fo,k,true),.p true cs=>if fo+k<=cs.length then some (.p true ((cs.drop fo).take k))else none
 |some (fo,k,false),.p true cs=>(match cs[fo]? with|some c=>some (.p false [c])|none=>none)
 |_,_=>none
theorem TV{t:TypeId}{f:Nat}{w:SV}{y:AV}(h:Y3 P t f w=some v)(hw:RV ρ σ w y):∃x,O6 P t f y=some x/\RV ρ σ v x:=by
 unfold Y3 at h;split at h
 ·rename_i fo k cs hf;split at h
  ·rename_i hl;cases h;cases y<;>first|exact hw.elim|skip
   rename_i b ys;obtain⟨rfl,hc⟩:=hw;refine⟨.p true ((ys.drop fo).take k),?_,rfl,(hc.drop fo).take k⟩;simp only[O6,hf];rw[if_pos (by rw[<-hc.len];exact hl)]
  grind
 ·rename_i fo k cs hf;split at h
  ·rename_i c hc';cases h;cases y<;>first|exact hw.elim|skip
   rename_i b ys;obtain⟨rfl,hc⟩:=hw;obtain⟨y,k1,k2⟩:=hc.get hc';exact⟨.p false [y],by simp_all[O6],rfl,k2,trivial⟩
  grind
 grind
def Ur(P:Program)(S:Sy)(t:TypeId)(i:Nat):SC->Option (List PO×SV×Sy)
 |.d x=>match dN P t with|some (_,k)=>some ([.idx k x i],.p false [.rd (db S.m k)],S.bind k)|none=>none
 |.own id st=>match dN P t,S.ownR id st with
  |some (_,k),some (.row _ _ k' x)=>if k'=k then some ([.chk k x i],.p false [.elt id st k i 0],S)else none
  |some (_,k),some (.frz _ x)=>some ([.idx k x i],.p false [.rd (db S.m k)],S.bind k)
  |_,_=>none
 |.sub id st k z m=>match dN P t,S.ownR id st with
  |some (_,k1),some (.row _ _ k2 x)=>if k1=k/\k2=k then some ([.atJ z m i],.p false [.elt id st k S.m 0],S.bind 1)else none
  |_,_=>none
 |.nil=>match dN P t with|some (_,k)=>some ([.stop k],.p false [.rd (db S.m k)],S.bind k)|none=>none
 |_=>none
theorem P1{t:TypeId}{i:Nat}{c:SC}{y:AC}{kd:IntKind}{z:Int}(h:Ur P S t i c=some (ps,v,S'))(he:ay ps ρ=some ρ')(hr:aV S ρ σ s)(hc:RC ρ σ c y)(hi:ρ[i]? =some (.sc (.int kd z))):
 ∃x,tJ P s t y z=some x/\RV ρ' σ v x/\aV S' ρ' σ s:=by
 unfold Ur at h;split at h
 ·obtain⟨x,rfl,hx⟩:=sy hc;split at h
  ·rename_i el k ht;injection h with h;injection h with h1 h;injection h with h2 h3;subst h1 h2 h3;obtain⟨out,e1,rfl⟩:=az he;obtain⟨t',es,kd',z',i1,i2,i3,i4,i5⟩:=wi e1;rw[hx]at i1;cases i1;rw[hi]at i2;injection i2 with i2;injection i2 with i2;injection i2 with i2a i2b;subst i2b;refine⟨.p false [.rd out],?_,⟨rfl,dG hr.m i5,trivial⟩,hr.bind i5⟩;simp_all[tJ,if_pos,if_true]
  grind
 ·rename_i id st;cases y<;>first|exact hc.elim|skip
  obtain⟨rfl,hst⟩:=hc;split at h
  ·rename_i el k a ty k' x ht ho;split at h
   ·rename_i hk;subst hk;injection h with h;injection h with h1 h;injection h with h2 h3;subst h1 h2 h3;obtain⟨out,e1,rfl⟩:=az he;obtain⟨o',k1,k2,-,-⟩:=hr.ownR ho hst;cases o'<;>first|exact k2.elim|skip
    rename_i b ty' kk es' dp;obtain⟨-,rfl,rfl,-,hx⟩:=k2;simp only[aG,hx,hi]at e1;split at e1
    ·rename_i hb;cases e1;rw[List.append_nil];refine⟨.p false [.elt _ _ kk z.toNat 0],?_,⟨rfl,⟨rfl,hst,rfl,⟨kd,z,hi,hb.2.1,rfl⟩,rfl⟩,trivial⟩,hr⟩;simp_all[tJ,if_pos]
    grind
   grind
  ·rename_i el k a x ht ho;injection h with h;injection h with h1 h;injection h with h2 h3;subst h1 h2 h3;obtain⟨out,e1,rfl⟩:=az he;obtain⟨t',es,kd',z',i1,i2,i3,i4,i5⟩:=wi e1;obtain⟨o',k1,k2,-,-⟩:=hr.ownR ho hst;cases o'<;>first|exact k2.elim|skip
   rename_i b yy;obtain⟨-,hx⟩:=k2;rw[hx]at i1;cases i1;rw[hi]at i2;injection i2 with i2;injection i2 with i2;injection i2 with i2a i2b;subst i2b;refine⟨.p false [.rd out],?_,⟨rfl,dG hr.m i5,trivial⟩,hr.bind i5⟩;simp_all[tJ,if_pos,if_true]
  grind
 ·rename_i id st k zz mm;cases y<;>first|exact hc.elim|skip
  rename_i i' st' k' lo' n';obtain⟨rfl,hst,rfl,⟨u,u1,u2,rfl⟩,⟨v',v1,v2,rfl⟩⟩:=hc;split at h
  ·rename_i el k1 a ty k2 x ht ho;split at h
   ·rename_i hk;obtain⟨rfl,rfl⟩:=hk;injection h with h;injection h with h1 h;injection h with h2 h3;subst h1 h2 h3;obtain⟨out,e1,rfl⟩:=az he;obtain⟨o',q1,q2,-,-⟩:=hr.ownR ho hst;cases o'<;>first|exact q2.elim|skip
    rename_i b ty' kk es' dp;obtain⟨-,rfl,rfl,-,hx⟩:=q2;simp only[aG,u1,v1,hi]at e1;split at e1
    ·rename_i hb;cases e1;have hj:z.toNat<v'.toNat:=by omega
     refine⟨.p false [.elt _ _ kk (u.toNat+z.toNat) 0],?_,⟨rfl,⟨rfl,hst,rfl,⟨.i64,u+z,by show(_:List DV)[_]? =_;simp[<-hr.m],by omega,by omega⟩,rfl⟩,trivial⟩,hr.bind rfl⟩;simp_all[tJ,if_pos]
    grind
   grind
  grind
 ·grind[az,aG]
 grind
end
end Go.Proofs.YtliknccmjjncbaaGreat
namespace Go.Proofs.YtliknccmjjncbaaGreat
open Go.RowKit
abbrev SR:=Option (List PO×SV×Sy)
def dD(r:SR)(k:SV->Sy->SR):SR:=
 match r with
 |some (p,v,S)=>(match k v S with|some (q,u,T)=>some (p++q,u,T)|none=>none)
 |none=>none
theorem bm{r:SR}{k:SV->Sy->SR}{ps:List PO}{v:SV}{S':Sy}(h:dD r k=some (ps,v,S')):∃p v1 S1 q,r=some (p,v1,S1)/\k v1 S1=some (q,v,S')/\ps=p++q:=by
 unfold dD at h
 grind
def Yi(P:Program)(t:TypeId):Bool:=match P.underlying t with|some .bool=>true|_=>false
def M0(P:Program)(t:TypeId):Bool:=match P.underlying t with|some .string=>true|_=>false
theorem GJ{P:Program}{t:TypeId}(h:M0 P t=true):P.underlying t=some .string:=by
 grind[M0]
theorem Ub{P:Program}{op:BinOp}{t:TypeId}{a b w:Value}(h:kh op (Yi P t) a b=some w):An P op t a b=some w:=by
 unfold kh at h
 grind[An,bool,Yi]
def YI(P:Program)(a b:TypeId)(S:Sy)(i:Nat):SR:=
 match P.underlying a,P.underlying b with
 |some _,some (.int k)=>some ([.cvI k i],.p false [.d S.m],S.bind 1)
 |some _,some .string=>some ([.cvS i],.p false [.d S.m],S.bind 1)
 |_,_=>none
def Yl(S:Sy):SC->SR
 |.d i=>some ([.cvB i],.p false [.d S.m],S.bind 1)
 |.own i st=>(match S.own i st with
  |some (.row _ _ _ x)=>some ([.cvB x],.p false [.d S.m],S.bind 1)
  |some (.frz _ x)=>some ([.cvB x],.p false [.d S.m],S.bind 1)
  |_=>none)
 |_=>none
def Tq(P:Program)(S:Sy)(t:TypeId):SC->SR
 |.d i=>if M0 P t then some ([.lenS i],.p false [.d S.m],S.bind 1)else if(dN P t).isSome then some ([.lenL i],.p false [.d S.m],S.bind 1)else none
 |.nil=>if(dN P t).isSome then some ([.k (.int .i64 0)],.p false [.d S.m],S.bind 1)else none
 |.own i st=>if(dN P t).isSome then(match S.ownR i st with
  |some (.row _ _ _ x)=>some ([.lenL x],.p false [.d S.m],S.bind 1)
  |some (.frz _ x)=>some ([.lenL x],.p false [.d S.m],S.bind 1)
  |some (.dx _ x)=>some ([.lenL x],.p false [.d S.m],S.bind 1)
  |some (.opn _ _ x _)=>some ([.lenL x],.p false [.d S.m],S.bind 1)
  |_=>none)else none
 |.sub i st _ _ m=>if(dN P t).isSome/\(S.own i st).isSome then some ([],.p false [.d m],S)else none
 |.emp=>if(dN P t).isSome then some ([.k (.int .i64 0)],.p false [.d S.m],S.bind 1)else none
 |_=>none
def F9(S:Sy):Option Operand->Option (List PO×Option Nat×Sy)
 |none=>some ([],none,S)
 |some x=>match gW S x with|some (p,v,S1)=>(match Fe v with|some i=>some (p,some i,S1)|none=>none)|none=>none
def WO(P:Program)(t:TypeId)(i:Nat)(lo hi:Option Nat)(S:Sy):SR:=
 if M0 P t then some ([.cutS i lo hi],.p false [.d S.m],S.bind 1)else match dN P t with|some (_,k)=>some ([.cutL k i lo hi],.p false [.d S.m],S.bind 1)|none=>none
def UV(P:Program)(t:TypeId)(S:Sy)(v:SV)(lo hi:Option Operand):SR:=
 match Fe v with
 |some i=>(match F9 S lo with
  |some (p,l,S1)=>(match F9 S1 hi with
   |some (q,h,S2)=>(match WO P t i l h S2 with|some (r,u,S3)=>some (p++(q++r),u,S3)|none=>none)
   |none=>none)
  |none=>none)
 |none=>(match v with
  |.p false [.own i st]=>(match dN P t,S.ownR i st with
   |some (_,k1),some (.row _ _ k x)=>if k1=k then(match F9 S lo with
    |some (p,l,S1)=>(match F9 S1 hi with
     |some (q,h,S2)=>some (p++(q++[.cutI x l h]),.p false [.sub i st k S2.m (S2.m+1)],S2.bind 2)
     |none=>none)
    |none=>none)else none
   |_,_=>none)
  |.p false [.sub i st k z m]=>(match dN P t,S.ownR i st with
   |some (_,k1),some (.row _ _ k2 x)=>if k1=k/\k2=k then(match F9 S lo with
    |some (p,l,S1)=>(match F9 S1 hi with
     |some (q,h,S2)=>some (p++(q++[.cutJ z m l h]),.p false [.sub i st k S2.m (S2.m+1)],S2.bind 2)
     |none=>none)
    |none=>none)else none
   |_,_=>none)
  |_=>none)
def Fb:List SC->Option (List Nat)
 |[]=>some []
 |.d i::r=>(match Fb r with|some is=>some (i::is)|none=>none)
 |_::_=>none
theorem Ei{ρ:List DV}{σ:List Nat}:∀{cs:List SC} {is:List Nat} {ys:List AC},Fb cs=some is->cm ρ σ cs ys->∃ds,ys=ds.map .d/\RD ρ is ds
 |[],is,ys,h,hc=>by
  simp[Fb]at h;cases h
  cases ys with
  |nil=>exact⟨[],rfl,trivial⟩
  |cons=>exact hc.elim
 |c::r,is,[],h,hc=>hc.elim
 |.d i::r,is,y::ys,h,hc=>by
  simp[Fb]at h;split at h
  ·rename_i js hj;cases h;obtain⟨x,rfl,hx⟩:=sy hc.1;obtain⟨ds,rfl,h2⟩:=Ei hj hc.2;exact⟨x::ds,rfl,hx,h2⟩
  grind
 |.nil::_,is,_::_,h,_=>by grind[Fb]
 |.own _ _::_,is,_::_,h,_=>by grind[Fb]
 |.ptr _ _ _::_,is,_::_,h,_=>by grind[Fb]
 |.elt _ _ _ _ _::_,is,_::_,h,_=>by grind[Fb]
 |.sub _ _ _ _ _::_,is,_::_,h,_=>by grind[Fb]
 |.emp::_,is,_::_,h,_=>by grind[Fb]
 |.rd _::_,is,_::_,h,_=>by grind[Fb]
 |.fn _ _::_,is,_::_,h,_=>by grind[Fb]
 |.lit _::_,is,_::_,h,_=>by grind[Fb]
theorem O0:∀{ks:List Kd} {ds es:List DV} {b:Bool},EZ ks ds es=some b->Fs ks (ds.map .d) (es.map .d)=some b
 |[],[],[],b,h=>h
 |k::ks,.sc x::ds,.sc y::es,b,h=>by
  simp[EZ]at h;split at h
  ·rename_i p q h1 h2;cases h;simp[List.map_cons,Fs,h1,O0 h2]
  grind
 |[],_::_,_,_,h=>by assumption
 |[],[],_::_,_,h=>by assumption
 |_::_,[],_,_,h=>by assumption
 |_::_,_::_,[],_,h=>by grind[EZ]
 |_::_,.sl _ _ _::_,_::_,_,h=>by assumption
 |_::_,.sc _::_,.sl _ _ _::_,_,h=>by assumption
def Zg(P:Program)(op:BinOp)(t:TypeId)(S:Sy)(v u:SV):SR:=
 match v,u with
 |.p true cs,.p true cs'=>(match Fb cs,Fb cs',Ez P t,op with
  |some is,some js,some ks,.eql=>some ([.eqS false ks is js],.p false [.d S.m],S.bind 1)
  |some is,some js,some ks,.neq=>some ([.eqS true ks is js],.p false [.d S.m],S.bind 1)
  |_,_,_,_=>none)
 |_,_=>none
def W2(P:Program)(S:Sy):Op->SR
 |.move x=>gW S x
 |.assign x=>gW S x
 |.pick c x y=>dD (gW S c) λv S1=>match Fe v with|some i=>(match aS S1.kn i with|some b=>gW S1 (if b then x else y)|none=>none)|none=>none
 |.load t x=>dD (gW S x) λv S1=>match one v with|some c=>Js P S1 t c|none=>none
 |.fieldAddr t x f=>dD (gW S x) λv S1=>match one v with|some c=>(match Y2 P S1 t f c with|some u=>some ([],u,S1)|none=>none)|none=>none
 |.field t x f=>dD (gW S x) λv S1=>match Y3 P t f v with|some u=>some ([],u,S1)|none=>none
 |.indexAddr t x ix=>dD (gW S ix) λv S1=>match Fe v with|some i=>dD (gW S1 x) λu S2=>(match one u with|some c=>dD (some ([.isI i],.p false [],S2)) λ_ S3=>Ur P S3 t i c|none=>none)|none=>none
 |.index t x ix=>dD (gW S x) λv S1=>dD (gW S1 ix) λu S2=>match Fe v,Fe u with|some i,some j=>if M0 P t then some ([.chr i j],.p false [.d S2.m],S2.bind 1)else none|_,_=>none
 |.binOp op t x y _=>dD (gW S x) λv S1=>dD (gW S1 y) λu S2=>match Fe v,Fe u with|some i,some j=>some ([.bin op (Yi P t) i j],.p false [.d S2.m],S2.bind 1)|_,_=>Zg P op t S2 v u
 |.unOp op _ x=>dD (gW S x) λv S1=>match Fe v with|some i=>some ([.un op i],.p false [.d S1.m],S1.bind 1)|_=>none
 |.convert a b x=>dD (gW S x) λv S1=>if E8 P a b then(match one v with|some c=>Yl S1 c|none=>none)else match Fe v with|some i=>YI P a b S1 i|_=>none
 |.extract x ix=>dD (gW S x) λv S1=>match v with|.tup xs=>(match xs[ix]? with|some (b,cs)=>some ([],.p b cs,S1)|none=>none)|_=>none
 |.slice t x lo hi none=>dD (gW S x) λv S1=>UV P t S1 v lo hi
 |.call c=>match c.callee,c.args.toList,c.argTypes.toList with
  |.builtin .len,[x],[t]=>dD (gW S x) λv S1=>(match one v with|some c=>Tq P S1 t c|none=>none)
  |.builtin .max,[x,y],_=>dD (gW S x) λv S1=>dD (gW S1 y) λu S2=>(match Fe v,Fe u with|some i,some j=>some ([.mm true i j],.p false [.d S2.m],S2.bind 1)|_,_=>none)
  |.builtin .min,[x,y],_=>dD (gW S x) λv S1=>dD (gW S1 y) λu S2=>(match Fe v,Fe u with|some i,some j=>some ([.mm false i j],.p false [.d S2.m],S2.bind 1)|_,_=>none)
  |_,_,_=>none
 |.nilCheck x=>dD (gW S x) λv S1=>match v with|.p false [.own i st]=>(match S1.own i st with|some (.cur _ _ _ _)=>some ([],v,S1)|_=>none)|.p false [.ptr i st off]=>if(S1.own i st).isSome then some ([],v,S1)else none|.p false [.elt i st k j off]=>if(S1.own i st).isSome then some ([],v,S1)else none|_=>none
 |_=>none
section
variable {P:Program}{ρ ρ':List DV}{σ σ':List Nat}{S S':Sy}{s:AS}{ps:List PO}{v:SV}
theorem y9(hr:aV S ρ σ s){o:PO}{w:Value}(h:aG ρ o=some [.sc w])(he:ay [o] ρ=some ρ'):RV ρ' σ (.p false [.d S.m]) (mo w)/\aV (S.bind 1) ρ' σ s:=by
 obtain⟨out,h1,rfl⟩:=az he;rw[h]at h1;cases h1;exact⟨⟨rfl,by show(_:List DV)[_]? =_;simp[<-hr.m],trivial⟩,hr.bind rfl⟩
theorem FG{x:Option Value}{out:List DV}(h:zx x=some out):∃w,x=some w/\out=[.sc w]:=by
 unfold zx at h;grind
theorem TG{a b:TypeId}{i:Nat}(h:YI P a b S i=some (ps,v,S'))(he:ay ps ρ=some ρ')(hr:aV S ρ σ s){y:DV}(hy:ρ[i]? =some y):∃u,Pa P a b (.p false [.d y])=some u/\RV ρ' σ v u/\aV S' ρ' σ s:=by
 unfold YI at h;split at h
 ·rename_i d k h1 h2;injection h with h;injection h with e1 h;injection h with e2 e3;subst e1 e2 e3;obtain⟨out,o1,-⟩:=az he;simp[aG,hy]at o1;split at o1
  ·rename_i kk n hyy;cases hyy;injection o1 with o1;obtain⟨q1,q2⟩:=y9 (w:=.int k (k.wrap n)) hr (by grind[aG]) he;simp_all[Pa,R9]
  grind
 ·rename_i d h1 h2;injection h with h;injection h with e1 h;injection h with e2 e3;subst e1 e2 e3;obtain⟨out,o1,-⟩:=az he;simp[aG,hy]at o1;split at o1
  ·rename_i n hyy;cases hyy;injection o1 with o1;obtain⟨q1,q2⟩:=y9 (w:=.string n) hr (by grind[aG]) he;simp_all[Pa,R9]
  grind
 grind
theorem K3{a b:TypeId}{y:DV}{t k:Nat}{es:List (List DV)}(hy:y=.sl t k es):Pa P a b (.p false [.d y])=none:=by subst hy;rfl
theorem Uf{a b:TypeId}{c:SC}{y:AC}(hT:E8 P a b=true)(h:Yl S c=some (ps,v,S'))(he:ay ps ρ=some ρ')(hr:aV S ρ σ s)(hc:RC ρ σ c y):∃u,O4 P s a b (.p false [y])=some u/\RV ρ' σ v u/\aV S' ρ' σ s:=by
 have fin:∀{x:Nat} {d:DV},ps=[.cvB x]->v=.p false [.d S.m]->S'=S.bind 1->ρ[x]? =some d->PW s y=some d->Pa P a b (.p false [y])=none->∃u,O4 P s a b (.p false [y])=some u/\RV ρ' σ v u/\aV S' ρ' σ s:=by
  intro x d e1 e2 e3 hx hrd hcv;subst e1 e2 e3;obtain⟨out,o1,-⟩:=az he;have o1':=o1;simp[aG,hx]at o1;split at o1
  ·rename_i t es hd;cases hd;split at o1
   ·rename_i xs hn;cases o1;obtain⟨q1,q2⟩:=y9 hr o1' he;simp_all[O4,cvB,if_true]
   grind
  grind
 unfold Yl at h;split at h
 ·rename_i i;injection h with h;injection h with e1 h;injection h with e2 e3;obtain⟨x,rfl,hx⟩:=sy hc;obtain⟨out,o1,-⟩:=az (e1▸he)
  have hcv:Pa P a b (.p false [.d x])=none:=by
   grind[aG,K3]
  exact fin e1.symm e2.symm e3.symm hx rfl hcv
 ·cases y<;>first|exact hc.elim|skip
  obtain⟨rfl,hst⟩:=hc;split at h
  ·rename_i ho;injection h with h;injection h with e1 h;injection h with e2 e3;obtain⟨o',k1,k2,k3,k4⟩:=hr.own ho hst;cases o'<;>first|exact k2.elim|skip
   obtain⟨-,rfl,rfl,rfl,hx⟩:=k2;obtain⟨g1,g2,g3⟩:=am k1;refine fin e1.symm e2.symm e3.symm hx ?_ rfl;simp_all[AS.lv,if_pos,Ob.st,Option.some.injEq,PW,if_true]
  ·rename_i ho;injection h with h;injection h with e1 h;injection h with e2 e3;obtain⟨o',k1,k2,k3,k4⟩:=hr.own ho hst;cases o'<;>first|exact k2.elim|skip
   obtain⟨-,hx⟩:=k2;obtain⟨g1,g2,g3⟩:=am k1;refine fin e1.symm e2.symm e3.symm hx ?_ rfl;simp_all[AS.lv,if_pos,Ob.st,Option.some.injEq,PW,if_true]
  grind
 grind
theorem Pk{t:TypeId}{c:SC}{y:AC}(h:Tq P S t c=some (ps,v,S'))(he:ay ps ρ=some ρ')(hr:aV S ρ σ s)(hc:RC ρ σ c y):∃n,lz P s t y=some n/\RV ρ' σ v (mo (.int .i64 n))/\aV S' ρ' σ s:=by
 have fin:∀{o:PO} {n:Nat},ps=[o]->v=.p false [.d S.m]->S'=S.bind 1->aG ρ o=some [.sc (.int .i64 n)]->RV ρ' σ v (mo (.int .i64 n))/\aV S' ρ' σ s:=by
  grind[y9]
 unfold Tq at h;split at h
 ·obtain⟨x,rfl,hx⟩:=sy hc
  grind[az,aG,lz,GJ]
 ·cases y<;>first|exact hc.elim|skip
  grind[lz,aG,uk]
 ·cases y<;>first|exact hc.elim|skip
  obtain⟨rfl,hst⟩:=hc;split at h
  ·rename_i ht;split at h
   ·rename_i ho;injection h with h;injection h with e1 h;injection h with e2 e3;obtain⟨o',k1,k2,-,-⟩:=hr.ownR ho hst;cases o'<;>first|exact k2.elim|skip
    rename_i b ty' kk es' dp;obtain⟨-,rfl,rfl,-,hx⟩:=k2
    grind[lz,aG]
   ·rename_i ho;injection h with h;injection h with e1 h;injection h with e2 e3;obtain⟨o',k1,k2,-,-⟩:=hr.ownR ho hst;cases o'<;>first|exact k2.elim|skip
    rename_i b yy;obtain⟨-,hx⟩:=k2
    grind[az,aG,lz]
   ·rename_i ho;injection h with h;injection h with e1 h;injection h with e2 e3;obtain⟨o',k1,k2,-,-⟩:=hr.ownR ho hst;cases o'<;>first|exact k2.elim|skip
    rename_i b yy;obtain⟨-,hx⟩:=k2
    grind[az,aG,lz]
   ·rename_i ho;injection h with h;injection h with e1 h;injection h with e2 e3;obtain⟨o',k1,k2,-,-⟩:=hr.ownR ho hst;cases o'<;>first|exact k2.elim|skip
    rename_i b ty' kk es' dp;obtain⟨-,rfl,hx,-⟩:=k2
    grind[lz,aG]
   grind
  grind
 ·cases y<;>first|exact hc.elim|skip
  obtain⟨rfl,hst,rfl,⟨u,u1,u2,rfl⟩,⟨v',v1,v2,rfl⟩⟩:=hc;split at h
  ·rename_i hs;injection h with h;injection h with e1 h;injection h with e2 e3;subst e1 e2 e3;simp[ay]at he;cases he;have hso:=cU hr hs.2 hst;exact⟨v'.toNat,by grind[lz],⟨rfl,by show(_:List DV)[_]? =_;rw[v1];grind,trivial⟩,hr⟩
  grind
 ·cases y<;>first|exact hc.elim|skip
  grind[lz,aG,uk]
 grind
theorem qd{x:Option Operand}{l:Option Nat}(h:F9 S x=some (ps,l,S'))(he:ay ps ρ=some ρ')(hr:aV S ρ σ s):aV S' ρ' σ s/\∀ρ'' r,aW ρ' ρ''->CR ρ'' l=some r->s.evI x=some r:=by
 unfold F9 at h;split at h
 ·injection h with h;injection h with e1 h;injection h with e2 e3;subst e1 e2 e3;simp[ay]at he;cases he;refine⟨hr,λρ'' r _ hg=>?_⟩
  assumption
 ·rename_i x;split at h
  ·rename_i p v1 S1 hv;split at h
   ·rename_i i hd;injection h with h;injection h with e1 h;injection h with e2 e3;subst e1 e2 e3;obtain⟨k1,k2⟩:=aU hv he hr;refine⟨k2,λρ'' r hp hg=>?_⟩;obtain⟨y,y1,y2⟩:=cJ hd k1;simp[CR,gI,hp.get y2]at hg
    grind[AS.evI]
   grind
  grind
theorem Qd{t:TypeId}{lo hi:Option Operand}{u:SV}{x:AV}(h:UV P t S u lo hi=some (ps,v,S'))(he:ay ps ρ=some ρ')(hr:aV S ρ σ s)(hu:RV ρ σ u x):
 ∃l h' y,s.evI lo=some l/\s.evI hi=some h'/\tV P s t x l h'=some y/\RV ρ' σ v y/\aV S' ρ' σ s:=by
 unfold UV at h;split at h
 ·rename_i i hd;split at h
  ·rename_i p l S1 h1;split at h
   ·rename_i q hh S2 h2;split at h
    ·rename_i r u' S3 h3;injection h with h;injection h with e1 h;injection h with e2 e3;subst e1 e2 e3;obtain⟨ρ1,a1,a2⟩:=ai he;obtain⟨ρ2,b1,b2⟩:=ai a2;obtain⟨r1,f1⟩:=qd h1 a1 hr;obtain⟨r2,f2⟩:=qd h2 b1 r1;have p12:=aj b1;have p02:aW ρ ρ2:=(aj a1).trans p12;obtain⟨y,rfl,hy⟩:=cJ hd hu;have hy2:=p02.get hy;unfold WO at h3;split at h3
     ·rename_i hs;injection h3 with h3;injection h3 with e1 h3;injection h3 with e2 e3;subst e1 e2 e3;obtain⟨out,o1,o2⟩:=az b2;have o1':=o1;simp[aG,hy2]at o1;split at o1
      ·rename_i b lv hv' g1 g2 g3;cases g1;split at o1
       ·rename_i a b' hc;injection o1 with o1;subst o1;obtain⟨q1,q2⟩:=y9 (w:=.string (b.extract a b')) r2 o1' b2;exact⟨lv,hv',_,f1 _ _ p12 g2,f2 _ _ (aW.refl _) g3,by grind[tV,GJ],q1,q2⟩
       grind
      grind
     ·split at h3
      ·rename_i el k ht;injection h3 with h3;injection h3 with e1 h3;injection h3 with e2 e3;subst e1 e2 e3;obtain⟨out,o1,rfl⟩:=az b2;simp[aG,hy2]at o1;split at o1
       ·rename_i tt k' es lv hv' g1 g2 g3;cases g1;split at o1
        ·rename_i hk;subst hk;split at o1
         ·rename_i a b' hc;injection o1 with o1;subst o1;exact⟨lv,hv',.p false [.d (.sl tt k' ((es.drop a).take (b'-a)))],f1 _ _ p12 g2,f2 _ _ (aW.refl _) g3,by grind[tV],⟨rfl,by show(_:List DV)[_]? =_;simp[<-r2.m],trivial⟩,r2.bind rfl⟩
         grind
        grind
       grind
      grind
    grind
   grind
  grind
 ·split at h
  ·rename_i i st hdd;split at h
   ·rename_i el k1 a ty k xx ht ho;split at h
    ·rename_i hk;subst hk;split at h
     ·rename_i p l S1 h1;split at h
      ·rename_i q hh S2 h2;injection h with h;injection h with e1 h;injection h with e2 e3;subst e1 e2 e3;obtain⟨ρ1,a1,a2⟩:=ai he;obtain⟨ρ2,b1,b2⟩:=ai a2;obtain⟨r1,f1⟩:=qd h1 a1 hr;obtain⟨r2,f2⟩:=qd h2 b1 r1;have p12:=aj b1;have p02:aW ρ ρ2:=(aj a1).trans p12;obtain⟨y,rfl,hy⟩:=bk (c:=.own i st) rfl hu;cases y<;>first|exact hy.elim|skip
       obtain⟨rfl,hst⟩:=hy;obtain⟨o',q1,q2,-,-⟩:=hr.ownR ho hst;cases o'<;>first|exact q2.elim|skip
       rename_i b ty' kk es' dp;obtain⟨-,rfl,rfl,-,hx⟩:=q2;obtain⟨out,o1,rfl⟩:=az b2;simp[aG,p02.get hx]at o1;split at o1
       ·rename_i tt k3 es lv hv' g1 g2 g3;injection g1 with g1;injection g1 with g1 g1' g1'';subst g1 g1' g1'';split at o1
        ·rename_i a' b' hc;cases o1;exact⟨lv,hv',.p false [.sub _ _ kk a' (b'-a')],f1 _ _ p12 g2,f2 _ _ (aW.refl _) g3,by grind[tV],⟨rfl,⟨rfl,hst,rfl,⟨((a':Nat):Int),by simp[<-r2.m],by omega,by simp⟩,⟨((b'-a':Nat):Int),by rw[<-r2.m];simp,by omega,by simp⟩⟩,trivial⟩,r2.bind rfl⟩
        grind
       grind
      grind
     grind
    grind
   grind
  ·rename_i i st k zz mm hdd;split at h
   ·rename_i el k1 a ty k2 xx ht ho;split at h
    ·rename_i hk;obtain⟨rfl,rfl⟩:=hk;split at h
     ·rename_i p l S1 h1;split at h
      ·rename_i q hh S2 h2;injection h with h;injection h with e1 h;injection h with e2 e3;subst e1 e2 e3;obtain⟨ρ1,a1,a2⟩:=ai he;obtain⟨ρ2,b1,b2⟩:=ai a2;obtain⟨r1,f1⟩:=qd h1 a1 hr;obtain⟨r2,f2⟩:=qd h2 b1 r1;have p12:=aj b1;have p02:aW ρ ρ2:=(aj a1).trans p12;obtain⟨y,rfl,hy⟩:=bk (c:=.sub i st _ zz mm) rfl hu;cases y<;>first|exact hy.elim|skip
       obtain⟨rfl,hst,rfl,⟨u0,u1,u2,rfl⟩,⟨v0,v1,v2,rfl⟩⟩:=hy;obtain⟨o',q1,q2,-,-⟩:=hr.ownR ho hst;cases o'<;>first|exact q2.elim|skip
       rename_i b ty' kk es' dp;obtain⟨-,rfl,rfl,-,hx⟩:=q2;obtain⟨out,o1,rfl⟩:=az b2;simp[aG,p02.get u1,p02.get v1]at o1;split at o1
       ·rename_i uu vv lv hv' g1 g1' g2 g3;injection g1 with g1;injection g1 with g1;injection g1 with _ g1;injection g1' with g1';injection g1' with g1';injection g1' with _ g1';subst g1 g1';split at o1
        ·split at o1
         ·rename_i a' b' hc;cases o1;exact⟨lv,hv',.p false [.sub _ _ kk (u0.toNat+a') (b'-a')],f1 _ _ p12 g2,f2 _ _ (aW.refl _) g3,by grind[tV],⟨rfl,⟨rfl,hst,rfl,⟨((u0.toNat+a':Nat):Int),by rw[<-r2.m];simp,by omega,by omega⟩,⟨((b'-a':Nat):Int),by rw[<-r2.m];simp,by omega,by omega⟩⟩,trivial⟩,r2.bind rfl⟩
         grind
        omega
       grind
      grind
     grind
    grind
   grind
  grind
theorem LW{op:Op}(h:W2 P S op=some (ps,v,S'))(he:ay ps ρ=some ρ')(hr:aV S ρ σ s):∃x,hV P s op=some x/\RV ρ' σ v x/\aV S' ρ' σ s:=by
 unfold W2 at h;split at h
 ·obtain⟨k1,k2⟩:=aU h he hr;exact⟨_,rfl,k1,k2⟩
 ·obtain⟨k1,k2⟩:=aU h he hr;exact⟨_,rfl,k1,k2⟩
 ·rename_i c x y;obtain⟨p,v1,S1,q,h1,h2,rfl⟩:=bm h;obtain⟨ρ1,a1,a2⟩:=ai he;obtain⟨k1,k2⟩:=aU h1 a1 hr;split at h2
  ·rename_i i hd;split at h2
   ·rename_i b hb;obtain⟨z,z1,z2⟩:=cJ hd k1;rw[k2.kn i b hb]at z2;cases z2;obtain⟨m1,m2⟩:=aU h2 a2 k2
    grind[hV,Wy]
   grind
  grind
 ·obtain⟨p,v1,S1,q,h1,h2,rfl⟩:=bm h;obtain⟨ρ1,a1,a2⟩:=ai he;obtain⟨k1,k2⟩:=aU h1 a1 hr
  grind[bk,GD,hV]
 ·obtain⟨p,v1,S1,q,h1,h2,rfl⟩:=bm h;obtain⟨ρ1,a1,a2⟩:=ai he;obtain⟨k1,k2⟩:=aU h1 a1 hr
  grind[ay,bk,TE,hV]
 ·obtain⟨p,v1,S1,q,h1,h2,rfl⟩:=bm h;obtain⟨ρ1,a1,a2⟩:=ai he;obtain⟨k1,k2⟩:=aU h1 a1 hr
  grind[ay,TV,hV]
 ·obtain⟨p,v1,S1,q,h1,h2,rfl⟩:=bm h;obtain⟨ρ1,a1,a2⟩:=ai he;obtain⟨k1,k2⟩:=aU h1 a1 hr;split at h2
  ·rename_i i hd;obtain⟨p2,v2,S2,q2,h3,h4,rfl⟩:=bm h2;obtain⟨ρ2,b1,b2⟩:=ai a2;obtain⟨m1,m2⟩:=aU h3 b1 k2;split at h4
   ·rename_i c hc;obtain⟨p3,v3,S3,q3,h5,h6,rfl⟩:=bm h4;injection h5 with h5;injection h5 with e1 h5;injection h5 with e2 e3;subst e1 e2 e3;obtain⟨ρ3,c1,c2⟩:=ai b2;obtain⟨out,o1,rfl⟩:=az c1;obtain⟨z,z1,z2⟩:=cJ hd k1;have z2':=(aj b1).get z2
    grind[aG,bk,P1,hV]
   grind
  grind
 ·obtain⟨p,v1,S1,q,h1,h2,rfl⟩:=bm h;obtain⟨ρ1,a1,a2⟩:=ai he;obtain⟨k1,k2⟩:=aU h1 a1 hr;obtain⟨p2,v2,S2,q2,h3,h4,rfl⟩:=bm h2;obtain⟨ρ2,b1,b2⟩:=ai a2;obtain⟨m1,m2⟩:=aU h3 b1 k2;split at h4
  ·rename_i i j hi hj;split at h4
   ·rename_i hs;injection h4 with h4;injection h4 with e1 h4;injection h4 with e2 e3;subst e1 e2 e3;obtain⟨y,y1,y2⟩:=cJ hi k1;obtain⟨z,z1,z2⟩:=cJ hj m1;have y2':=(aj b1).get y2;obtain⟨out,o1,-⟩:=az b2;have o1':=o1;simp[aG,y2',z2]at o1;split at o1
    ·rename_i b kd zz g1 g2;cases g1;split at o1
     ·rename_i hz;split at o1
      ·rename_i u hu;cases o1;obtain⟨q1,q2⟩:=y9 m2 o1' b2;simp_all[hV,VO,GJ,if_pos]
      grind
     grind
    grind
   grind
  grind
 ·obtain⟨p,v1,S1,q,h1,h2,rfl⟩:=bm h;obtain⟨ρ1,a1,a2⟩:=ai he;obtain⟨k1,k2⟩:=aU h1 a1 hr;obtain⟨p2,v2,S2,q2,h3,h4,rfl⟩:=bm h2;obtain⟨ρ2,b1,b2⟩:=ai a2;obtain⟨m1,m2⟩:=aU h3 b1 k2;split at h4
  ·rename_i i j hi hj;injection h4 with h4;injection h4 with e1 h4;injection h4 with e2 e3;subst e1 e2 e3;obtain⟨y,y1,y2⟩:=cJ hi k1;obtain⟨z,z1,z2⟩:=cJ hj m1;have y2':=(aj b1).get y2;obtain⟨out,o1,-⟩:=az b2;have o1':=o1;simp[aG,y2',z2]at o1;split at o1
   ·rename_i a b g1 g2;cases g1;obtain⟨w,w1,rfl⟩:=FG o1;obtain⟨q1,q2⟩:=y9 m2 o1' b2
    grind[hV,Ic,F3,Ub]
   grind
  ·rename_i op t X Y _ _ _ _;unfold Zg at h4;split at h4
   ·rename_i cs cs' _
    have key:∀(is js:List Nat) (ks:List Kd) (neg:Bool),Fb cs=some is->Fb cs'=some js->ay [.eqS neg ks is js] ρ2=some ρ'->∃b,aG ρ2 (.eqS neg ks is js)=some [.sc (.bool (if neg then !b else b))]/\∃xs ys,s.ev X=.p true xs/\s.ev Y=.p true ys/\Fs ks xs ys=some b:=by
     intro is js ks neg g1 g2 g3;obtain⟨out,o1,-⟩:=az g3
     cases hx:s.ev X with
     |p b1 xs=>
      rw[hx]at k1;obtain⟨rfl,c1⟩:=k1
      cases hy:s.ev Y with
      |p b2 ys=>
       rw[hy]at m1;obtain⟨rfl,c2⟩:=m1;obtain⟨ds,rfl,d1⟩:=Ei g1 c1;obtain⟨es,rfl,d2⟩:=Ei g2 c2;have o2:=o1;simp[aG,wl (d1.mono (aj b1)),wl d2]at o1
       grind[O0]
      |tup=>rw[hy]at m1;exact m1.elim
      |und=>rw[hy]at m1;exact m1.elim
     |tup=>rw[hx]at k1;exact k1.elim
     |und=>rw[hx]at k1;exact k1.elim
    split at h4
    ·rename_i is js ks g1 g2 g3;injection h4 with h4;injection h4 with e1 h4;injection h4 with e2 e3;subst e1 e2 e3;obtain⟨b,o1,xs,ys,hx,hy,hb⟩:=key is js ks false g1 g2 b2;obtain⟨q1,q2⟩:=y9 m2 o1 b2
     grind[hV,Ic,F3,W9]
    ·rename_i is js ks g1 g2 g3;injection h4 with h4;injection h4 with e1 h4;injection h4 with e2 e3;subst e1 e2 e3;obtain⟨b,o1,xs,ys,hx,hy,hb⟩:=key is js ks true g1 g2 b2;obtain⟨q1,q2⟩:=y9 m2 o1 b2
     grind[hV,Ic,F3,W9]
    grind
   grind
 ·obtain⟨p,v1,S1,q,h1,h2,rfl⟩:=bm h;obtain⟨ρ1,a1,a2⟩:=ai he;obtain⟨k1,k2⟩:=aU h1 a1 hr;split at h2
  ·rename_i i hi;injection h2 with h2;injection h2 with e1 h2;injection h2 with e2 e3;subst e1 e2 e3;obtain⟨y,y1,y2⟩:=cJ hi k1;obtain⟨out,o1,-⟩:=az a2;have o1':=o1;simp[aG,y2]at o1;split at o1
   ·rename_i a g1;cases g1;obtain⟨w,w1,rfl⟩:=FG o1;obtain⟨q1,q2⟩:=y9 k2 o1' a2
    grind[hV,VU]
   grind
  grind
 ·obtain⟨p,v1,S1,q,h1,h2,rfl⟩:=bm h;obtain⟨ρ1,a1,a2⟩:=ai he;obtain⟨k1,k2⟩:=aU h1 a1 hr
  grind[bk,Uf,hV,cJ,TG,O4]
 ·rename_i x ix;obtain⟨p,v1,S1,q,h1,h2,rfl⟩:=bm h;obtain⟨ρ1,a1,a2⟩:=ai he;obtain⟨k1,k2⟩:=aU h1 a1 hr;split at h2
  ·rename_i xs;split at h2
   ·rename_i b cs hx;injection h2 with h2;injection h2 with e1 h2;injection h2 with e2 e3;subst e1 e2 e3;simp[ay]at a2;cases a2
    cases hs:s.ev x with
    |tup ys=>
     rw[hs]at k1;obtain⟨y,y1,y2,y3⟩:=Nk k1 hx;obtain⟨yb,yc⟩:=y
     exact⟨.p yb yc,by grind[hV,Mz],⟨y2,y3⟩,k2⟩
    |p=>rw[hs]at k1;exact k1.elim
    |und=>rw[hs]at k1;exact k1.elim
   grind
  grind
 ·obtain⟨p,v1,S1,q,h1,h2,rfl⟩:=bm h;obtain⟨ρ1,a1,a2⟩:=ai he;obtain⟨k1,k2⟩:=aU h1 a1 hr
  grind[Qd,hV]
 ·rename_i c;split at h
  ·rename_i x t hc1 hc2 hc3;obtain⟨p,v1,S1,q,h1,h2,rfl⟩:=bm h;obtain⟨ρ1,a1,a2⟩:=ai he;obtain⟨k1,k2⟩:=aU h1 a1 hr
   grind[bk,Pk,hV,tu]
  ·rename_i x y _ hc1 hc2;obtain⟨p,v1,S1,q,h1,h2,rfl⟩:=bm h;obtain⟨ρ1,a1,a2⟩:=ai he;obtain⟨k1,k2⟩:=aU h1 a1 hr;obtain⟨p2,v2,S2,q2,h3,h4,rfl⟩:=bm h2;obtain⟨ρ2,b1,b2⟩:=ai a2;obtain⟨m1,m2⟩:=aU h3 b1 k2;split at h4
   ·rename_i i j hi hj;injection h4 with h4;injection h4 with e1 h4;injection h4 with e2 e3;subst e1 e2 e3;obtain⟨y,y1,y2⟩:=cJ hi k1;obtain⟨z,z1,z2⟩:=cJ hj m1;have y2':=(aj b1).get y2;obtain⟨out,o1,-⟩:=az b2;have o1':=o1;simp[aG,y2',z2]at o1;split at o1
    ·rename_i k a k' b g1 g2;cases g1;split at o1
     ·rename_i e;cases o1;obtain⟨q1,q2⟩:=y9 m2 o1' b2;simp_all[hV,tu,Su,if_pos]
     grind
    grind
   grind
  ·rename_i x y _ hc1 hc2;obtain⟨p,v1,S1,q,h1,h2,rfl⟩:=bm h;obtain⟨ρ1,a1,a2⟩:=ai he;obtain⟨k1,k2⟩:=aU h1 a1 hr;obtain⟨p2,v2,S2,q2,h3,h4,rfl⟩:=bm h2;obtain⟨ρ2,b1,b2⟩:=ai a2;obtain⟨m1,m2⟩:=aU h3 b1 k2;split at h4
   ·rename_i i j hi hj;injection h4 with h4;injection h4 with e1 h4;injection h4 with e2 e3;subst e1 e2 e3;obtain⟨y,y1,y2⟩:=cJ hi k1;obtain⟨z,z1,z2⟩:=cJ hj m1;have y2':=(aj b1).get y2;obtain⟨out,o1,-⟩:=az b2;have o1':=o1;simp[aG,y2',z2]at o1;split at o1
    ·rename_i k a k' b g1 g2;cases g1;split at o1
     ·rename_i e;cases o1;obtain⟨q1,q2⟩:=y9 m2 o1' b2;simp_all[hV,tu,Su,if_pos]
     grind
    grind
   grind
  grind
 ·obtain⟨p,v1,S1,q,h1,h2,rfl⟩:=bm h;obtain⟨ρ1,a1,a2⟩:=ai he;obtain⟨k1,k2⟩:=aU h1 a1 hr;split at h2
  ·rename_i i st;split at h2
   ·rename_i ob id t z ho;cases h2;simp[ay]at a2;cases a2;obtain⟨y,y1,y2⟩:=bk (c:=.own i st) rfl k1;cases y<;>first|exact y2.elim|skip
    rename_i i' st';obtain⟨rfl,hst⟩:=y2;obtain⟨o',m1,m2,-,-⟩:=k2.own ho hst;cases o'<;>first|exact m2.elim|skip
    refine⟨.p false [.own i' st'],?_,⟨rfl,⟨rfl,hst⟩,trivial⟩,k2⟩
    grind[hV,TF]
   grind
  ·rename_i i st off;split at h2
   ·rename_i ho;cases h2;simp[ay]at a2;cases a2;obtain⟨y,y1,y2⟩:=bk (c:=.ptr i st off) rfl k1;cases y<;>first|exact y2.elim|skip
    rename_i i' st' off';obtain⟨rfl,hst,rfl⟩:=y2;refine⟨.p false [.ptr _ st' _],?_,⟨rfl,⟨rfl,hst,rfl⟩,trivial⟩,k2⟩;simp[hV,TF,y1,cU k2 ho hst,if_true]
   grind
  ·rename_i i st k j off;split at h2
   ·rename_i ho;cases h2;simp[ay]at a2;cases a2;obtain⟨y,y1,y2⟩:=bk (c:=.elt i st k j off) rfl k1;cases y<;>first|exact y2.elim|skip
    rename_i i' st' k' j' off';obtain⟨rfl,hst,rfl,hz,rfl⟩:=y2;refine⟨.p false [.elt _ st' _ j' _],?_,⟨rfl,⟨rfl,hst,rfl,hz,rfl⟩,trivial⟩,k2⟩;simp[hV,TF,y1,cU k2 ho hst,if_true]
   grind
  grind
 grind
end
end Go.Proofs.YtliknccmjjncbaaGreat
namespace Go.Proofs.YtliknccmjjncbaaGreat
open Go.RowKit
def Sy.push(S:Sy)(o:SO):Sy:={S with ob:=(S.n,o)::S.ob,n:=S.n+1,c:=S.c+1}
section
variable {P:Program}{ρ ρ':List DV}{σ σ':List Nat}{S S':Sy}{s s':AS}{ps:List PO}{v:SV}
theorem aV.upd(h:aV S ρ σ s)(hp:aW σ σ'){c' n' i:Nat}{so:SO}(hc:σ'.length=c')(hn:s'.n=n')(hle:S.n<=n')(hi:i<n')(hsl:s'.sl=s.sl)(hob:∀j,j≠i->s'.ob j=s.ob j)(ho:RO ρ σ' so (s'.ob i)):
 aV {S with ob:=(i,so)::S.ob,n:=n',c:=c'} ρ σ' s':=by
 refine⟨hn,hc,h.m,λt x hx=>?_,λj x hx=>?_,h.kn⟩
 ·rw[hsl];exact(h.sl t x hx).mono (aW.refl _) hp
 ·simp[aS]at hx;split at hx
  ·grind
  ·rename_i e;obtain⟨k1,k2⟩:=h.ob j x hx;refine⟨Nat.lt_of_lt_of_le k1 hle,?_⟩;rw[hob j (λe'=>e e'.symm)];exact k2.mono (aW.refl _) hp
theorem aV.last(h:aV S ρ σ s)(x:Nat):(σ++[x])[S.c]? =some x:=by simp[<-h.c]
theorem aV.push(h:aV S ρ σ s){so:SO}{ob:Ob}(ho:RO ρ (σ++[s.c]) so ob):aV (S.push so) ρ (σ++[s.c]) (s.push ob):=by
 have:=h.upd (s':=s.push ob) (i:=S.n) (n':=S.n+1) (c':=S.c+1) (so:=so) (aW.app σ [s.c]) (by simp[h.c]) (by simp[AS.push,h.n]) (by omega) (by omega) rfl
  (λj hj=>by simp[AS.push];rw[h.n,aJ _ _ hj]) (by simp[AS.push,h.n,af];exact ho)
 exact this
def Pq(S:Sy):SC->Bool
 |.d _=>true
 |.nil=>true
 |.own i st=>(S.own i st).isSome
 |.ptr i st _=>(S.own i st).isSome
 |.elt i st _ _ _=>(S.own i st).isSome
 |.sub i st _ _ _=>(S.own i st).isSome
 |.emp=>true
 |.rd _=>true
 |.fn _ _=>true
 |.lit _=>true
theorem IH(hr:aV S ρ σ s){c:SC}{y:AC}(hc:RC ρ σ c y)(h:Pq S c=true):FK s y=true:=by
 cases c<;>cases y<;>first|exact hc.elim|rfl|skip
 ·obtain⟨rfl,h1⟩:=hc;exact cU hr h h1
 ·obtain⟨rfl,h1,rfl⟩:=hc;exact cU hr h h1
 ·obtain⟨rfl,h1,rfl,-,rfl⟩:=hc;exact cU hr h h1
 ·obtain⟨rfl,h1,rfl,-,-⟩:=hc;exact cU hr h h1
theorem JW(hr:aV S ρ σ s):∀{cs:List SC} {ys:List AC},cm ρ σ cs ys->cs.all (Pq S)=true->ys.all (FK s)=true
 |[],[],_,_=>rfl
 |c::cs,y::ys,hc,h=>by
  simp only[List.all_cons,Bool.and_eq_true]at h ⊢
  exact⟨IH hr hc.1 h.1,JW hr hc.2 h.2⟩
 |[],_::_,hc,_=>hc.elim
 |_::_,[],hc,_=>hc.elim
def sY(S:Sy):SV->Option (List SC)
 |.p true cs=>if cs.all (Pq S)then some cs else none
 |.p false [c]=>if Pq S c then some [c]else none
 |_=>none
theorem fK(hr:aV S ρ σ s){cs:List SC}{x:AV}(h:sY S v=some cs)(hv:RV ρ σ v x):∃ys,bV s x=some ys/\cm ρ σ cs ys:=by
 unfold sY at h;split at h
 ·split at h
  ·rename_i hk;cases h;cases x<;>first|exact hv.elim|skip
   rename_i b ys;obtain⟨rfl,hc⟩:=hv;exact⟨ys,by simp only[bV];rw[if_pos (JW hr hc hk)],hc⟩
  grind
 ·rename_i c;split at h
  ·rename_i hk;cases h;obtain⟨y,rfl,hy⟩:=bk (c:=c) rfl hv;exact⟨[y],by simp only[bV];rw[if_pos (IH hr hy hk)],hy,trivial⟩
  grind
 grind
def bY:List SC->List (Option (Nat×Nat))->Sy->Option (List PO×List Nat×Sy)
 |[],_,S=>some ([],[],S)
 |.d i::cs,ty,S=>if(ty.headD none).isSome then none else(match bY cs ty.tail S with|some (p,xs,S')=>some (.sc i::p,i::xs,S')|none=>none)
 |.nil::cs,ty,S=>(match ty.headD none with
  |some (t,k)=>if 0<k then(match bY cs ty.tail (S.bind 1)with|some (p,xs,S')=>some (.e t k::p,S.m::xs,S')|none=>none)else none
  |none=>none)
 |.own i st::cs,ty,S=>(match S.own i st with
  |some (.row _ _ _ x)=>(match bY cs ty.tail {S with ob:=(i,.frz st x)::S.ob}with|some (p,xs,S')=>some (p,x::xs,S')|none=>none)
  |some (.dx _ x)=>(match bY cs ty.tail {S with ob:=(i,.frz st x)::S.ob}with|some (p,xs,S')=>some (p,x::xs,S')|none=>none)
  |_=>none)
 |.sub i st k z m::cs,ty,S=>(match S.own i st with
  |some (.row _ _ k' x)=>if k'=k then(match bY cs ty.tail { (S.bind 1)with ob:=(i,.dead)::S.ob}with|some (p,xs,S')=>some (.cutP x z m::p,S.m::xs,S')|none=>none)else none
  |_=>none)
 |_::_,_,_=>none
theorem pG{d:DV}(h:im d=true):∃v,d=.sc v:=by
 cases d with
 |sc v=>grind
 |sl=>grind[im]
theorem eR:∀{cs:List SC} {ty:List (Option (Nat×Nat))} {S S':Sy} {ps:List PO} {xs:List Nat} {ρ ρ':List DV} {s:AS} {ys:List AC},bY cs ty S=some (ps,xs,S')->ay ps ρ=some ρ'->aV S ρ σ s->cm ρ σ cs ys->
 ∃s' ds,eT s s' ys ds/\RD ρ' xs ds/\aV S' ρ' σ s'/\∀i,(∀st a t k x,S.own i st≠some (.row a t k x)/\S.own i st≠some (.dx a x))->s'.ob i=s.ob i
 |[],ty,S,S',ps,xs,ρ,ρ',s,ys,h,he,hr,hc=>by
  simp only[bY]at h;injection h with h;injection h with e1 h;injection h with e2 e3;subst e1 e2 e3;simp only[ay]at he;cases he
  cases ys with
  |nil=>exact⟨s,[],cC,trivial,hr,λ_ _=>rfl⟩
  |cons=>exact hc.elim
 |c::cs,ty,S,S',ps,xs,ρ,ρ',s,[],h,he,hr,hc=>hc.elim
 |.d i::cs,ty,S,S',ps,xs,ρ,ρ',s,y::ys,h,he,hr,hc=>by
  simp only[bY]at h;split at h
  ·cases h
  split at h
  ·rename_i p xs' S1 hg;injection h with h;injection h with e1 h;injection h with e2 e3;subst e1 e2 e3;obtain⟨x,rfl,hx⟩:=sy hc.1;simp[ay,aG,hx]at he;split at he
   ·rename_i out ho;split at ho
    ·rename_i hsc;cases ho;rw[List.append_nil]at he;obtain⟨u,rfl⟩:=pG hsc;obtain⟨s',ds,g1,g2,g3,g4⟩:=eR hg he hr hc.2;exact⟨s',.sc u::ds,dh g1,⟨(aj he).get hx,g2⟩,g3,g4⟩
    grind
   grind
  grind
 |.nil::cs,ty,S,S',ps,xs,ρ,ρ',s,y::ys,h,he,hr,hc=>by
  simp[bY]at h;cases y<;>first|exact hc.1.elim|skip
  split at h
  ·rename_i t k ht;split at h
   ·rename_i hk;split at h
    ·rename_i p xs' S1 hg;injection h with h;injection h with e1 h;injection h with e2 e3;subst e1 e2 e3;simp[ay,aG]at he;obtain⟨s',ds,g1,g2,g3,g4⟩:=eR hg he (hr.bind rfl) (cm.mono (aW.app _ _) (aW.refl _) hc.2);exact⟨s',.sl t k []::ds,co hk g1,⟨(aj he).get (by simp[<-hr.m]),g2⟩,g3,g4⟩
    grind
   grind
  grind
 |.own i st::cs,ty,S,S',ps,xs,ρ,ρ',s,y::ys,h,he,hr,hc=>by
  simp[bY]at h;cases y<;>first|exact hc.1.elim|skip
  rename_i i' st';obtain⟨⟨rfl,hst⟩,hc2⟩:=hc;split at h
  ·rename_i a t k x ho;split at h
   ·rename_i p xs' S1 hg;injection h with h;injection h with e1 h;injection h with e2 e3;subst e1 e2 e3;obtain⟨o',k1,k2,k3,k4⟩:=hr.own ho hst;cases o'<;>first|exact k2.elim|skip
    rename_i b ty' kk es' dp;obtain⟨k5,rfl,rfl,rfl,hx⟩:=k2
    have hb:b=st':=by
     obtain⟨-,q2,q3⟩:=am k1;rw[<-k3]at q2
     grind[AS.lv,Ob.st]
    subst hb
    have hr2:aV {S with ob:=(i',SO.frz st x)::S.ob} ρ σ (s.frz i' b (.sl ty' kk es')):=
     hr.upd (s':=s.frz i' b (.sl ty' kk es')) (i:=i') (n':=S.n) (c':=S.c) (so:=.frz st x) (aW.refl _) hr.c hr.n (Nat.le_refl _) k4 rfl (λj hj=>by simp_all[AS.frz,aJ]) (by simp[AS.frz,af];exact⟨hst,hx⟩)
    obtain⟨s',ds,g1,g2,g3,g4⟩:=eR hg he hr2 hc2;refine⟨s',.sl ty' kk es'::ds,cK k1 g1,⟨(aj he).get hx,g2⟩,g3,λj hj=>?_⟩;have hne:j≠i':=λe=>by grind
    rw[g4 j (λst2 a2 t2 k2 x2=>by
     have:=hj st2 a2 t2 k2 x2;unfold Sy.own at this ⊢
     grind[aS])]
    simp_all[AS.frz,aJ]
   grind
  ·rename_i a x ho;split at h
   ·rename_i p xs' S1 hg;injection h with h;injection h with e1 h;injection h with e2 e3;subst e1 e2 e3;obtain⟨o',k1,k2,k3,k4⟩:=hr.own ho hst;cases o'<;>first|exact k2.elim|skip
    rename_i b y;obtain⟨k5,hx⟩:=k2
    have hb:b=st':=by
     obtain⟨-,q2,q3⟩:=am k1;rw[<-k3]at q2
     grind[AS.lv,Ob.st]
    subst hb
    have hr2:aV {S with ob:=(i',SO.frz st x)::S.ob} ρ σ (s.frz i' b y):=
     hr.upd (s':=s.frz i' b y) (i:=i') (n':=S.n) (c':=S.c) (so:=.frz st x) (aW.refl _) hr.c hr.n (Nat.le_refl _) k4 rfl (λj hj=>by simp_all[AS.frz,aJ]) (by simp[AS.frz,af];exact⟨hst,hx⟩)
    obtain⟨s',ds,g1,g2,g3,g4⟩:=eR hg he hr2 hc2;refine⟨s',y::ds,FP k1 rfl (QO k1) g1,⟨(aj he).get hx,g2⟩,g3,λj hj=>?_⟩;have hne:j≠i':=λe=>by subst e;exact(hj st a 0 0 x).2 ho
    rw[g4 j (λst2 a2 t2 k2 x2=>by
     have:=hj st2 a2 t2 k2 x2;unfold Sy.own at this ⊢
     grind[aS])]
    simp_all[AS.frz,aJ]
   grind
  grind
 |.ptr _ _ _::cs,ty,S,S',ps,xs,ρ,ρ',s,y::ys,h,he,hr,hc=>by grind[bY]
 |.elt _ _ _ _ _::cs,ty,S,S',ps,xs,ρ,ρ',s,y::ys,h,he,hr,hc=>by grind[bY]
 |.sub i st k z m::cs,ty,S,S',ps,xs,ρ,ρ',s,y::ys,h,he,hr,hc=>by
  simp[bY]at h;cases y<;>first|exact hc.1.elim|skip
  rename_i i' st' k0 lo n;obtain⟨⟨rfl,hst,rfl,⟨u,e1,e2,rfl⟩,⟨v,e3,e4,rfl⟩⟩,hc2⟩:=hc;split at h
  ·rename_i a t k' x ho;split at h
   ·rename_i hk;split at h
    ·rename_i p xs' S1 hg;injection h with h;injection h with e1' h;injection h with e2' e3';subst e1' e2' e3' hk;obtain⟨o',k1,k2,k3,k4⟩:=hr.own ho hst;cases o'<;>first|exact k2.elim|skip
     rename_i b ty' kk es' dp;obtain⟨k5,rfl,rfl,rfl,hx⟩:=k2
     have hb:b=st':=by
      obtain⟨-,q2,q3⟩:=am k1;rw[<-k3]at q2
      grind[AS.lv,Ob.st]
     subst hb;simp only[ay,aG,hx,e1,e3]at he;split at he
     ·rename_i out ho2;split at ho2
      ·rename_i hcc;obtain⟨hu0,hle⟩:=hcc;subst hu0;cases ho2;have hb:=hr.bind (out:=[DV.sl ty' kk (es'.take v.toNat)]) (k:=1) rfl
       have hr2:aV { (S.bind 1)with ob:=(i',SO.dead)::S.ob} (ρ++[DV.sl ty' kk (es'.take v.toNat)]) σ (s.kill i'):=
        hb.upd (s':=s.kill i') (n':=S.n) (c':=S.c) (so:=.dead) (aW.refl _) hr.c hr.n (Nat.le_refl _) k4 rfl (λj hj=>by simp_all[AS.kill,aJ]) (by simp[AS.kill,af];trivial)
       obtain⟨s',ds,g1,g2,g3,g4⟩:=eR hg he hr2 (cm.mono (aW.app _ _) (aW.refl _) hc2);refine⟨s',.sl ty' kk (es'.take v.toNat)::ds,Ke k1 hle g1,⟨(aj he).get (by simp[<-hr.m]),g2⟩,g3,λj hj=>?_⟩;have hne:=λe:j=i'=>(hj _ _ _ _ _).1 (e▸ho)
       rw[g4 j (λst2 a2 t2 k2 x2=>by
        have:=hj st2 a2 t2 k2 x2;unfold Sy.own at this ⊢
        grind[aS])]
       simp_all[AS.kill,aJ]
      grind
     grind
    grind
   grind
  grind
 |.emp::cs,ty,S,S',ps,xs,ρ,ρ',s,y::ys,h,he,hr,hc=>by grind[bY]
 |.rd _::cs,ty,S,S',ps,xs,ρ,ρ',s,y::ys,h,he,hr,hc=>by grind[bY]
 |.fn _ _::cs,ty,S,S',ps,xs,ρ,ρ',s,y::ys,h,he,hr,hc=>by grind[bY]
 |.lit _::cs,ty,S,S',ps,xs,ρ,ρ',s,y::ys,h,he,hr,hc=>by grind[bY]
theorem Kg:∀{cs:List SC} {ty:List (Option (Nat×Nat))} {S S':Sy} {ps:List PO} {xs:List Nat},bY cs ty S=some (ps,xs,S')->xs.length=cs.length:=by
 intro cs
 induction cs with
 |nil=>grind[bY]
 |cons c cs ih=>
  intro ty S S' ps xs h
  cases c with
  |d i=>
   grind[bY]
  |nil=>
   grind[bY]
  |own i st=>
   grind[bY]
  |ptr=>grind[bY]
  |elt=>grind[bY]
  |sub=>
   grind[bY]
  |emp=>grind[bY]
  |rd=>grind[bY]
  |fn=>grind[bY]
  |lit=>grind[bY]
def NS:Value->Bool
 |.slice none 0 0=>true
 |_=>false
def sZ:List Value->Nat->Option (List PO×List SC)
 |[],_=>some ([],[])
 |v::vs,m=>if NS v then(match sZ vs m with|some (p,cs)=>some (p,.nil::cs)|none=>none)
  else if uk v then(match sZ vs (m+1)with|some (p,cs)=>some (.k v::p,.d m::cs)|none=>none)else none
theorem OO{v:Value}(h:NS v=true):v=.slice none 0 0:=by
 grind[NS]
theorem T6{v:Value}(h:uk v=true):Om v=some (.d (.sc v)):=by
 cases v<;>first|rfl|simp[uk]at h
theorem Gk:∀{vs:List Value} {m:Nat} {ps:List PO} {cs:List SC} {ρ ρ':List DV},sZ vs m=some (ps,cs)->ρ.length=m->ay ps ρ=some ρ'->∃acs,Sf vs=some acs/\cm ρ' σ cs acs/\ρ'.length=m+ps.length
 |[],m,ps,cs,ρ,ρ',h,hm,he=>by
  simp only[sZ]at h;cases h;simp[ay]at he;cases he
  exact⟨[],rfl,trivial,by omega⟩
 |v::vs,m,ps,cs,ρ,ρ',h,hm,he=>by
  simp[sZ]at h;split at h
  ·rename_i hn;obtain rfl:=OO hn;split at h
   ·rename_i p cs' hz;cases h;obtain⟨acs,a1,a2,a3⟩:=Gk hz hm he;exact⟨.nil::acs,by grind[Sf,Om],⟨trivial,a2⟩,a3⟩
   grind
  ·split at h
   ·rename_i hs;split at h
    ·rename_i p cs' hz;cases h;simp[ay,aG,hs,if_true]at he;obtain⟨acs,a1,a2,a3⟩:=Gk hz (by grind) he;exact⟨.d (.sc v)::acs,by grind[Sf,T6],⟨(aj he).get (by grind),a2⟩,by grind⟩
    grind
   grind
abbrev Sh:=List (Bool×List (Option (Nat×Nat))×Bool)
structure iI where
 own:FuncId->Bool
 dx:Bool
 mks:List FuncId
 pf:List FuncId:=[]
 cf:List FuncId:=[]
 nf:List (Nat×Nat):=[]
 gf:List (Nat×Nat):=[]
 vf:List (Nat×Nat):=[]
instance:CoeFun iI (λ_=>FuncId->Bool):=⟨iI.own⟩
inductive Nd where
 |po (o:PO)
 |mark (f:FuncId) (b:Bool) (xs:List (Nat×Nat)) (k:Nat)
 |call (f:FuncId) (args:List (Bool×List Nat)) (sh:Sh)
def ca(ρ:List DV):List (Bool×List Nat)->Option (List (Bool×List DV))
 |[]=>some []
 |(b,is)::r=>match gL ρ is,ca ρ r with|some x,some xs=>some ((b,x)::xs)|_,_=>none
def EN:List (Option (Nat×Nat))->List DV->Bool
 |[],[]=>true
 |none::ss,.sc _::ds=>EN ss ds
 |some (t,k)::ss,.sl t' k' _::ds=>decide (t'=t/\k'=k)&&EN ss ds
 |_,_=>false
def er:Sh->List Rs->Bool
 |[],[]=>true
 |(b,ss,o)::sh,(b',ds,o')::rs=>decide (b'=b/\o'=o)&&(EN ss ds&&er sh rs)
 |_,_=>false
def bW:List Rs->List DV
 |[]=>[]
 |(_,ds,_)::rs=>ds++bW rs
def xM:List (Nat×Nat)->List DV->List DV->Prop
 |[],[],[]=>True
 |(_,2)::r,_::ds,_::ds'=>xM r ds ds'
 |(_,1)::r,d::ds,d'::ds'=>(∃t k,0<k/\d=.sl t k []/\d'=.sl t k [])/\xM r ds ds'
 |(_,0)::r,d::ds,d'::ds'=>(∃v,d=.sc v/\d'=.sc v)/\xM r ds ds'
 |_,_,_=>False
def WN(P:Program):List Nd->(List DV->Prop)->List DV->Prop
 |[],K,ρ=>K ρ
 |.po o::r,K,ρ=>(match aG ρ o with|some out=>WN P r K (ρ++out)|none=>False)
 |.call f a sh::r,K,ρ=>∃ys res,ca ρ a=some ys/\eC P f ys res/\er sh res=true/\WN P r K (ρ++bW res)
 |.mark f b xs k::r,K,ρ=>∃ds ds' n n',gL ρ (xs.map (·.1))=some ds/\ρ[k]? =some (.sc (.int .i64 n))/\jb P f b ds n ds' n'/\xM xs ds ds'/\WN P r K (ρ++(ds'++[.sc (.int .i64 n')]))
theorem m7{K:List DV->Prop}:∀{a b:List Nd} {ρ:List DV},WN P (a++b) K ρ->WN P a (WN P b K) ρ
 |[],b,ρ,h=>h
 |.po o::r,b,ρ,h=>by
  simp[List.cons_append,WN]at h ⊢;split
  ·rename_i out ho;rw[ho]at h;exact m7 h
  grind
 |.call f a sh::r,b,ρ,h=>by
  simp[List.cons_append,WN]at h ⊢;obtain⟨ys,res,h1,h2,h3,h4⟩:=h
  exact⟨ys,res,h1,h2,h3,m7 h4⟩
 |.mark f bb xs kk::r,b,ρ,h=>by
  simp[List.cons_append,WN]at h ⊢;obtain⟨ds,ds',n,n',h1,h2,h3,h4,h5⟩:=h;exact⟨ds,ds',n,n',h1,h2,h3,h4,m7 h5⟩
theorem bp{K:List DV->Prop}:∀{ps:List PO} {ρ:List DV},WN P (ps.map .po) K ρ->∃ρ',ay ps ρ=some ρ'/\K ρ'
 |[],ρ,h=>⟨ρ,rfl,h⟩
 |o::r,ρ,h=>by
  simp[List.map_cons,WN]at h;split at h
  ·rename_i out ho;obtain⟨ρ',h1,h2⟩:=bp h
   grind[ay]
  grind
end
end Go.Proofs.YtliknccmjjncbaaGreat
namespace Go.Proofs.YtliknccmjjncbaaGreat
open Go.RowKit
theorem Gp{w0:Cx}{w:World}{N:Nat}{s s':AS}{a:Act}{E:En}(h:aH w0 N s a w E){i st t k:Nat}{es:List (List AC)}{ds:List (List DV)}(hi:s.own? i st=some (.arr st t k es))(hg:eT s s' es.flatten ds.flatten)
 (hl:ds.length=es.length) (hu:∀e∈ds,e.length=k) (hi':s'.own? i st=some (.arr st t k es)):∃E',aH w0 N {s' with ob:=upd s'.ob i (.row st t k ds true)} a w E':=by
 obtain⟨hin,hob,hlv⟩:=am hi;have hO:=h.obj i hin;rw[hob]at hO;obtain⟨g,vals,hst,e1,em,eo,hge,hmx,hB,hk,hun,hcs⟩:=hO;obtain⟨E1,f,G⟩:=hg.2.2.2.2 w0 N a w E vals h hcs;obtain⟨hin',hob',hlv'⟩:=am hi';have h':=G.rep;have hO':=h'.obj i hin';rw[hob']at hO';obtain⟨g',vals',hst',e1',em',eo',-⟩:=hO'
 have hg':g'=g:=by
  rw[G.v,e1]at e1';grind
 subst hg';have hlen:vals.length=ds.length*k:=by rw[G.own.rep.len,cO hu]
 refine⟨_,h'.change (i:=i) (n':=s'.n) (X:=.row st t k ds true) (v':=E1.v i) (m':=E1.m i) (o':=f) (A':=E1.A) (c':=s'.c) (Nat.le_refl _) (λj hj _=>hj) hin' h'.bel (Nat.le_refl _) (λ_ _ _=>rfl) (Nat.le_refl _)
  (.inl ⟨hin',by rw[hob'];rfl,rfl⟩) (λ_ hb=>hb) (λ_ hb=>.inl hb) (λb hb=>⟨h'.A_lt b hb,h'.A_m b hb i hin',λj hj _=>h'.A_m b hb j hj⟩) (λb hb=>⟨h'.m_lt i hin' b hb,λj hj hne=>h'.mm i j hin' hj (Ne.symm hne) b hb⟩) (λb hb=>⟨G.A b hb,λj hj _=>G.o b hb j hj⟩) ?_ (h'.mF i hin') (G.fr h)⟩
 rintro s2 rfl E' rfl hstay;refine⟨vals,hst',?_,hk,hu,by simp[af,e1',em'];rfl,?_⟩
 ·simp[af,e1',<-hl];rw[<-hl]at hmx;exact⟨hlen,.inr ⟨g',ds.length,vals.toArray,rfl,hge,hB,Nat.le_refl _,hmx,by omega,by rw[<-hlen];simp⟩⟩
 ·simp[if_pos,af];exact G.own
def gd(P:Program)(N:Nat)(o:Oper)(s:AS)(S':Sy)(K:List DV->Prop):Prop:=∃ρ' σ' s',eb P N o s s'/\aV S' ρ' σ' s'/\K ρ'
theorem bj{s:AS}{i st b:Nat}{o:Ob}(h:s.own? i st=some o)(hs:o.st=some b):b=st:=by
 obtain⟨q1,q2,q3⟩:=am h;simp_all[AS.lv,if_pos]
section
variable {P:Program}{N:Nat}{ρ ρ':List DV}{σ σ':List Nat}{S S':Sy}{s s':AS}{ps:List PO}{v:SV}{o:Oper}{K:List DV->Prop}{dq:List Nd}
theorem KR(h:W2 P S o.op=some (ps,v,S'))(hd:dB N o.dst=true)(hr:aV S ρ σ s)(hw:WN P (ps.map .po) K ρ):gd P N o s (S'.put o.dst v) K:=by
 obtain⟨ρ',he,hk⟩:=bp hw;obtain⟨x,x1,x2,x3⟩:=LW h he hr;exact⟨ρ',σ,_,(Fp x1).toO (cn hd),x3.put x2,hk⟩
theorem Ff{t:TypeId}{cs:List SC}{ys:List AC}(hst:dH P o s (.p false [.ptr s.n s.c 0]) [.var s.c t ys])(hd:dB N o.dst=true)(hr:aV S ρ σ s)(hc:cm ρ σ cs ys)(hk:K ρ):
 gd P N o s ((S.push (.var S.c t cs)).put o.dst (.p false [.ptr S.n S.c 0])) K:=
 ⟨ρ,σ++[s.c],_,hst.toO (cn hd),(hr.push (so:=.var S.c t cs) (ob:=.var s.c t ys) ⟨hr.last _,rfl,hc.mono (aW.refl _) (aW.app _ _)⟩).put ⟨rfl,⟨hr.n,hr.last _,rfl⟩,trivial⟩,hk⟩
def GS(P:Program)(S:Sy)(d:Option Nat)(t:TypeId):Option (List Nd×Sy):=
 match aT P t with
 |some vs=>(match sZ vs S.m with|some (p,cs)=>some (p.map .po,((S.bind p.length).push (.var S.c t cs)).put d (.p false [.ptr S.n S.c 0]))|none=>none)
 |none=>none
theorem Ig{t:TypeId}(ho:o.op=.alloc t)(h:GS P S o.dst t=some (dq,S'))(hd:dB N o.dst=true)(hr:aV S ρ σ s)(hw:WN P dq K ρ):gd P N o s S' K:=by
 unfold GS at h;split at h
 ·rename_i vs hz;split at h
  ·rename_i p cs hs;cases h;obtain⟨ρ',he,hk⟩:=bp hw;obtain⟨acs,a1,a2,a3⟩:=Gk (σ:=σ) hs hr.m he;exact Ff (S:=S.bind p.length) (Ja ho (by grind[aY])) hd (hr.more (aj he) a3) a2 hk
  grind
 grind
def Ti(S:Sy)(d:Option Nat)(t:TypeId)(x:Operand):Option (List Nd×Sy):=
 match gW S x with
 |some (p,v,S1)=>(match sY S1 v with|some cs=>some (p.map .po,(S1.push (.var S1.c t cs)).put d (.p false [.ptr S1.n S1.c 0]))|none=>none)
 |none=>none
theorem MS{t:TypeId}{x:Operand}(ho:o.op=.box t x)(h:Ti S o.dst t x=some (dq,S'))(hd:dB N o.dst=true)(hr:aV S ρ σ s)(hw:WN P dq K ρ):gd P N o s S' K:=by
 unfold Ti at h;split at h
 ·rename_i p v S1 hv;split at h
  ·rename_i cs hc;cases h;obtain⟨ρ',he,hk⟩:=bp hw;obtain⟨k1,k2⟩:=aU hv he hr;obtain⟨ys,y1,y2⟩:=fK k2 hc k1;exact Ff (Sg ho y1) hd k2 y2 hk
  grind
 grind
theorem cm.plug{off:Nat}{cs z:List SC}{ys zs:List AC}(h:cm ρ σ cs ys)(k:cm ρ σ z zs):cm ρ σ (plug off cs z) (Go.Proofs.YtliknccmjjncbaaGreat.plug off ys zs):=by
 unfold Go.Proofs.YtliknccmjjncbaaGreat.plug;rw[<-h.len];exact((k.take off).app h).app (k.drop _)
def GE(P:Program)(t:TypeId):List (Nat×Operand)->List SC->Sy->Option (List PO×List SC×Sy)
 |[],z,S=>some ([],z,S)
 |(i,x)::r,z,S=>match dd P t i,gW S x with
  |some (off,k,_),some (p,v,S1)=>(match sY S1 v with
   |some cs=>if cs.length=k/\off+k<=z.length then(match GE P t r (plug off cs z) S1 with|some (q,z',S2)=>some (p++q,z',S2)|none=>none)else none
   |none=>none)
  |_,_=>none
theorem GC{t:TypeId}:∀{parts:List (Nat×Operand)} {z z':List SC} {S S':Sy} {ps:List PO} {ρ ρ':List DV} {zs:List AC},GE P t parts z S=some (ps,z',S')->ay ps ρ=some ρ'->aV S ρ σ s->cm ρ σ z zs->
 ∃ys,iy P s t parts zs=some ys/\cm ρ' σ z' ys/\aV S' ρ' σ s
 |[],z,z',S,S',ps,ρ,ρ',zs,h,he,hr,hz=>by
  simp only[GE]at h;cases h;simp only[ay]at he;cases he
  exact⟨zs,rfl,hz,hr⟩
 |(i,x)::r,z,z',S,S',ps,ρ,ρ',zs,h,he,hr,hz=>by
  simp[GE]at h;split at h
  ·rename_i off k ag p v S1 hf hv;split at h
   ·rename_i cs hc;split at h
    ·rename_i hl;split at h
     ·rename_i q z2 S2 hq;cases h;obtain⟨ρ1,a1,a2⟩:=ai he;obtain⟨k1,k2⟩:=aU hv a1 hr;obtain⟨ys,y1,y2⟩:=fK k2 hc k1;have hz1:cm ρ1 σ z zs:=cm.mono (aj a1) (aW.refl _) hz;obtain⟨us,u1,u2,u3⟩:=GC hq a2 k2 (cm.plug (off:=off) y2 hz1);refine⟨us,?_,u2,u3⟩;simp only[iy,hf,y1];rw[if_pos (by rw[<-y2.len,<-hz1.len];exact hl)];exact u1
     grind
    grind
   grind
  grind
def Aa(P:Program)(S:Sy)(t:TypeId)(parts:List (Nat×Operand)):Option (List PO×List SC×Sy):=
 if Co P t then(match aT P t with
  |some vs=>(match sZ vs S.m with|some (p,z)=>(match GE P t parts z (S.bind p.length)with|some (q,cs,S2)=>some (p++q,cs,S2)|none=>none)|none=>none)
  |none=>none)else none
theorem DL{t:TypeId}{parts:List (Nat×Operand)}{cs:List SC}(h:Aa P S t parts=some (ps,cs,S'))(he:ay ps ρ=some ρ')(hr:aV S ρ σ s):Co P t=true/\∃z ys,aY P t=some z/\iy P s t parts z=some ys/\cm ρ' σ cs ys/\aV S' ρ' σ s:=by
 unfold Aa at h;split at h
 ·rename_i ht;split at h
  ·rename_i vs hz;split at h
   ·rename_i p z hs;split at h
    ·rename_i q cs' S2 hf;cases h;obtain⟨ρ1,a1,a2⟩:=ai he;obtain⟨acs,b1,b2,b3⟩:=Gk (σ:=σ) hs hr.m a1;obtain⟨ys,y1,y2,y3⟩:=GC hf a2 (hr.more (aj a1) b3) b2
     grind[aY]
    grind
   grind
  grind
 grind
theorem HZ{t:TypeId}{parts:Array (Nat×Operand)}{cs:List SC}(ho:o.op=.build t parts)(h:Aa P S t parts.toList=some (ps,cs,S'))(hd:dB N o.dst=true)(hr:aV S ρ σ s)(hw:WN P (ps.map .po) K ρ):
 gd P N o s (S'.put o.dst (.p true cs)) K:=by
 obtain⟨ρ',he,hk⟩:=bp hw;obtain⟨ht,z,ys,z1,z2,z3,z4⟩:=DL h he hr;exact⟨ρ',σ,_,(ER ho ht z1 z2).toO (cn hd),z4.put ⟨rfl,z3⟩,hk⟩
theorem Ee.flat:∀{xs:List (List SC)} {ys:List (List AC)},Ee ρ σ xs ys->cm ρ σ xs.flatten ys.flatten
 |[],[],_=>trivial
 |x::xs,y::ys,k=>by simp[List.flatten_cons];exact k.1.app k.2.flat
 |[],_::_,k=>k.elim
 |_::_,[],k=>k.elim
def RE(k:Nat):List (Nat×Operand)->Nat->Sy->Option (List PO×List (List SC)×Sy)
 |[],_,S=>some ([],[],S)
 |(i,x)::r,j,S=>match gW S x with
  |some (p,v,S1)=>(match sY S1 v with
   |some cs=>if i=j/\cs.length=k then(match RE k r (j+1) S1 with|some (q,es,S2)=>some (p++q,cs::es,S2)|none=>none)else none
   |none=>none)
  |none=>none
theorem lA{k:Nat}:∀{parts:List (Nat×Operand)} {j:Nat} {es:List (List SC)} {S S':Sy} {ps:List PO} {ρ ρ':List DV},RE k parts j S=some (ps,es,S')->ay ps ρ=some ρ'->aV S ρ σ s->
 ∃ys,t9 s k parts j=some ys/\Ee ρ' σ es ys/\aV S' ρ' σ s
 |[],j,es,S,S',ps,ρ,ρ',h,he,hr=>by
  simp only[RE]at h;cases h;simp only[ay]at he;cases he
  exact⟨[],rfl,trivial,hr⟩
 |(i,x)::r,j,es,S,S',ps,ρ,ρ',h,he,hr=>by
  simp[RE]at h;split at h
  ·rename_i p v S1 hv;split at h
   ·rename_i cs hc;split at h
    ·rename_i hl;split at h
     ·rename_i q es' S2 hq;cases h;obtain⟨ρ1,a1,a2⟩:=ai he;obtain⟨k1,k2⟩:=aU hv a1 hr;obtain⟨ys,y1,y2⟩:=fK k2 hc k1;obtain⟨us,u1,u2,u3⟩:=lA hq a2 k2;refine⟨ys::us,?_,⟨cm.mono (aj a2) (aW.refl _) y2,u2⟩,u3⟩;simp only[t9,y1,u1];rw[if_pos (by rw[<-y2.len];exact hl)]
     grind
    grind
   grind
  grind
def Dk(k:Nat):Nat->List Nat->List (List Nat)
 |0,_=>[]
 |n+1,l=>l.take k::Dk k n (l.drop k)
theorem ue{k:Nat}:∀{n:Nat} {xs:List Nat} {ds:List DV},RD ρ xs ds->xs.length=n*k->∃es,JR ρ (Dk k n xs)=some es/\es.flatten=ds/\es.length=n/\∀e∈es,e.length=k
 |0,xs,ds,h,hl=>by
  have:xs=[]:=List.length_eq_zero_iff.1 (by omega);subst this
  cases ds with
  |nil=>exact⟨[],rfl,rfl,rfl,by simp⟩
  |cons=>exact h.elim
 |n+1,xs,ds,h,hl=>by
  have h1:RD ρ (xs.take k) (ds.take k):=RD.take k h;obtain⟨es,e1,e2,e3,e4⟩:=ue (k:=k) (n:=n) (h.drop k) (by rw[List.length_drop,hl,Nat.add_mul];omega);refine⟨ds.take k::es,by simp[Dk,JR,wl h1,e1],by simp[e2],by grind,?_⟩;intro e he;rcases List.mem_cons.1 he with rfl|he
  ·rw[List.length_take,<-h.len,hl,Nat.add_mul];omega
  grind
def Ev(P:Program):Nat->TypeId->List (Option (Nat×Nat))
 |0,_=>[]
 |f+1,t=>match P.underlying t with
  |some (.struct fs)=>fs.toList.flatMap λfd=>Ev P f fd.type
  |some (.slice e)=>[(cG P e).map λk=>(e,k)]
  |some _=>[none]
  |none=>[]
def PR(P:Program)(S:Sy)(d:Option Nat)(t:TypeId)(len:Nat)(parts:List (Nat×Operand)):Option (List Nd×Sy):=
 match dN P t with
 |some (el,k)=>if(aT P el).isSome=true/\0<k/\parts.length=len/\len*k<=16777216 then(match RE k parts 0 S with
  |some (p,es,S1)=>(match bY es.flatten ((List.replicate len (Ev P 9 el)).flatten) ((S1.push .dead).put d (.p false [.own S1.n S1.c]))with
   |some (q,xs,S2)=>if xs.length=len*k then some ((p++(q++[PO.mk el k (Dk k len xs)])).map .po,{ (S2.bind 1)with ob:=(S1.n,.row S1.c el k S2.m)::S2.ob})else none
   |none=>none)
  |none=>none)else none
 |none=>none
theorem Ee.len:∀{xs:List (List SC)} {ys:List (List AC)},Ee ρ σ xs ys->xs.length=ys.length
 |[],[],_=>rfl
 |x::xs,y::ys,k=>by simp[Ee.len k.2]
 |[],_::_,k=>k.elim
 |_::_,[],k=>k.elim
theorem zV{el k:Nat}{rows:List (List Nat)}{es:List (List DV)}(h:JR ρ rows=some es)(hu:∀e∈es,e.length=k):aG ρ (.mk el k rows)=some [.sl el k es]:=by
 simp_all[aG,if_pos,List.all_eq_true]
theorem KB{t:TypeId}{len:Nat}{parts:Array (Nat×Operand)}(ho:o.op=.buildSlice t len parts)(h:PR P S o.dst t len parts.toList=some (dq,S'))(hd:dB N o.dst=true)(hr:aV S ρ σ s)(hw:WN P dq K ρ):∃ρ' σ' s',s9 P N o s s' none/\aV S' ρ' σ' s'/\K ρ':=by
 unfold PR at h;split at h
 ·rename_i el k ht;split at h
  ·rename_i hcnd;obtain⟨hz,hk,hl,hs⟩:=hcnd;split at h
   ·rename_i p es S1 hb;split at h
    ·rename_i q xs S2 hg;split at h
     ·rename_i hxl;cases h;obtain⟨ρ',he,hK⟩:=bp hw;obtain⟨ρ1,a1,a2⟩:=ai he;obtain⟨ρ2,b1,b2⟩:=ai a2;obtain⟨ys,y1,y2,y3⟩:=lA hb a1 hr;have hyl:ys.length=len:=by rw[(kO y1).1,hl]
      have hst:=(mM (s:=s) ho ht hz hk hl hs y1).toK (N:=N) (cn hd)
      have hp:aV ((S1.push .dead).put o.dst (.p false [.own S1.n S1.c])) ρ1 (σ++[s.c]) ((s.push (.arr s.c el k ys)).put o.dst (.p false [.own s.n s.c])):=
       (y3.push (so:=.dead) (ob:=.arr s.c el k ys) trivial).put ⟨rfl,⟨y3.n,y3.last _⟩,trivial⟩
      obtain⟨s2,ds,g1,g2,g3,g4⟩:=eR hg b1 hp (cm.mono (aW.refl _) (aW.app _ _) y2.flat);obtain⟨ee,c1,c2,c3,c4⟩:=ue (n:=len) g2 hxl
      have hnone:∀st,Sy.own ((S1.push .dead).put o.dst (.p false [.own S1.n S1.c])) S1.n st=none:=by
       intro st
       have:aS ((S1.push .dead).put o.dst (.p false [.own S1.n S1.c])).ob S1.n=some .dead:=by
        cases o.dst<;>simp[Sy.put,Sy.push,aS]
       grind[Sy.own,SO.st]
      have hn1:((s.push (.arr s.c el k ys)).put o.dst (.p false [.own s.n s.c])).n=s.n+1:=by rw[AS.put_n];rfl
      have hob1:((s.push (.arr s.c el k ys)).put o.dst (.p false [.own s.n s.c])).ob s.n=.arr s.c el k ys:=by rw[AS.put_ob];simp[AS.push,af]
      have hob2:s2.ob s.n=.arr s.c el k ys:=by
       have:=g4 S1.n (λst a t k x=>by rw[hnone st];grind);rw[<-y3.n]at this;rw[this];omega
      have hn2:s2.n=s.n+1:=by rw[g1.1,hn1]
      have hown1:((s.push (.arr s.c el k ys)).put o.dst (.p false [.own s.n s.c])).own? s.n s.c=some (.arr s.c el k ys):=by
       simp_all[AS.own?,if_pos,Nat.lt_succ_self,Ob.st]
      have hown2:s2.own? s.n s.c=some (.arr s.c el k ys):=by
       simp_all[AS.own?,if_pos,Nat.lt_succ_self,Ob.st]
      have hre:Re ((s.push (.arr s.c el k ys)).put o.dst (.p false [.own s.n s.c])) {s2 with ob:=upd s2.ob s.n (.row s.c el k ee true)}:=λw0 N a w E hR=>
       Gp hR hown1 (by rw[c2];exact g1) (by rw[c3,hyl]) c4 hown2
      obtain⟨out,o1,rfl⟩:=az b2;rw[zV c1 c4]at o1;cases o1;refine⟨_,σ++[s.c],_,hst.re hre,?_,hK⟩;have hb2:=g3.bind (out:=[DV.sl el k ee]) (k:=1) rfl;refine hb2.upd (s':={s2 with ob:=upd s2.ob s.n (.row s.c el k ee true)}) (i:=S1.n) (n':=(S2.bind 1).n) (c':=(S2.bind 1).c) (so:=.row S1.c el k S2.m) (aW.refl _) hb2.c hb2.n (Nat.le_refl _) ?_ rfl (λj hj=>?_) ?_
      ·rw[<-hb2.n,hn2,y3.n];omega
      ·simp only;rw[aJ _ _ (by rw[y3.n];exact hj)]
      ·simp[y3.n,af];exact⟨y3.last _,rfl,rfl,rfl,by rw[<-g3.m];simp⟩
     grind
    grind
   grind
  grind
 grind
theorem LV{t:TypeId}{len:Nat}{parts:Array (Nat×Operand)}(ho:o.op=.buildSlice t len parts)(h:PR P S o.dst t len parts.toList=some (dq,S'))(hd:dB N o.dst=true)(hr:aV S ρ σ s)(hw:WN P dq K ρ):gd P N o s S' K:=
 let⟨ρ',σ',s',h1,h2⟩:=KB ho h hd hr hw
 ⟨ρ',σ',s',h1.step,h2⟩
def H5(P:Program)(S:Sy)(t:TypeId)(x y:Operand):Option (List Nd×Sy):=
 match gW S x with
 |some (p,v,S1)=>(match gW S1 y with
  |some (q,u,S2)=>(match one v,sY S2 u with
   |some (.ptr i st off),some xs=>(match S2.own i st with
    |some (.var a t' cs)=>if cG P t=some xs.length/\off+xs.length<=cs.length then some ((p++q).map .po,{S2 with ob:=(i,.var a t' (plug off xs cs))::S2.ob})else none
    |some (.pvr a t' cs)=>if cG P t=some xs.length/\off+xs.length<=cs.length then some ((p++q).map .po,{S2 with ob:=(i,.pvr a t' (plug off xs cs))::S2.ob})else none
    |some (.cur a id t' z)=>(match Fe u with
     |some j=>if cG P t=some 1/\0<off then some ((p++(q++[PO.cuS z off j])).map .po,{ (S2.bind 1)with ob:=(i,.cur a id t' S2.m)::S2.ob})else none
     |none=>none)
    |_=>none)
   |some (.elt i st k j off),some xs=>(match S2.own i st,bY xs (Ev P 9 t) S2 with
    |some (.row a t' k' z),some (r,vs,S3)=>(match S3.own i st with
     |some (.row a3 t3 k3 z3)=>if k'=k/\cG P t=some xs.length/\off+xs.length<=k/\a3=a/\t3=t'/\k3=k/\z3=z then
      some ((p++(q++(r++[PO.set k z j off vs]))).map .po,{ (S3.bind 1)with ob:=(i,.row a t' k S3.m)::S3.ob})else none
     |_=>none)
    |_,_=>none)
   |_,_=>none)
  |none=>none)
 |none=>none
theorem Hu{t:TypeId}{x y:Operand}(ho:o.op=.store t x y)(hdn:o.dst=none)(h:H5 P S t x y=some (dq,S'))(hr:aV S ρ σ s)(hw:WN P dq K ρ):gd P N o s S' K:=by
 unfold H5 at h;split at h
 ·rename_i p v S1 hv;split at h
  ·rename_i q u S2 hu;split at h
   ·rename_i i st off xs hone hcs;split at h
    ·rename_i a t' cs hown;split at h
     ·rename_i hl;cases h;obtain⟨ρ',he,hK⟩:=bp hw;obtain⟨ρ1,a1,a2⟩:=ai he;obtain⟨k1,k2⟩:=aU hv a1 hr;obtain⟨m1,m2⟩:=aU hu a2 k2;obtain⟨ys,y1,y2⟩:=fK m2 hcs m1;obtain⟨z,z1,z2⟩:=bk hone (k1.mono (aj a2) (aW.refl _));cases z<;>first|exact z2.elim|skip
      rename_i i' st' off';obtain⟨rfl,hst,rfl⟩:=z2;obtain⟨o',n1,n2,n3,n4⟩:=m2.own hown hst;cases o'<;>first|exact n2.elim|skip
      rename_i b ty cs';obtain⟨n5,rfl,n6⟩:=n2;obtain rfl:=bj n1 rfl;refine⟨ρ',σ,_,Nq ho hdn z1 n1 y1 (by rw[<-y2.len];grind) (by rw[<-y2.len,<-n6.len];omega),?_,hK⟩
      exact m2.upd (s':={s with ob:=upd s.ob i' (.var b ty (plug off' ys cs'))}) (i:=i') (n':=S2.n) (c':=S2.c) (so:=.var a ty (plug off' xs cs)) (aW.refl _) m2.c m2.n (Nat.le_refl _) n4 rfl (λj hj=>aJ _ _ hj)
       (by simp[af];exact⟨n5,rfl,cm.plug y2 n6⟩)
     grind
    ·rename_i a t' cs hown;split at h
     ·rename_i hl;cases h;obtain⟨ρ',he,hK⟩:=bp hw;obtain⟨ρ1,a1,a2⟩:=ai he;obtain⟨k1,k2⟩:=aU hv a1 hr;obtain⟨m1,m2⟩:=aU hu a2 k2;obtain⟨ys,y1,y2⟩:=fK m2 hcs m1;obtain⟨z,z1,z2⟩:=bk hone (k1.mono (aj a2) (aW.refl _));cases z<;>first|exact z2.elim|skip
      rename_i i' st' off';obtain⟨rfl,hst,rfl⟩:=z2;obtain⟨o',n1,n2,n3,n4⟩:=m2.own hown hst;cases o'<;>first|exact n2.elim|skip
      rename_i b ty cs';obtain⟨n5,rfl,n6⟩:=n2;obtain rfl:=bj n1 rfl;refine⟨ρ',σ,_,UM ho hdn z1 n1 y1 (by rw[<-y2.len];grind) (by rw[<-y2.len,<-n6.len];omega),?_,hK⟩
      exact m2.upd (s':={s with ob:=upd s.ob i' (.pvr b ty (plug off' ys cs'))}) (i:=i') (n':=S2.n) (c':=S2.c) (so:=.pvr a ty (plug off' xs cs)) (aW.refl _) m2.c m2.n (Nat.le_refl _) n4 rfl (λj hj=>aJ _ _ hj)
       (by simp[af];exact⟨n5,rfl,cm.plug y2 n6⟩)
     grind
    ·rename_i a id t' z hown;split at h
     ·rename_i j hj;split at h
      ·rename_i hl;cases h;obtain⟨ρ',he,hK⟩:=bp hw;obtain⟨ρ1,a1,a2⟩:=ai he;obtain⟨ρ2,b1,b2⟩:=ai a2;obtain⟨k1,k2⟩:=aU hv a1 hr;obtain⟨m1,m2⟩:=aU hu b1 k2;obtain⟨zz,z1,z2⟩:=bk hone (k1.mono (aj b1) (aW.refl _));cases zz<;>first|exact z2.elim|skip
       rename_i i' st' off';obtain⟨rfl,hst,rfl⟩:=z2;obtain⟨yv,y1,y2⟩:=cJ hj m1;obtain⟨o',n1,n2,n3,n4⟩:=m2.own hown hst;cases o'<;>first|exact n2.elim|skip
       rename_i b id' ty x0 cs0;obtain⟨n5,rfl,rfl,hz⟩:=n2;obtain rfl:=bj n1 rfl;obtain⟨out,o1,rfl⟩:=az b2;simp[aG,hz,y2,TD]at o1
       cases yv with
       |sl=>grind
       |sc uu=>
        simp only at o1;split at o1
        ·rename_i hc;obtain⟨hc1,hc2,hc3⟩:=hc;cases o1;obtain⟨q,rfl⟩:=Nat.exists_eq_succ_of_ne_zero (Nat.pos_iff_ne_zero.1 hc2);have hc3:q<cs0.length:=hc3;refine⟨_,σ,_,Vm ho hdn z1 n1 y1 hl.1 hc3,?_,hK⟩;have hb3:=m2.bind (out:=[DV.sl ty 0 [[x0],cs0.set q (.sc uu)]]) (k:=1) rfl
         exact hb3.upd (s':={s with ob:=upd s.ob i' (.cur b id' ty x0 (cs0.set q (.sc uu)))}) (i:=i') (n':=(S2.bind 1).n) (c':=(S2.bind 1).c) (so:=.cur a id' ty S2.m) (aW.refl _) hb3.c hb3.n (Nat.le_refl _) n4 rfl (λj hj=>aJ _ _ hj)
          (by simp[af];exact⟨n5,rfl,rfl,by rw[<-m2.m];simp[TD]⟩)
        grind
      grind
     grind
    grind
   ·rename_i i st k j off xs hone hcs;split at h
    ·rename_i a t' k' z r vs S3 hown hgv;split at h
     ·rename_i a3 t3 k3 z3 hown3;split at h
      ·rename_i hl;obtain⟨rfl,hl1,hl2,rfl,rfl,rfl,rfl⟩:=hl;cases h;obtain⟨ρ',he,hK⟩:=bp hw;obtain⟨ρ1,a1,a2⟩:=ai he;obtain⟨ρ2,b1,b2⟩:=ai a2;obtain⟨ρ3,c1,c2⟩:=ai b2;obtain⟨k1,k2⟩:=aU hv a1 hr;obtain⟨m1,m2⟩:=aU hu b1 k2;obtain⟨ys,y1,y2⟩:=fK m2 hcs m1;obtain⟨zz,z1,z2⟩:=bk hone (k1.mono (aj b1) (aW.refl _));cases zz<;>first|exact z2.elim|skip
       rename_i i' st' kk' j' off';obtain⟨rfl,hst,rfl,⟨kd,zi,hz1,hz2,rfl⟩,rfl⟩:=z2;obtain⟨s2,ds,g1,g2,g3,g4⟩:=eR hgv c1 m2 y2;obtain⟨o',n1,n2,n3,n4⟩:=m2.own hown hst;cases o'<;>first|exact n2.elim|skip
       rename_i b ty kr es dp;obtain⟨n5,rfl,rfl,rfl,n6⟩:=n2;obtain rfl:=bj n1 rfl;obtain⟨o3,q1,q2,q3,q4⟩:=g3.own hown3 hst;cases o3<;>first|exact q2.elim|skip
       rename_i b3 ty3 kr3 es3 dp3;obtain⟨q5,rfl,rfl,rfl,q6⟩:=q2;obtain rfl:=bj q1 rfl;have hp3:=aj c1;rw[hp3.get n6]at q6;cases q6;obtain⟨out,o1,rfl⟩:=az c2;simp only[aG,hp3.get n6,hp3.get hz1,wl g2]at o1;split at o1
       ·rename_i hcn;split at o1
        ·rename_i e hee;cases o1
         have hdl:ds.length=xs.length:=by
          have h1:=g2.len;have h2:vs.length=xs.length:=Kg hgv;omega
         refine⟨_,σ,_,NM ho hdn z1 n1 hee y1 (by rw[<-y2.len];omega) (by rw[<-y2.len];omega) g1 q1,?_,hK⟩;have hb3:=g3.bind (out:=[DV.sl ty3 kr3 (es.set zi.toNat (plug off' ds e))]) (k:=1) rfl
         exact hb3.upd (s':={s2 with ob:=upd s2.ob i' (.row b3 ty3 kr3 (es.set zi.toNat (plug off' ds e)) true)}) (i:=i') (n':=(S3.bind 1).n) (c':=(S3.bind 1).c) (so:=.row a3 ty3 kr3 S3.m) (aW.refl _) hb3.c hb3.n (Nat.le_refl _) q4 rfl (λj hj=>aJ _ _ hj)
          (by simp[af];exact⟨q5,rfl,rfl,rfl,by rw[<-g3.m];simp⟩)
        grind
       grind
      grind
     grind
    grind
   grind
  grind
 grind
end
end Go.Proofs.YtliknccmjjncbaaGreat
namespace Go.Proofs.YtliknccmjjncbaaGreat
open Go.RowKit
section
variable {P:Program}{N:Nat}{ρ ρ':List DV}{σ σ':List Nat}{S S':Sy}{s s':AS}{ps:List PO}{v:SV}{o:Oper}{K:List DV->Prop}{dq:List Nd}
def Oz(P:Program)(el:TypeId):Bool:=(Ev P 9 el).all (·.isNone)
def S9(P:Program)(S:Sy)(el k:Nat):SC->Option (List PO×Nat×Sy)
 |.d y=>some ([.flat y],y,S)
 |.nil=>some ([.e el k],S.m,S.bind 1)
 |.own j st=>match S.own j st with
  |some (.row _ _ _ y)=>if Oz P el then some ([.flat y],y,S)else some ([],y,{S with ob:=(j,.dead)::S.ob})
  |some (.frz _ y)=>some ([.flat y],y,S)
  |_=>none
 |.emp=>some ([.e el k],S.m,S.bind 1)
 |.sub j st k0 z m=>match S.own j st with
  |some (.row _ _ k2 x)=>if k2=k0 then some ([.viewD x z m,.flat S.m],S.m,S.bind 1)else none
  |_=>none
 |_=>none
theorem wI{x z m:Nat}(he:ay [.viewD x z m] ρ=some ρ'):∃t k es u v,ρ[x]? =some (.sl t k es)/\ρ[z]? =some (.sc (.int .i64 u))/\ρ[m]? =some (.sc (.int .i64 v))/\ρ'=ρ++[.sl t k ((es.drop u.toNat).take v.toNat)]:=by
 obtain⟨out,o1,rfl⟩:=az he
 grind[aG]
theorem Ms{j st k2 x z m a tt t:Nat}{kk:Nat}{yc:AC}{es:List (List DV)}{u v:Int}(hr:aV S ρ σ s)(hc:RC ρ σ (.sub j st k2 z m) yc)(ho:S.ownR j st=some (.row a tt k2 x))(hx:ρ[x]? =some (.sl t kk es))(hz:ρ[z]? =some (.sc (.int .i64 u)))(hm:ρ[m]? =some (.sc (.int .i64 v))):
 CP s yc (.sl t kk ((es.drop u.toNat).take v.toNat)):=by
 cases yc<;>first|exact hc.elim|skip
 rename_i j' st' k' lo n;obtain⟨rfl,hst,rfl,⟨u',e1,e2,rfl⟩,⟨v',e3,e4,rfl⟩⟩:=hc;rw[hz]at e1;cases e1;rw[hm]at e3;cases e3;obtain⟨o',n1,n2,n3,n4⟩:=hr.ownR ho hst;cases o'<;>first|exact n2.elim|skip
 rename_i b ty kr es' dp;obtain⟨n5,rfl,rfl,-,n6⟩:=n2;obtain rfl:=bj n1 rfl;rw[hx]at n6;cases n6;refine⟨by rw[hr.n];exact n4,?_⟩;rw[n3];grind
theorem mB{y:Nat}(he:ay [.flat y] ρ=some ρ'):ρ'=ρ/\∀t k es,ρ[y]? =some (.sl t k es)->pz es.flatten:=by
 obtain⟨out,o1,rfl⟩:=az he;simp only[aG]at o1;split at o1
 ·rename_i t k es hy;split at o1
  ·rename_i hf;cases o1;refine⟨by simp,λt' k' es' hy'=>?_⟩;rw[hy]at hy';injection hy' with hy';injection hy' with _ _ hy';subst hy';intro d hd
   grind[pG,List.all_eq_true]
  grind
 grind
theorem Et{el k y t':Nat}{c:SC}{yc:AC}{es:List (List DV)}(h:S9 P S el k c=some (ps,y,S'))(he:ay ps ρ=some ρ')(hr:aV S ρ σ s)(hc:RC ρ σ c yc)(hy:ρ'[y]? =some (.sl t' k es)):
 ∃s',VL s s' k yc es/\aV S' ρ' σ s':=by
 unfold S9 at h;split at h
 ·cases h;obtain⟨rfl,hf⟩:=mB he;obtain⟨x,rfl,hx⟩:=sy hc;rw[hy]at hx;cases hx;exact⟨s,lI (t:=t') rfl (hf _ _ _ hy),hr⟩
 ·cases h;cases yc<;>first|exact hc.elim|skip
  obtain⟨out,o1,rfl⟩:=az he;simp only[aG]at o1;cases o1;rw[<-hr.m]at hy;simp at hy;obtain⟨rfl,rfl⟩:=hy;exact⟨s,lI (t:=el) ⟨el,k,rfl⟩ (by intro d hd;grind),hr.bind rfl⟩
 ·rename_i j st;cases yc<;>first|exact hc.elim|skip
  rename_i j' st';obtain⟨rfl,hst⟩:=hc;split at h
  ·rename_i a tt kk y' ho;obtain⟨o',n1,n2,n3,n4⟩:=hr.own ho hst;cases o'<;>first|exact n2.elim|skip
   rename_i b ty kr es' dp;obtain⟨n5,rfl,rfl,rfl,n6⟩:=n2;obtain rfl:=bj n1 rfl;split at h
   ·cases h;obtain⟨rfl,hf⟩:=mB he;rw[n6]at hy;injection hy with hy;injection hy with y1 y2 y3;subst y1 y2 y3;refine⟨s,lI (t:=ty) ?_ (hf _ _ _ n6),hr⟩;refine⟨by rw[hr.n];exact n4,?_⟩;rw[n3];grind
   ·cases h;simp[ay]at he;cases he;rw[n6]at hy;cases hy;refine⟨s.kill j',Pv n1,?_⟩;exact hr.upd (s':=s.kill j') (i:=j') (n':=S.n) (c':=S.c) (so:=.dead) (aW.refl _) hr.c hr.n (Nat.le_refl _) n4 rfl (λi hi=>by simp_all[AS.kill,aJ]) trivial
  ·rename_i a y' ho;cases h;obtain⟨rfl,hf⟩:=mB he;obtain⟨o',n1,n2,n3,n4⟩:=hr.own ho hst;cases o'<;>first|exact n2.elim|skip
   rename_i b yy;obtain⟨n5,n6⟩:=n2;obtain rfl:=bj n1 rfl;rw[n6]at hy;cases hy;refine⟨s,lI (t:=t') ?_ (hf _ _ _ n6),hr⟩;refine⟨by rw[hr.n];exact n4,?_⟩;rw[n3];grind
  grind
 ·cases h;cases yc<;>first|exact hc.elim|skip
  obtain⟨out,o1,rfl⟩:=az he;simp[aG]at o1;cases o1;rw[<-hr.m]at hy;simp at hy;obtain⟨rfl,rfl⟩:=hy;exact⟨s,lI (t:=el) ⟨el,k,rfl⟩ (by intro d hd;grind),hr.bind rfl⟩
 ·rename_i j st k0 z m;split at h
  ·rename_i a tt k2 x ho;split at h
   ·rename_i hk;subst hk;cases h;obtain⟨ρ1,a1,a2⟩:=ai (ps:=[.viewD x z m]) (qs:=[.flat S.m]) he;obtain⟨t,kk,es0,u,v,h1,h2,h3,rfl⟩:=wI a1;obtain⟨rfl,hf⟩:=mB a2;have hy':=hy;rw[<-hr.m]at hy';simp at hy';obtain⟨rfl,rfl,rfl⟩:=hy';exact⟨s,lI (Ms hr hc (by unfold Sy.ownR;rw[ho];rfl) h1 h2 h3) (hf _ _ _ hy),hr.bind rfl⟩
   grind
  grind
 grind
def De(P:Program)(d:Option Nat)(el k b i st x:Nat)(cy:SC)(pre:List PO)(S:Sy):Option (List Nd×Sy):=
 match S9 P S el k cy with
 |some (q,y,S1)=>(match S1.own i st with
  |some (.row _ t' k' x')=>if t'=el/\k'=k/\x'=x then
   some ((pre++(q++[PO.app el k b x y])).map .po,{ (S1.bind 1)with ob:=(i,.row S1.c el k S1.m)::S1.ob,c:=S1.c+1}.put d (.p false [.own i S1.c]))else none
  |_=>none)
 |none=>none
def Tj(P:Program)(S:Sy)(d:Option Nat)(X Y:Operand)(t:TypeId):Option (List Nd×Sy):=
 match dN P t with
 |some (el,k)=>(match aT P el,dW P el with
  |some zs,some b=>if zs.length=k/\0<k then(match gW S Y with
   |some (q,u,S1)=>(match gW S1 X with
    |some (p,v,S2)=>(match one v,one u with
     |some .nil,some cy=>De P d el k b S2.n S2.c S2.m cy (q++(p++[PO.e el k])) ((S2.bind 1).push (.row S2.c el k S2.m))
     |some (.own i st),some cy=>(match S2.own i st with|some (.row _ _ _ x)=>De P d el k b i st x cy (q++p) S2|_=>none)
     |some (.sub i st _ z m),some cy=>(match S2.own i st with|some (.row _ t' k' x)=>if t'=el/\k'=k then De P d el k b i S2.c S2.m cy (q++(p++[PO.cutP x z m])) { (S2.bind 1)with ob:=(i,.row S2.c el k S2.m)::S2.ob,c:=S2.c+1}else none|_=>none)
     |_,_=>none)
    |none=>none)
   |none=>none)else none
  |_,_=>none)
 |none=>none
theorem jQ{el k b x y:Nat}(he:ay [.app el k b x y] ρ=some ρ'):∃es fs t',ρ[x]? =some (.sl el k es)/\ρ[y]? =some (.sl t' k fs)/\es.length+fs.length<=9223372036854775807/\(es.length+fs.length)*b<=140737488355328/\ρ'=ρ++[.sl el k (es++fs)]:=by
 obtain⟨out,o1,rfl⟩:=az he
 grind[aG]
theorem MR{X Y:Operand}{t:TypeId}(ho:o.op=.call ⟨.builtin .append,#[X,Y],#[t,t]⟩)(h:Tj P S o.dst X Y t=some (dq,S'))(hd:dB N o.dst=true)(hr:aV S ρ σ s)(hw:WN P dq K ρ):gd P N o s S' K:=by
 unfold Tj at h;split at h
 ·rename_i el k ht;split at h
  ·rename_i zs b hz hby
   split at h
   ·rename_i hzk;split at h
    ·rename_i q u S1 hu;split at h
     ·rename_i p v S2 hv;split at h
      ·rename_i cy hone hcy;unfold De at h;split at h
       ·rename_i qq y S3 hsrc;split at h
        ·rename_i a3 t3 k3 x3 hown;split at h
         ·rename_i hx;obtain⟨rfl,rfl,rfl⟩:=hx;cases h;obtain⟨ρ',he,hK⟩:=bp hw;obtain⟨ρ2,a1,a2⟩:=ai he;obtain⟨ρ3,b1,b2⟩:=ai a2;obtain⟨ρ0,c1,c2⟩:=ai a1;obtain⟨ρ1,d1,d2⟩:=ai c2;obtain⟨k1,k2⟩:=aU hu c1 hr;obtain⟨m1,m2⟩:=aU hv d1 k2;obtain⟨out,o1,rfl⟩:=az d2;simp[aG]at o1;cases o1;obtain⟨cx,x1,x2⟩:=bk hone m1;cases cx<;>first|exact x2.elim|skip
          obtain⟨cY,y1,y2⟩:=bk hcy k1
          have hps:aV ((S2.bind 1).push (.row S2.c t3 k3 S2.m)) (ρ1++[.sl t3 k3 []]) (σ++[s.c]) (s.push (.row s.c t3 k3 [] true)):=
           (m2.bind (out:=[DV.sl t3 k3 []]) (k:=1) rfl).push (so:=.row S2.c t3 k3 S2.m) (ob:=.row s.c t3 k3 [] true) ⟨m2.last _,rfl,rfl,rfl,by rw[<-m2.m];simp⟩
          obtain⟨es,fs,t',f1,f2,f3,f4,rfl⟩:=jQ b2;obtain⟨s2,g1,g2⟩:=Et hsrc b1 hps (y2.mono ((aj d1).trans (aW.app _ _)) (aW.app _ _)) f2;obtain⟨o3,q1,q2,q3,q4⟩:=g2.own hown (m2.last s.c);cases o3<;>first|exact q2.elim|skip
          rename_i b3 ty3 kr3 es3 dp3;obtain⟨q5,rfl,rfl,rfl,q6⟩:=q2;obtain rfl:=bj q1 rfl
          have hes:es=[]/\es3=[]:=by
           have h0:ρ3[S2.m]? =some (.sl ty3 kr3 []):=(aj b1).get (by rw[<-m2.m];simp);rw[h0]at f1 q6
           grind
          obtain⟨rfl,rfl⟩:=hes;rw[<-m2.n]at q1 q4;refine⟨_,σ++[s.c]++[s2.c],_,Cv ho (cn hd) ht hz hzk.1 hzk.2 hby x1 y1 g1 q1 (by have:=f3;simp[List.length_nil,Nat.zero_add]at this;exact this) (by grind),?_,hK⟩;have hb3:=g2.bind (out:=[DV.sl ty3 kr3 ([]++fs)]) (k:=1) rfl;have hl:=g2.last s2.c
          have:=hb3.upd (s':={s2 with ob:=upd s2.ob s.n (.row s2.c ty3 kr3 fs true),c:=s2.c+1}) (i:=S2.n) (n':=(S3.bind 1).n) (c':=S3.c+1) (so:=.row S3.c ty3 kr3 S3.m) (aW.app _ [s2.c]) (by have:=g2.c;grind) hb3.n (Nat.le_refl _) (by rw[m2.n]at q4;exact q4) rfl (λj hj=>by simp only;rw[aJ _ _ (by rw[m2.n];exact hj)])
           (by simp only[m2.n,af];exact⟨hl,rfl,rfl,rfl,by rw[<-g2.m];simp⟩)
          exact this.put ⟨rfl,⟨m2.n,hl⟩,trivial⟩
         grind
        grind
       grind
      ·rename_i i st cy hone hcy;split at h
       ·rename_i a0 t0 k0 x0 hown0;unfold De at h;split at h
        ·rename_i qq y S3 hsrc;split at h
         ·rename_i a3 t3 k3 x3 hown;split at h
          ·rename_i hx;obtain⟨rfl,rfl,rfl⟩:=hx;cases h;obtain⟨ρ',he,hK⟩:=bp hw;obtain⟨ρ1,a1,a2⟩:=ai he;obtain⟨ρ3,b1,b2⟩:=ai a2;obtain⟨ρ0,c1,d1⟩:=ai a1;obtain⟨k1,k2⟩:=aU hu c1 hr;obtain⟨m1,m2⟩:=aU hv d1 k2;obtain⟨cx,x1,x2⟩:=bk hone m1;cases cx<;>first|exact x2.elim|skip
           rename_i i' st';obtain⟨rfl,hst⟩:=x2;obtain⟨cY,y1,y2⟩:=bk hcy k1;obtain⟨es,fs,t',f1,f2,f3,f4,rfl⟩:=jQ b2;obtain⟨s2,g1,g2⟩:=Et hsrc b1 m2 (y2.mono (aj d1) (aW.refl _)) f2;obtain⟨o3,q1,q2,q3,q4⟩:=g2.own hown hst;cases o3<;>first|exact q2.elim|skip
           rename_i b3 ty3 kr3 es3 dp3;obtain⟨q5,rfl,rfl,rfl,q6⟩:=q2;obtain rfl:=bj q1 rfl;rw[f1]at q6;cases q6;refine⟨_,σ++[s2.c],_,Kv ho (cn hd) ht hz hzk.1 hby x1 y1 g1 q1 f3 f4,?_,hK⟩;have hb3:=g2.bind (out:=[DV.sl ty3 kr3 (es++fs)]) (k:=1) rfl;have hl:=g2.last s2.c
           have:=hb3.upd (s':={s2 with ob:=upd s2.ob i' (.row s2.c ty3 kr3 (es++fs) true),c:=s2.c+1}) (i:=i') (n':=(S3.bind 1).n) (c':=S3.c+1) (so:=.row S3.c ty3 kr3 S3.m) (aW.app _ [s2.c]) (by have:=g2.c;grind) hb3.n (Nat.le_refl _) q4 rfl (λj hj=>aJ _ _ hj)
            (by simp[af];exact⟨hl,rfl,rfl,rfl,by rw[<-g2.m];simp⟩)
           exact this.put ⟨rfl,⟨rfl,hl⟩,trivial⟩
          grind
         grind
        grind
       grind
      ·rename_i i st kq z m cy hone hcy;split at h
       ·rename_i a0 t0 k0 x0 hown0;split at h
        ·rename_i htk;obtain⟨rfl,rfl⟩:=htk;unfold De at h;split at h
         ·rename_i qq y S3 hsrc;split at h
          ·rename_i a3 t3 k3 x3 hown;split at h
           ·rename_i hx;obtain⟨rfl,rfl,rfl⟩:=hx;cases h;obtain⟨ρ',he,hK⟩:=bp hw;obtain⟨ρ2,a1,a2⟩:=ai he;obtain⟨ρ3,b1,b2⟩:=ai a2;obtain⟨ρ0,c1,c2⟩:=ai a1;obtain⟨ρ1,d1,d2⟩:=ai c2;obtain⟨k1,k2⟩:=aU hu c1 hr;obtain⟨m1,m2⟩:=aU hv d1 k2;obtain⟨cx,x1,x2⟩:=bk hone m1;cases cx<;>first|exact x2.elim|skip
            rename_i i' st' kx lo n;obtain⟨rfl,hst,rfl,⟨u',e1,e2,rfl⟩,⟨v',e3,e4,rfl⟩⟩:=x2;obtain⟨cY,y1,y2⟩:=bk hcy k1;obtain⟨o0,r1,r2,r3,r4⟩:=m2.own hown0 hst;cases o0<;>first|exact r2.elim|skip
            rename_i b0 ty0 kr0 es0 dp0;obtain⟨r5,rfl,rfl,rfl,r6⟩:=r2;obtain rfl:=bj r1 rfl;obtain⟨out,o1,rfl⟩:=az d2;simp only[aG,r6,e1,e3]at o1;split at o1
            ·rename_i vL;obtain⟨hu0,hle⟩:=vL;subst hu0;cases o1
             have hps:aV { (S2.bind 1)with ob:=(i',.row S2.c ty0 kr0 S2.m)::S2.ob,c:=S2.c+1} (ρ1++[.sl ty0 kr0 (es0.take v'.toNat)]) (σ++[s.c]) (s.cut i' ty0 kr0 v'.toNat es0):=by
              have hb:=m2.bind (out:=[DV.sl ty0 kr0 (es0.take v'.toNat)]) (k:=1) rfl
              exact hb.upd (s':=s.cut i' ty0 kr0 v'.toNat es0) (i:=i') (n':=S2.n) (c':=S2.c+1) (so:=.row S2.c ty0 kr0 S2.m) (aW.app _ [s.c]) (by have:=m2.c;grind) hb.n (Nat.le_refl _) r4 rfl (λj hj=>aJ _ _ hj)
               (by simp[AS.cut,af];exact⟨m2.last _,rfl,rfl,rfl,by rw[<-m2.m];simp⟩)
             obtain⟨es,fs,t',f1,f2,f3,f4,rfl⟩:=jQ b2;obtain⟨s2,g1,g2⟩:=Et hsrc b1 hps (y2.mono ((aj d1).trans (aW.app _ _)) (aW.app _ _)) f2;obtain⟨o3,q1,q2,q3,q4⟩:=g2.own hown (m2.last s.c);cases o3<;>first|exact q2.elim|skip
             rename_i b3 ty3 kr3 es3 dp3;obtain⟨q5,rfl,rfl,rfl,q6⟩:=q2;obtain rfl:=bj q1 rfl
             have hes:es=es0.take v'.toNat/\es3=es0.take v'.toNat:=by
              have h0:ρ3[S2.m]? =some (.sl ty3 kr3 (es0.take v'.toNat)):=(aj b1).get (by rw[<-m2.m];simp);rw[h0]at f1 q6
              grind
             obtain⟨rfl,rfl⟩:=hes;refine⟨_,σ++[s.c]++[s2.c],_,CK ho (cn hd) ht hz hzk.1 hby x1 r1 hle y1 g1 q1 f3 f4,?_,hK⟩;have hb3:=g2.bind (out:=[DV.sl ty3 kr3 (es0.take v'.toNat++fs)]) (k:=1) rfl;have hl:=g2.last s2.c
             have:=hb3.upd (s':={s2 with ob:=upd s2.ob i' (.row s2.c ty3 kr3 (es0.take v'.toNat++fs) true),c:=s2.c+1}) (i:=i') (n':=(S3.bind 1).n) (c':=S3.c+1) (so:=.row S3.c ty3 kr3 S3.m) (aW.app _ [s2.c]) (by have:=g2.c;grind) hb3.n (Nat.le_refl _) q4 rfl (λj hj=>aJ _ _ hj)
              (by simp only[af];exact⟨hl,rfl,rfl,rfl,by rw[<-g2.m];simp⟩)
             exact this.put ⟨rfl,⟨rfl,hl⟩,trivial⟩
            grind
           grind
          grind
         grind
        grind
       grind
      grind
     grind
    grind
   grind
  grind
 grind
def Mv(P:Program)(S:Sy)(d:Option Nat)(X Y:Operand)(t:TypeId):Option (List Nd×Sy):=
 match dN P t with
 |some (el,k)=>(match gW S X with
  |some (p,v,S1)=>(match gW S1 Y with
   |some (q,u,S2)=>(match one v,one u with
    |some (.sub i st k1 z m),some (.sub i' st' k2 z' m')=>(match S2.own i st with
     |some (.row a t' k' x)=>if i'=i/\st'=st/\k1=k/\k2=k/\t'=el/\k'=k then
      some ((p++(q++[PO.cpy k x z m z' m'])).map .po,{ (S2.bind 2)with ob:=(i,.row a el k S2.m)::S2.ob}.put d (.p false [.d (S2.m+1)]))else none
     |_=>none)
    |_,_=>none)
   |none=>none)
  |none=>none)
 |none=>none
theorem MC{ds:List DV}(h:ds.all im=true):pz ds:=λd hd=>by
 have:=List.all_eq_true.1 h d hd;unfold im at this
 grind
theorem KE{X Y:Operand}{t:TypeId}(ho:o.op=.call ⟨.builtin .copy,#[X,Y],#[t,t]⟩)(h:Mv P S o.dst X Y t=some (dq,S'))(hd:dB N o.dst=true)(hr:aV S ρ σ s)(hw:WN P dq K ρ):gd P N o s S' K:=by
 unfold Mv at h;split at h
 ·rename_i el k ht;split at h
  ·rename_i p v S1 hv;split at h
   ·rename_i q u S2 hu;split at h
    ·rename_i i st k1 z m i' st' k2 z' m' hone1 hone2;split at h
     ·rename_i a t' k' x hown;split at h
      ·rename_i hc;obtain⟨rfl,rfl,rfl,rfl,rfl,rfl⟩:=hc;injection h with h;injection h with e1 e2;subst e1 e2;obtain⟨ρ',he,hK⟩:=bp hw;obtain⟨ρ1,a1,a2⟩:=ai he;obtain⟨ρ2,b1,b2⟩:=ai a2;obtain⟨k1',k2'⟩:=aU hv a1 hr;obtain⟨m1,m2⟩:=aU hu b1 k2';obtain⟨cx,x1,x2⟩:=bk hone1 (k1'.mono (aj b1) (aW.refl _));cases cx<;>first|exact x2.elim|skip
       obtain⟨rfl,hst,rfl,⟨u1,f1,f2,rfl⟩,⟨v1,f3,f4,rfl⟩⟩:=x2;obtain⟨cy,y1,y2⟩:=bk hone2 m1;cases cy<;>first|exact y2.elim|skip
       obtain⟨rfl,hst',rfl,⟨u2,g1,g2,rfl⟩,⟨v2,g3,g4,rfl⟩⟩:=y2;rw[hst]at hst';injection hst' with hst';subst hst';obtain⟨o',n1,n2,n3,n4⟩:=m2.own hown hst;cases o'<;>first|exact n2.elim|skip
       rename_i b ty kr es dp;obtain⟨n5,rfl,rfl,rfl,n6⟩:=n2;obtain rfl:=bj n1 rfl;obtain⟨out,o1,rfl⟩:=az b2;simp only[aG,n6,f1,f3,g1,g3]at o1;split at o1
       ·rename_i hfl;injection o1 with o1;subst o1;refine⟨_,σ,_,QT ho (cn hd) ht x1 y1 n1 (MC hfl.2),?_,hK⟩;have hb3:=m2.bind (out:=[DV.sl ty kr (mY es u1.toNat v1.toNat u2.toNat v2.toNat),.sc (.int .i64 ((min v2.toNat v1.toNat:Nat):Int))]) (k:=2) rfl
        have:=hb3.upd (s':={s with ob:=upd s.ob _ (.row b ty kr (mY es u1.toNat v1.toNat u2.toNat v2.toNat) true)}) (n':=(S2.bind 2).n) (c':=(S2.bind 2).c) (so:=.row a ty kr S2.m) (aW.refl _) hb3.c hb3.n (Nat.le_refl _) n4 rfl (λj hj=>aJ _ _ hj)
         (by simp only[af];exact⟨n5,rfl,rfl,rfl,by rw[<-m2.m];simp⟩)
        exact this.put ⟨rfl,by show(_:List DV)[_]? =_;rw[<-m2.m];simp,trivial⟩
       ·cases o1
      ·cases h
     ·cases h
    ·cases h
   ·cases h
  ·cases h
 ·cases h
def MW:Operand->Operand->Bool
 |.tmp a,.tmp b=>decide (a=b)
 |.const (.int .i64 n),.const (.int .i64 m)=>decide (n=m)
 |_,_=>false
theorem M9{x y:Operand}(h:MW x y=true):s.ev y=s.ev x:=by
 unfold MW at h
 grind
def L9(P:Program)(S:Sy)(d:Option Nat)(t:TypeId)(x y:Operand):Option (List Nd×Sy):=
 match dN P t with
 |some (el,k)=>(match aT P el,dW P el with
  |some zs,some b=>(match U2 zs,gW S x with
   |some ds,some (p,v,S1)=>(match Fe v with
    |some i=>if zs.length=k/\0<k/\MW x y=true then some ((p++[PO.make el k b ds i]).map .po,((S1.bind 1).push (.row S1.c el k S1.m)).put d (.p false [.own S1.n S1.c]))else none
    |none=>none)
   |_,_=>none)
  |_,_=>none)
 |none=>none
theorem Kl{x y:Operand}{t:TypeId}(ho:o.op=.makeSlice t x y)(h:L9 P S o.dst t x y=some (dq,S'))(hd:dB N o.dst=true)(hr:aV S ρ σ s)(hw:WN P dq K ρ):gd P N o s S' K:=by
 unfold L9 at h;split at h
 ·rename_i el k ht;split at h
  ·rename_i zs b hz hby
   split at h
   ·rename_i ds p v S1 hzd hv;split at h
    ·rename_i i hi;split at h
     ·rename_i hc;injection h with h;injection h with e1 e2;subst e1 e2;obtain⟨ρ',he,hK⟩:=bp hw;obtain⟨ρ1,a1,a2⟩:=ai he;obtain⟨k1,k2⟩:=aU hv a1 hr;obtain⟨z,z1,z2⟩:=cJ hi k1;obtain⟨out,o1,rfl⟩:=az a2;simp only[aG,z2]at o1;split at o1
      ·rename_i n hn;injection hn with hn;subst hn;split at o1
       ·rename_i hcn;injection o1 with o1;subst o1;obtain⟨m,rfl⟩:=Int.eq_ofNat_of_zero_le hcn.1;simp only[Int.toNat_natCast]at hcn hK ⊢;refine⟨_,σ++[s.c],_,(M7 (s:=s) ho z1 (by rw[M9 hc.2.2];exact z1) ht hc.2.1 hz hc.1 hzd hby hcn.2.1 hcn.2.2).toO (cn hd),?_,hK⟩;exact((k2.bind (out:=[DV.sl el k (List.replicate m ds)]) (k:=1) rfl).push (so:=.row S1.c el k S1.m) (ob:=.row s.c el k (List.replicate m ds) true) ⟨k2.last _,rfl,rfl,rfl,by rw[<-k2.m];simp⟩).put ⟨rfl,⟨k2.n,k2.last _⟩,trivial⟩
       ·cases o1
      ·cases o1
     ·cases h
    ·cases h
   ·cases h
  ·cases h
 ·cases h
end
end Go.Proofs.YtliknccmjjncbaaGreat
namespace Go.Proofs.YtliknccmjjncbaaGreat
open Go.RowKit
section
variable {P:Program}{N:Nat}{ρ ρ':List DV}{σ σ':List Nat}{S S':Sy}{s s':AS}{ps:List PO}{v:SV}{o:Oper}{K:List DV->Prop}{dq:List Nd}
def vj(F:Bool):List SC->List (Option (Nat×Nat))->Sy->Option (List PO×List Nat×Sy)
 |[],_,S=>some ([],[],S)
 |.d i::cs,ty,S=>(match vj F cs ty.tail S with|some (p,xs,S')=>some (p,i::xs,S')|none=>none)
 |.nil::cs,ty,S=>(match ty.headD none with
  |some (t,k)=>(match vj F cs ty.tail (S.bind 1)with|some (p,xs,S')=>some (PO.e t k::p,S.m::xs,S')|none=>none)
  |none=>none)
 |.own i st::cs,ty,S=>(match S.ownR i st with
  |some (.row _ _ _ x)=>if F then none else(match vj F cs ty.tail S with|some (p,xs,S')=>some (p,x::xs,S')|none=>none)
  |some (.frz _ x)=>(match vj F cs ty.tail S with|some (p,xs,S')=>some (p,x::xs,S')|none=>none)
  |some (.dx _ x)=>if F then none else(match vj F cs ty.tail S with|some (p,xs,S')=>some (p,x::xs,S')|none=>none)
  |_=>none)
 |.emp::cs,ty,S=>(match ty.headD none with
  |some (t,k)=>(match vj F cs ty.tail (S.bind 1)with|some (p,xs,S')=>some (PO.e t k::p,S.m::xs,S')|none=>none)
  |none=>none)
 |.sub i st k z m::cs,ty,S=>(match S.ownR i st with
  |some (.row _ _ k2 x)=>if F|| !(k2==k)then none else(match vj F cs ty.tail (S.bind 1)with|some (p,xs,S')=>some (PO.viewD x z m::p,S.m::xs,S')|none=>none)
  |_=>none)
 |_::_,_,_=>none
theorem eP{F:Bool}:∀{cs:List SC} {ty:List (Option (Nat×Nat))} {S S':Sy} {ps:List PO} {xs:List Nat} {ρ ρ':List DV} {ys:List AC},vj F cs ty S=some (ps,xs,S')->ay ps ρ=some ρ'->aV S ρ σ s->cm ρ σ cs ys->
 ∃ds,RD ρ' xs ds/\(F=false->IA s ys ds)/\(F=true->CN s ys ds)/\aV S' ρ' σ s
 |[],ty,S,S',ps,xs,ρ,ρ',ys,h,he,hr,hc=>by
  simp only[vj]at h;cases h;simp[ay]at he;cases he
  cases ys with
  |nil=>exact⟨[],trivial,λ_=>trivial,λ_=>trivial,hr⟩
  |cons=>exact hc.elim
 |c::cs,ty,S,S',ps,xs,ρ,ρ',[],h,he,hr,hc=>hc.elim
 |.d i::cs,ty,S,S',ps,xs,ρ,ρ',y::ys,h,he,hr,hc=>by
  simp[vj]at h;split at h
  ·rename_i p xs' S1 hg;cases h;obtain⟨x,rfl,hx⟩:=sy hc.1;obtain⟨ds,g1,g2,g3,g4⟩:=eP hg he hr hc.2;exact⟨x::ds,⟨(aj he).get hx,g1⟩,λhF=>⟨rfl,g2 hF⟩,λhF=>⟨rfl,g3 hF⟩,g4⟩
  grind
 |.nil::cs,ty,S,S',ps,xs,ρ,ρ',y::ys,h,he,hr,hc=>by
  simp[vj]at h;cases y<;>first|exact hc.1.elim|skip
  split at h
  ·rename_i t k ht;split at h
   ·rename_i p xs' S1 hg;cases h;simp[ay,aG]at he;obtain⟨ds,g1,g2,g3,g4⟩:=eP hg he (hr.bind rfl) (cm.mono (aW.app _ _) (aW.refl _) hc.2);exact⟨.sl t k []::ds,⟨(aj he).get (by simp[<-hr.m]),g1⟩,λhF=>⟨⟨t,k,rfl⟩,g2 hF⟩,λhF=>⟨⟨t,k,rfl⟩,g3 hF⟩,g4⟩
   grind
  grind
 |.own i st::cs,ty,S,S',ps,xs,ρ,ρ',y::ys,h,he,hr,hc=>by
  simp[vj]at h;cases y<;>first|exact hc.1.elim|skip
  rename_i i' st';obtain⟨⟨rfl,hst⟩,hc2⟩:=hc;split at h
  ·rename_i a t k x ho;split at h
   ·cases h
   ·rename_i hF0;split at h
    ·rename_i p xs' S1 hg;cases h;obtain⟨o',k1,k2,k3,k4⟩:=hr.ownR ho hst;cases o'<;>first|exact k2.elim|skip
     rename_i b ty' kk es' dp;obtain⟨k5,rfl,rfl,-,hx⟩:=k2;obtain rfl:=bj k1 rfl;obtain⟨ds,g1,g2,g3,g4⟩:=eP hg he hr hc2;exact⟨.sl ty' kk es'::ds,⟨(aj he).get hx,g1⟩,λhF=>⟨⟨by rw[hr.n];exact k4,by rw[k3];grind⟩,g2 hF⟩,λhF=>absurd hF hF0,g4⟩
    grind
  ·rename_i a x ho;split at h
   ·rename_i p xs' S1 hg;cases h;obtain⟨o',k1,k2,k3,k4⟩:=hr.ownR ho hst;cases o'<;>first|exact k2.elim|skip
    rename_i b yy;obtain⟨k5,hx⟩:=k2;obtain rfl:=bj k1 rfl;obtain⟨ds,g1,g2,g3,g4⟩:=eP hg he hr hc2;exact⟨yy::ds,⟨(aj he).get hx,g1⟩,λhF=>⟨⟨by rw[hr.n];exact k4,by rw[k3];grind⟩,g2 hF⟩,λhF=>⟨⟨by rw[hr.n];exact k4,by rw[k3];grind⟩,g3 hF⟩,g4⟩
   grind
  ·rename_i a x ho;split at h
   ·cases h
   ·rename_i hF0;split at h
    ·rename_i p xs' S1 hg;cases h;obtain⟨o',k1,k2,k3,k4⟩:=hr.ownR ho hst;cases o'<;>first|exact k2.elim|skip
     rename_i b yy;obtain⟨k5,hx⟩:=k2;obtain rfl:=bj k1 rfl;obtain⟨ds,g1,g2,g3,g4⟩:=eP hg he hr hc2;exact⟨yy::ds,⟨(aj he).get hx,g1⟩,λhF=>⟨⟨by rw[hr.n];exact k4,by rw[k3];grind⟩,g2 hF⟩,λhF=>absurd hF hF0,g4⟩
    grind
  grind
 |.ptr _ _ _::cs,ty,S,S',ps,xs,ρ,ρ',y::ys,h,he,hr,hc=>by grind[vj]
 |.elt _ _ _ _ _::cs,ty,S,S',ps,xs,ρ,ρ',y::ys,h,he,hr,hc=>by grind[vj]
 |.emp::cs,ty,S,S',ps,xs,ρ,ρ',y::ys,h,he,hr,hc=>by
  simp[vj]at h;cases y<;>first|exact hc.1.elim|skip
  split at h
  ·rename_i t k ht;split at h
   ·rename_i p xs' S1 hg;cases h;simp[ay,aG]at he;obtain⟨ds,g1,g2,g3,g4⟩:=eP hg he (hr.bind rfl) (cm.mono (aW.app _ _) (aW.refl _) hc.2);exact⟨.sl t k []::ds,⟨(aj he).get (by simp[<-hr.m]),g1⟩,λhF=>⟨⟨t,k,rfl⟩,g2 hF⟩,λhF=>⟨⟨t,k,rfl⟩,g3 hF⟩,g4⟩
   grind
  grind
 |.sub i st k z m::cs,ty,S,S',ps,xs,ρ,ρ',y::ys,h,he,hr,hc=>by
  simp[vj]at h;split at h
  ·rename_i a t k2 x ho;split at h
   ·cases h
   ·rename_i hF0;simp[Bool.or_eq_true,Bool.not_eq_true',beq_eq_false_iff_ne,ne_eq,not_or,Bool.not_eq_true,Classical.not_not]at hF0;obtain⟨hF0,rfl⟩:=hF0;split at h
    ·rename_i p xs' S1 hg;cases h;obtain⟨ρ1,a1,a2⟩:=ai (ps:=[.viewD x z m]) (qs:=p) he;obtain⟨t',kk,es0,u,v,h1,h2,h3,rfl⟩:=wI a1;obtain⟨ds,g1,g2,g3,g4⟩:=eP hg a2 (hr.bind rfl) (cm.mono (aW.app _ _) (aW.refl _) hc.2);exact⟨_::ds,⟨(aj a2).get (by simp[<-hr.m]),g1⟩,λhF=>⟨Ms hr hc.1 ho h1 h2 h3,g2 hF⟩,λhF=>(by rw[hF0]at hF;cases hF),g4⟩
    grind
  grind
 |.rd _::cs,ty,S,S',ps,xs,ρ,ρ',y::ys,h,he,hr,hc=>by grind[vj]
 |.fn _ _::cs,ty,S,S',ps,xs,ρ,ρ',y::ys,h,he,hr,hc=>by grind[vj]
 |.lit _::cs,ty,S,S',ps,xs,ρ,ρ',y::ys,h,he,hr,hc=>by grind[vj]
def ya(F:Bool)(P:Program):List Operand->List TypeId->Sy->Option (List PO×List (Bool×List Nat)×Sy)
 |[],_,S=>some ([],[],S)
 |x::xs,ts,S=>match gW S x with
  |some (p,.p b cs,S1)=>(match vj F cs (Ev P 9 (ts.headD 0)) S1 with
   |some (q,is,S2)=>(match ya F P xs ts.tail S2 with|some (r,as0,S3)=>some (p++(q++r),(b,is)::as0,S3)|none=>none)
   |none=>none)
  |_=>none
theorem RD.app_pre{xs:List Nat}{ds:List DV}(h:RD ρ xs ds)(hp:aW ρ ρ'):gL ρ' xs=some ds:=wl (h.mono hp)
theorem pJ{F:Bool}:∀{xs:List Operand} {ts:List TypeId} {S S':Sy} {ps:List PO} {as0:List (Bool×List Nat)} {ρ ρ':List DV},ya F P xs ts S=some (ps,as0,S')->ay ps ρ=some ρ'->aV S ρ σ s->
 ∃ys,ca ρ' as0=some ys/\(F=false->fe s xs ys)/\(F=true->fW s xs ys)/\aV S' ρ' σ s
 |[],ts,S,S',ps,as0,ρ,ρ',h,he,hr=>by
  simp only[ya]at h;cases h;simp only[ay]at he;cases he
  exact⟨[],rfl,λ_=>trivial,λ_=>trivial,hr⟩
 |x::xs,ts,S,S',ps,as0,ρ,ρ',h,he,hr=>by
  simp[ya]at h;split at h
  ·rename_i p b cs S1 hv;split at h
   ·rename_i q is S2 hq;split at h
    ·rename_i r as' S3 hr';cases h;obtain⟨ρ1,a1,a2⟩:=ai he;obtain⟨ρ2,b1,b2⟩:=ai a2;obtain⟨k1,k2⟩:=aU hv a1 hr
     cases hx:s.ev x with
     |p b' ys0=>
      rw[hx]at k1;obtain⟨rfl,hc⟩:=k1;obtain⟨ds,g1,g2,g3,g4⟩:=eP hq b1 k2 hc;obtain⟨ys,y1,y2,y3,y4⟩:=pJ hr' b2 g4;refine⟨(b',ds)::ys,by simp[ca,g1.app_pre (aj b2),y1],λhF=>⟨?_,y2 hF⟩,λhF=>⟨?_,y3 hF⟩,y4⟩
      ·rw[hx];grind
      grind
     |tup=>rw[hx]at k1;exact k1.elim
     |und=>rw[hx]at k1;exact k1.elim
    grind
   grind
  grind
def Ru(X:Bool)(c t k m:Nat):SO:=if X then .dx c m else .row c t k m
theorem PT{X:Bool}{c c' t k m:Nat}{es:List (List DV)}(h1:σ[c]? =some c')(h2:ρ[m]? =some (.sl t k es)):RO ρ σ (Ru X c t k m) (Cs X c' t k es):=by
 cases X
 ·exact⟨h1,rfl,rfl,rfl,h2⟩
 ·exact⟨h1,h2⟩
def Px(X:Bool):List (Option (Nat×Nat))->Nat->Sy->List SC×Sy
 |[],m,S=>([],S)
 |none::r,m,S=>(.d m::(Px X r (m+1) S).1,(Px X r (m+1) S).2)
 |some (t,k)::r,m,S=>(.own S.n S.c::(Px X r (m+1) (S.push (Ru X S.c t k m))).1,(Px X r (m+1) (S.push (Ru X S.c t k m))).2)
theorem Hx{X:Bool}:∀{ds:List DV} {ss:List (Option (Nat×Nat))} {m:Nat} {S:Sy} {s:AS} {σ:List Nat},EN ss ds=true->RD ρ (db m ds.length) ds->aV S ρ σ s->
 ∃σ',aW σ σ'/\aV (Px X ss m S).2 ρ σ' (s.pushL (kf X ds s.c))/\cm ρ σ' (Px X ss m S).1 (QN ds s.n s.c)
 |[],ss,m,S,s,σ,h,hd,hr=>by
  cases ss with
  |nil=>exact⟨σ,aW.refl _,hr,trivial⟩
  |cons x r=>cases x<;>simp[EN]at h
 |.sc u::ds,ss,m,S,s,σ,h,hd,hr=>by
  match ss,h with
  |none::r,h=>
   simp[EN]at h;obtain⟨σ',p1,p2,p3⟩:=Hx (ds:=ds) h hd.2 hr
   exact⟨σ',p1,p2,hd.1,p3⟩
 |.sl t k es::ds,ss,m,S,s,σ,h,hd,hr=>by
  match ss,h with
  |some (t',k')::r,h=>
   simp[EN,Bool.and_eq_true,decide_eq_true_eq]at h;obtain⟨⟨rfl,rfl⟩,h⟩:=h;have hp:=hr.push (so:=Ru X S.c t k m) (ob:=Cs X s.c t k es) (PT (hr.last _) hd.1);obtain⟨σ',p1,p2,p3⟩:=Hx (ds:=ds) h hd.2 hp;refine⟨σ',(aW.app _ _).trans p1,?_,⟨hr.n,p1.get (hr.last _)⟩,p3⟩;exact p2
def iF(X:Bool):Sh->Nat->Sy->List (Bool×List SC)×Sy
 |[],m,S=>([],S)
 |(b,ss,true)::r,m,S=>((b,(Px X ss m S).1)::(iF X r (m+ss.length) (Px X ss m S).2).1,(iF X r (m+ss.length) (Px X ss m S).2).2)
 |(b,ss,false)::r,m,S=>((b,(db m ss.length).map .d)::(iF X r (m+ss.length) S).1,(iF X r (m+ss.length) S).2)
theorem ut:∀{xs ys:List DV} {m:Nat},RD ρ (db m (xs++ys).length) (xs++ys)->RD ρ (db m xs.length) xs/\RD ρ (db (m+xs.length) ys.length) ys
 |[],ys,m,h=>⟨trivial,by simpa using h⟩
 |x::xs,ys,m,h=>by
  obtain⟨h1,h2⟩:=ut (xs:=xs) (ys:=ys) (m:=m+1) h.2;refine⟨⟨h.1,h1⟩,?_⟩;have:m+1+xs.length=m+(x::xs).length:=by grind
  rw[<-this];exact h2
theorem qb:∀{ss:List (Option (Nat×Nat))} {ds:List DV},EN ss ds=true->ds.length=ss.length
 |[],[],_=>rfl
 |none::ss,.sc _::ds,h=>by simp[EN]at h;simp[qb h]
 |some (t,k)::ss,.sl t' k' _::ds,h=>by simp[EN,Bool.and_eq_true]at h;simp[qb h.2]
 |[],_::_,h=>by grind[EN]
 |none::_,[],h=>by grind[EN]
 |some _::_,[],h=>by grind[EN]
 |none::_,.sl _ _ _::_,h=>by grind[EN]
 |some _::_,.sc _::_,h=>by grind[EN]
theorem ji{X:Bool}:∀{rs:List Rs} {sh:Sh} {m:Nat} {S:Sy} {s:AS} {σ:List Nat},er sh rs=true->RD ρ (db m (bW rs).length) (bW rs)->aV S ρ σ s->
 ∃σ',aW σ σ'/\aV (iF X sh m S).2 ρ σ' (s.pushL (b7 X rs s.c))/\RT ρ σ' (iF X sh m S).1 (iW rs s.n s.c)
 |[],sh,m,S,s,σ,h,hd,hr=>by
  cases sh with
  |nil=>exact⟨σ,aW.refl _,hr,trivial⟩
  |cons x r=>grind[er]
 |(b,ds,ow)::rs,sh,m,S,s,σ,h,hd,hr=>by
  match sh,h with
  |(b',ss,ow')::r,h=>
   simp[er,Bool.and_eq_true,decide_eq_true_eq]at h;obtain⟨⟨rfl,rfl⟩,h1,h2⟩:=h;obtain⟨d1,d2⟩:=ut hd;rw[qb h1]at d2
   cases ow with
   |true=>
    obtain⟨σ1,p1,p2,p3⟩:=Hx h1 d1 hr;obtain⟨σ2,q1,q2,q3⟩:=ji h2 d2 p2;obtain⟨n1,n2,-,-⟩:=i8 (kf X ds s.c) s;rw[we X]at n1;refine⟨σ2,p1.trans q1,?_,⟨rfl,cm.mono (aW.refl _) q1 p3⟩,?_⟩
    ·have:s.pushL (b7 X ((b,ds,true)::rs) s.c)=(s.pushL (kf X ds s.c)).pushL (b7 X rs (s.pushL (kf X ds s.c)).c):=by rw[n2,b7,xW]
     rw[this];exact q2
    grind[we]
   |false=>
    obtain⟨σ2,q1,q2,q3⟩:=ji h2 d2 hr;refine⟨σ2,q1,q2,⟨rfl,?_⟩,q3⟩;rw[<-qb h1];exact RD.toC d1
def pc(l:List (Bool×List SC)):SV:=match l with|[(b,cs)]=>.p b cs|l=>.tup l
theorem u7{l:List (Bool×List SC)}{rs:List Rs}{n c:Nat}(h:RT ρ σ l (iW rs n c)):RV ρ σ (pc l) (k8 rs n c):=by
 unfold pc k8;generalize iW rs n c=l' at h
 match l,l',h with
 |[],[],h=>exact h
 |[(b,cs)],[(b',cs')],h=>exact h.1
 |x::y::l,x'::y'::l',h=>exact h
 |[x],_::_::_,h=>exact h.2.elim
 |_::_::_,[x],h=>exact h.2.elim
def dV:Sh->Nat
 |[]=>0
 |(_,ss,_)::r=>ss.length+dV r
theorem eg:∀{sh:Sh} {rs:List Rs},er sh rs=true->(bW rs).length=dV sh
 |[],[],_=>rfl
 |(b,ss,ow)::sh,(b',ds,ow')::rs,h=>by
  simp[er,Bool.and_eq_true]at h
  simp[bW,dV,qb h.2.1,eg h.2.2]
 |[],_::_,h=>by grind[er]
 |(_,_,_)::_,[],h=>by grind[er]
theorem AR:∀{sh:Sh} {rs:List Rs},er sh rs=true->(∀x∈sh,x.2.2=true)->∀r∈rs,r.2.2=true
 |[],[],_,_=>by simp
 |(b,ss,ow)::sh,(b',ds,ow')::rs,h,hx=>by
  simp[er,Bool.and_eq_true,decide_eq_true_eq]at h;intro r hr;rcases List.mem_cons.1 hr with rfl|hr
  ·rw[h.1.2];simp_all
  ·exact AR h.2.2 (λx hx'=>hx x (List.mem_cons_of_mem _ hx')) r hr
 |[],_::_,h,_=>by grind[er]
 |(_,_,_)::_,[],h,_=>by grind
def Nv(P:Program)(ow:iI)(f:FuncId):Option Sh:=match P.funcs[f]? with|some fn=>some (fn.resultTypes.toList.map λt=>((bR P t).getD false,Ev P 9 t,ow f))|none=>none
def Ie(P:Program)(ow:iI)(S:Sy)(d:Option Nat)(f:FuncId)(args:List Operand)(ts:List TypeId):Option (List Nd×Sy):=
 match Nv P ow f,ya (!ow f) P args ts S with
 |some sh,some (p,as0,S1)=>if sh.all (λx=>x.2.2==ow f)&&decide (f<1000000)then some (p.map .po++[.call f as0 sh],(iF ow.dx sh S1.m (S1.bind (dV sh))).2.put d (pc (iF ow.dx sh S1.m (S1.bind (dV sh))).1))else none
 |_,_=>none
theorem Bl{ow:iI}{f:FuncId}{args:Array Operand}{ts:Array TypeId}(ho:o.op=.call ⟨.value (.func f),args,ts⟩)(h:Ie P ow S o.dst f args.toList ts.toList=some (dq,S'))(hd:dB N o.dst=true)(hr:aV S ρ σ s)(hw:WN P dq K ρ):gd P N o s S' K:=by
 unfold Ie at h;split at h
 ·rename_i sh p as0 S1 hsh has;split at h
  ·rename_i hall;rw[Bool.and_eq_true,decide_eq_true_eq]at hall;obtain⟨hall,hf6⟩:=hall;cases h;obtain⟨ρ1,he,hw2⟩:=bp (m7 hw);simp only[WN]at hw2;obtain⟨ys,res,w1,w2,w3,w4⟩:=hw2;have w2:=w2.plain hf6;obtain⟨ys',y1,y2,y3,y4⟩:=pJ has he hr;rw[w1]at y1;cases y1;have hlen:=eg w3
   have har:(fe s args.toList ys/\∀r∈res,r.2.2=true)\/fW s args.toList ys:=by
    cases hf:ow f with
    |true=>
     refine .inl ⟨y2 (by rw[hf];rfl),AR w3 λx hx=>?_⟩;have:=List.all_eq_true.1 hall x hx
     rw[hf]at this;grind
    |false=>grind
   have hb:=y4.bind (out:=bW res) hlen;obtain⟨σ',p1,p2,p3⟩:=ji (m:=S1.m) w3 (dG y4.m rfl) hb;exact⟨_,σ',_,(On (s:=s) ow.dx ho w2 har).toO (cn hd),p2.put (u7 p3),w4⟩
  grind
 grind
def Fz(s s':AS):Prop:=∀w0 N a w E,aH w0 N s a w E->∃E',aH w0 N s' a w E'
theorem Fz.trans{s1:AS}(h:Fz s s1)(k:Fz s1 s'):Fz s s':=λw0 N a w E hr=>by
 obtain⟨E1,h1⟩:=h w0 N a w E hr;exact k w0 N a w E1 h1
def RB(S:Sy):SC->Sy
 |.own i st=>(match S.ownR i st with|some (.row _ _ _ x)=>{S with ob:=(i,.frz st x)::S.ob}|_=>S)
 |_=>S
def Yg(S:Sy):Operand->Sy
 |.tmp t=>(match aS S.sl t with|some (.p _ cs)=>cs.foldl RB S|_=>S)
 |_=>S
def Za(S:Sy)(xs:List Operand):Sy:=xs.foldl Yg S
theorem Ot{c:SC}{y:AC}(hr:aV S ρ σ s)(hc:RC ρ σ c y):∃s',Fz s s'/\aV (RB S c) ρ σ s':=by
 cases c<;>first|exact⟨s,λ_ _ _ _ E h=>⟨E,h⟩,hr⟩|skip
 rename_i i st;cases y<;>first|exact hc.elim|skip
 rename_i i' st';obtain⟨rfl,hst⟩:=hc;simp[RB];split
 ·rename_i a t k x ho;obtain⟨o',k1,k2,k3,k4⟩:=hr.ownR ho hst;cases o'<;>first|exact k2.elim|skip
  rename_i b ty' kk es' dp;obtain⟨k5,rfl,rfl,-,hx⟩:=k2;obtain rfl:=bj k1 rfl
  exact⟨s.frz i' b (.sl ty' kk es'),λw0 N a w E h=>Qw h k1,
   hr.upd (s':=s.frz i' b (.sl ty' kk es')) (i:=i') (n':=S.n) (c':=S.c) (so:=.frz st x) (aW.refl _) hr.c hr.n (Nat.le_refl _) k4 rfl (λj hj=>by simp_all[AS.frz,aJ]) (by simp[AS.frz,af];exact⟨hst,hx⟩)⟩
 ·exact⟨s,λ_ _ _ _ E h=>⟨E,h⟩,hr⟩
theorem OX:∀{cs:List SC} {ys:List AC} {S:Sy} {s:AS},aV S ρ σ s->cm ρ σ cs ys->∃s',Fz s s'/\aV (cs.foldl RB S) ρ σ s'
 |[],_,S,s,hr,_=>⟨s,λ_ _ _ _ E h=>⟨E,h⟩,hr⟩
 |c::cs,[],S,s,hr,hc=>hc.elim
 |c::cs,y::ys,S,s,hr,hc=>by
  obtain⟨s1,f1,r1⟩:=Ot hr hc.1;obtain⟨s2,f2,r2⟩:=OX (cs:=cs) r1 hc.2;exact⟨s2,f1.trans f2,r2⟩
theorem TM{x:Operand}(hr:aV S ρ σ s):∃s',Fz s s'/\aV (Yg S x) ρ σ s':=by
 cases x<;>first|exact⟨s,λ_ _ _ _ E h=>⟨E,h⟩,hr⟩|skip
 rename_i t;simp[Yg];split
 ·rename_i b cs hl;have h1:=hr.sl _ _ hl
  cases hx:s.sl t with
  |p b' ys=>
   rw[hx]at h1
   exact OX hr h1.2
  |tup=>rw[hx]at h1;exact h1.elim
  |und=>rw[hx]at h1;exact h1.elim
 ·exact⟨s,λ_ _ _ _ E h=>⟨E,h⟩,hr⟩
theorem ON:∀{xs:List Operand} {S:Sy} {s:AS},aV S ρ σ s->∃s',Fz s s'/\aV (Za S xs) ρ σ s'
 |[],S,s,hr=>⟨s,λ_ _ _ _ E h=>⟨E,h⟩,hr⟩
 |x::xs,S,s,hr=>by
  obtain⟨s1,f1,r1⟩:=TM (x:=x) hr;obtain⟨s2,f2,r2⟩:=ON (xs:=xs) r1;exact⟨s2,f1.trans f2,r2⟩
theorem JC{s1:AS}(h:Fz s s1)(g:gd P N o s1 S' K):gd P N o s S' K:=by
 obtain⟨ρ',σ',s',h1,h2,h3⟩:=g;exact⟨ρ',σ',s',λw0 a w E hr=>by obtain⟨E1,hr1⟩:=h w0 N a w E hr;exact h1 w0 a w E1 hr1,h2,h3⟩
def Jn(P:Program)(ow:iI)(S:Sy)(d:Option Nat)(f:FuncId)(args:List Operand)(ts:List TypeId):Option (List Nd×Sy):=
 Ie P ow (if ow f then S else Za S args) d f args ts
theorem K1{ow:iI}{f:FuncId}{args:Array Operand}{ts:Array TypeId}(ho:o.op=.call ⟨.value (.func f),args,ts⟩)(h:Jn P ow S o.dst f args.toList ts.toList=some (dq,S'))(hd:dB N o.dst=true)(hr:aV S ρ σ s)(hw:WN P dq K ρ):gd P N o s S' K:=by
 unfold Jn at h
 cases hf:ow f with
 |true=>
  rw[hf,if_pos rfl]at h
  grind[Bl]
 |false=>
  rw[hf,if_neg (by decide)]at h;obtain⟨s1,f1,r1⟩:=ON (xs:=args.toList) hr
  grind[JC,Bl]
def Sy.del(S:Sy)(d:Option Nat):Sy:=match d with|some t=>{S with sl:=S.sl.filter λp=>!(p.1==t)}|none=>S
theorem nw{α:Type}{t t':Nat}:∀{l:List (Nat×α)} {x:α},aS (l.filter λp=>!(p.1==t)) t'=some x->t'≠t/\aS l t'=some x
 |[],x,h=>by grind[aS]
 |(j,y)::r,x,h=>by
  by_cases e:j=t
  ·subst e;simp[List.filter_cons,beq_self_eq_true,Bool.not_true,Bool.false_eq_true,if_false]at h;obtain⟨h1,h2⟩:=nw h
   grind[aS]
  ·have hb:(!(j==t))=true:=by simp[e]
   simp[List.filter_cons,hb,if_true,aS]at h ⊢;split at h
   ·grind
   ·rename_i e2;rw[if_neg e2];exact nw h
theorem aV.del(hr:aV S ρ σ s){d:Option Nat}{x:AV}:aV (S.del d) ρ σ (s.put d x):=by
 cases d with
 |none=>exact hr
 |some t=>
  refine⟨hr.n,hr.c,hr.m,λt' v hv=>?_,hr.ob,hr.kn⟩;obtain⟨h1,h2⟩:=nw hv;simp[AS.put];rw[aJ _ _ h1];exact hr.sl t' v h2
def ip:List SC->List (Option (Nat×Nat))->Sy->Option (List PO×List Nat×Sy)
 |[],_,S=>some ([],[],S)
 |.d i::cs,ty,S=>(match ip cs ty.tail S with|some (p,xs,S')=>some (.sc i::p,i::xs,S')|none=>none)
 |.nil::cs,ty,S=>(match ty.headD none with
  |some (t,k)=>if 0<k then(match ip cs ty.tail (S.bind 1)with|some (p,xs,S')=>some (.e t k::p,S.m::xs,S')|none=>none)else none
  |none=>none)
 |.own i st::cs,ty,S=>(match S.own i st with
  |some (.row _ _ _ x)=>(match ip cs ty.tail {S with ob:=(i,.dead)::S.ob}with|some (p,xs,S')=>some (p,x::xs,S')|none=>none)
  |_=>none)
 |_::_,_,_=>none
theorem wn:∀{cs:List SC} {ty:List (Option (Nat×Nat))} {S S':Sy} {ps:List PO} {xs:List Nat} {ρ ρ':List DV} {s:AS} {ys:List AC},ip cs ty S=some (ps,xs,S')->ay ps ρ=some ρ'->aV S ρ σ s->cm ρ σ cs ys->
 ∃s' ds,uq s s' ys ds/\RD ρ' xs ds/\aV S' ρ' σ s'
 |[],ty,S,S',ps,xs,ρ,ρ',s,ys,h,he,hr,hc=>by
  simp only[ip]at h;injection h with h;injection h with e1 h;injection h with e2 e3;subst e1 e2 e3;simp only[ay]at he;cases he
  cases ys with
  |nil=>exact⟨s,[],Oj,trivial,hr⟩
  |cons=>exact hc.elim
 |c::cs,ty,S,S',ps,xs,ρ,ρ',s,[],h,he,hr,hc=>hc.elim
 |.d i::cs,ty,S,S',ps,xs,ρ,ρ',s,y::ys,h,he,hr,hc=>by
  simp[ip]at h;split at h
  ·rename_i p xs' S1 hg;injection h with h;injection h with e1 h;injection h with e2 e3;subst e1 e2 e3;obtain⟨x,rfl,hx⟩:=sy hc.1;simp[ay,aG,hx]at he;split at he
   ·rename_i out ho;split at ho
    ·rename_i hsc;cases ho;rw[List.append_nil]at he;obtain⟨u,rfl⟩:=pG hsc;obtain⟨s',ds,g1,g2,g3⟩:=wn hg he hr hc.2;exact⟨s',.sc u::ds,Rj g1,⟨(aj he).get hx,g2⟩,g3⟩
    grind
   grind
  grind
 |.nil::cs,ty,S,S',ps,xs,ρ,ρ',s,y::ys,h,he,hr,hc=>by
  simp[ip]at h;cases y<;>first|exact hc.1.elim|skip
  split at h
  ·rename_i t k ht;split at h
   ·rename_i hk;split at h
    ·rename_i p xs' S1 hg;injection h with h;injection h with e1 h;injection h with e2 e3;subst e1 e2 e3;simp[ay,aG]at he;obtain⟨s',ds,g1,g2,g3⟩:=wn hg he (hr.bind rfl) (cm.mono (aW.app _ _) (aW.refl _) hc.2);exact⟨s',.sl t k []::ds,Ki hk g1,⟨(aj he).get (by simp[<-hr.m]),g2⟩,g3⟩
    grind
   grind
  grind
 |.own i st::cs,ty,S,S',ps,xs,ρ,ρ',s,y::ys,h,he,hr,hc=>by
  simp[ip]at h;cases y<;>first|exact hc.1.elim|skip
  rename_i i' st';obtain⟨⟨rfl,hst⟩,hc2⟩:=hc;split at h
  ·rename_i a t k x ho;split at h
   ·rename_i p xs' S1 hg;injection h with h;injection h with e1 h;injection h with e2 e3;subst e1 e2 e3;obtain⟨o',k1,k2,k3,k4⟩:=hr.own ho hst;cases o'<;>first|exact k2.elim|skip
    rename_i b ty' kk es' dp;obtain⟨k5,rfl,rfl,rfl,hx⟩:=k2
    have hb:b=st':=by
     obtain⟨-,q2,q3⟩:=am k1;rw[<-k3]at q2
     grind[AS.lv,Ob.st]
    subst hb
    have hr2:aV {S with ob:=(i',SO.dead)::S.ob} ρ σ (s.kill i'):=
     hr.upd (s':=s.kill i') (i:=i') (n':=S.n) (c':=S.c) (so:=.dead) (aW.refl _) hr.c hr.n (Nat.le_refl _) k4 rfl (λj hj=>by simp_all[AS.kill,aJ]) trivial
    obtain⟨s',ds,g1,g2,g3⟩:=wn hg he hr2 hc2;exact⟨s',.sl ty' kk es'::ds,NH k1 g1,⟨(aj he).get hx,g2⟩,g3⟩
   grind
  grind
 |.ptr _ _ _::cs,ty,S,S',ps,xs,ρ,ρ',s,y::ys,h,he,hr,hc=>by grind[ip]
 |.elt _ _ _ _ _::cs,ty,S,S',ps,xs,ρ,ρ',s,y::ys,h,he,hr,hc=>by grind[ip]
 |.sub _ _ _ _ _::cs,ty,S,S',ps,xs,ρ,ρ',s,y::ys,h,he,hr,hc=>by grind[ip]
 |.emp::cs,ty,S,S',ps,xs,ρ,ρ',s,y::ys,h,he,hr,hc=>by grind[ip]
 |.rd _::cs,ty,S,S',ps,xs,ρ,ρ',s,y::ys,h,he,hr,hc=>by grind[ip]
 |.fn _ _::cs,ty,S,S',ps,xs,ρ,ρ',s,y::ys,h,he,hr,hc=>by grind[ip]
 |.lit _::cs,ty,S,S',ps,xs,ρ,ρ',s,y::ys,h,he,hr,hc=>by grind[ip]
def Rg(P:Program):List Bool->List Operand->List TypeId->Sy->Option (List PO×List (Bool×List Nat)×Sy)
 |true::g,x::xs,ts,S=>(match x with
  |.tmp t=>(match aS S.sl t with
   |some (.p b cs)=>(match ip cs (Ev P 9 (ts.headD 0)) S with
    |some (q,is,S1)=>(match Rg P g xs ts.tail S1 with|some (r,as0,S2)=>some (q++r,(b,is)::as0,S2)|none=>none)
    |none=>none)
   |_=>none)
  |_=>none)
 |false::g,x::xs,ts,S=>(match Rg P g xs ts.tail S with
  |some (r,as0,S1)=>(match gW S1 x with
   |some (p,.p b cs,S2)=>(match vj false cs (Ev P 9 (ts.headD 0)) S2 with
    |some (q,is,S3)=>some (r++(p++q),(b,is)::as0,S3)
    |none=>none)
   |_=>none)
  |none=>none)
 |[],[],_,S=>some ([],[],S)
 |_,_,_,_=>none
theorem LF(hp:aW ρ ρ'):∀{is:List Nat} {xs:List DV},gL ρ is=some xs->gL ρ' is=some xs
 |[],xs,h=>h
 |i::is,xs,h=>by
  simp[gL]at h ⊢;split at h
  ·rename_i x ys h1 h2;rw[hp.get h1,LF hp h2];exact h
  grind
theorem CW(hp:aW ρ ρ'):∀{as0:List (Bool×List Nat)} {ys:List (Bool×List DV)},ca ρ as0=some ys->ca ρ' as0=some ys
 |[],ys,h=>h
 |(b,is)::r,ys,h=>by
  simp[ca]at h ⊢;split at h
  ·rename_i x xs h1 h2;rw[LF hp h1,CW hp h2];exact h
  grind
theorem GX{s0:AS}:∀{g:List Bool} {xs:List Operand} {ts:List TypeId} {S S':Sy} {ps:List PO} {as0:List (Bool×List Nat)} {ρ ρ':List DV} {s:AS},Rg P g xs ts S=some (ps,as0,S')->ay ps ρ=some ρ'->aV S ρ σ s->s.sl=s0.sl->
 ∃sF ys,ca ρ' as0=some ys/\vg s0 sF xs (Hq g ys) s/\aV S' ρ' σ sF/\sF.sl=s0.sl/\ys.length=xs.length
 |[],[],ts,S,S',ps,as0,ρ,ρ',s,h,he,hr,hs=>by
  simp only[Rg]at h;cases h;simp only[ay]at he;cases he
  exact⟨s,[],rfl,rfl,hr,hs,rfl⟩
 |[],_::_,ts,S,S',ps,as0,ρ,ρ',s,h,_,_,_=>by grind[Rg]
 |b::_,[],ts,S,S',ps,as0,ρ,ρ',s,h,_,_,_=>by cases b<;>simp[Rg]at h
 |true::g,x::xs,ts,S,S',ps,as0,ρ,ρ',s,h,he,hr,hs=>by
  simp[Rg]at h;split at h
  ·rename_i t;split at h
   ·rename_i b cs hl;split at h
    ·rename_i q is S1 hq;split at h
     ·rename_i r as' S2 hr';cases h;obtain⟨ρ1,a1,a2⟩:=ai he;have h1:=hr.sl _ _ hl
      cases hx:s.sl t with
      |p b' ys0=>
       rw[hx]at h1;obtain⟨rfl,hc⟩:=h1;obtain⟨s1,ds,g1,g2,g3⟩:=wn hq a1 hr hc;obtain⟨sF,ys,k1,k2,k3,k4,k5⟩:=GX hr' a2 g3 (g1.2.2.1.trans hs);refine⟨sF,(b',ds)::ys,by simp[ca,g2.app_pre (aj a2),k1],?_,k3,k4,by grind⟩;simp[Hq,vg,AS.ev,<-hs,hx]
       grind
      |tup=>rw[hx]at h1;exact h1.elim
      |und=>rw[hx]at h1;exact h1.elim
     grind
    grind
   grind
  grind
 |false::g,x::xs,ts,S,S',ps,as0,ρ,ρ',s,h,he,hr,hs=>by
  simp[Rg]at h;split at h
  ·rename_i r as' S1 hr';split at h
   ·rename_i p b cs S2 hv;split at h
    ·rename_i q is S3 hq;cases h;obtain⟨ρ1,a1,a2⟩:=ai he;obtain⟨ρ2,b1,b2⟩:=ai a2;obtain⟨sF,ys,k1,k2,k3,k4,k5⟩:=GX hr' a1 hr hs;obtain⟨m1,m2⟩:=aU hv b1 k3
     cases hx:sF.ev x with
     |p b' ys0=>
      rw[hx]at m1;obtain⟨rfl,hc⟩:=m1;obtain⟨ds,g1,g2,g3,g4⟩:=eP hq b2 m2 hc
      have hx0:s0.ev x=.p b' ys0:=by
       rw[<-hx];cases x<;>simp[AS.ev,k4]
      refine⟨sF,(b',ds)::ys,by simp[ca,wl g1,CW (aj a2) k1],?_,g4,k4,by grind⟩;simp[Hq,vg,hx0]
      grind
     |tup=>rw[hx]at m1;exact m1.elim
     |und=>rw[hx]at m1;exact m1.elim
    grind
   grind
  grind
def If(P:Program)(ow:iI)(S:Sy)(d:Option Nat)(f:Nat)(bits:Nat)(args:List Operand)(ts:List TypeId):Option (List Nd×Sy):=
 match Nv P ow f,Rg P (Bf args.length bits) args ts S with
 |some sh,some (p,as0,S1)=>if decide (P.funcs.size<=1000000/\f<1000000/\bits<1000)then some (p.map .po++[.call ((4+bits)*1000000+f) as0 sh],(iF false sh S1.m (S1.bind (dV sh))).2.put d (pc (iF false sh S1.m (S1.bind (dV sh))).1))else none
 |_,_=>none
theorem Ho{ow:iI}{f bits:Nat}{args:Array Operand}{ts:Array TypeId}(ho:o.op=.call ⟨.value (.func f),args,ts⟩)(h:If P ow S o.dst f bits args.toList ts.toList=some (dq,S'))(hd:dB N o.dst=true)(hr:aV S ρ σ s)(hw:WN P dq K ρ):gd P N o s S' K:=by
 unfold If at h;split at h
 ·rename_i sh p as0 S1 hsh has;split at h
  ·rename_i hall;rw[decide_eq_true_eq]at hall;obtain⟨hsz,hf6,hb6⟩:=hall;have hf6:f<1000000:=hf6;injection h with h;injection h with e1 e2;subst e1 e2;obtain⟨ρ1,he,hw2⟩:=bp (m7 hw);simp only[WN]at hw2;obtain⟨ys,res,w1,w2,w3,w4⟩:=hw2;have hlen:=eg w3;obtain⟨sF,ys',y1,y2,y3,y4,y5⟩:=GX (s0:=s) has he hr rfl;rw[w1]at y1;injection y1 with y1;subst y1
   have hm:ic P f (Hq (Bf args.toList.length bits) ys) res:=by
    rw[<-y5];generalize hf:(4+bits)*1000000+f=f' at w2
    cases w2 with
    |n h=>
     have hc:=h.1;rw[<-hf]at hc;unfold bc at hc;rw[Array.getElem?_eq_none (Nat.le_trans hsz (by omega))]at hc
     cases hc
    |p h=>
     have hc:=h.1;unfold bc at hc;rw[Array.getElem?_eq_none (Nat.le_trans hsz (by omega))]at hc
     cases hc
    |c h=>
     have hc:=h.1;unfold bc at hc;rw[Array.getElem?_eq_none (Nat.le_trans hsz (by omega))]at hc
     cases hc
    |w h=>
     have hc:=h.1;unfold bc at hc;rw[Array.getElem?_eq_none (Nat.le_trans hsz (by omega))]at hc
     cases hc
    |@g f2 bits2 ys res _ h=>
     rcases Nat.lt_or_ge f2 1000000 with hf2|hf2
     ·have e1:f=f2:=by omega
      have e2:bits=bits2:=by omega
      rw[e1,e2];exact h
     ·have hc:=h.1;unfold bc at hc;rw[Array.getElem?_eq_none (Nat.le_trans hsz (by omega))]at hc
      cases hc
    |v _ h|a _ h=>
     have hc:=h.1;unfold bc at hc;rw[Array.getElem?_eq_none (Nat.le_trans hsz (by omega))]at hc;cases hc
   have hb:=y3.bind (out:=bW res) hlen;obtain⟨σ',p1,p2,p3⟩:=ji (X:=false) (m:=S1.m) w3 (dG y3.m rfl) hb;exact⟨_,σ',_,OQ ho hd hm y2,p2.put (u7 p3),w4⟩
  ·cases h
 ·cases h
end
end Go.Proofs.YtliknccmjjncbaaGreat
namespace Go.Proofs.YtliknccmjjncbaaGreat
open Go.RowKit
section
variable {P:Program}{N:Nat}{ρ ρ':List DV}{σ σ':List Nat}{S S':Sy}{s s':AS}{ps:List PO}{v:SV}{o:Oper}{K:List DV->Prop}{dq:List Nd}
def Vh(S:Sy)(el k:Nat):SC->Option (List PO×Nat×Nat×Nat×Sy)
 |.nil=>some ([.e el k],S.n,S.c,S.m,(S.bind 1).push (.shr S.c el k S.m))
 |.own i st=>(match S.ownR i st with|some (.row _ t k' x)=>if t=el/\k'=k then some ([],i,st,x,{S with ob:=(i,.shr st el k x)::S.ob})else none|_=>none)
 |.sub i st k0 z m=>(match S.ownR i st with|some (.row _ t k' x)=>if t=el/\k'=k then some ([.cutP x z m],i,S.c,S.m,{ (S.bind 1)with ob:=(i,.shr S.c el k S.m)::S.ob,c:=S.c+1})else none|_=>none)
 |_=>none
theorem Pz{el k i st x:Nat}{c:SC}{y:AC}{X:Operand}(h:Vh S el k c=some (ps,i,st,x,S'))(he:ay ps ρ=some ρ')(hr:aV S ρ σ s)(hc:RC ρ σ c y)(hX:s.ev X=.p false [y])(hk:0<k):
 ∃s' σ' st' es,aW σ σ'/\aV S' ρ' σ' s'/\s'.sl=s.sl/\σ'[st]? =some st'/\i<S'.n/\s'.own? i st'=some (.row st' el k es false)/\ρ'[x]? =some (.sl el k es)/\∀w0 N a w E,aH w0 N s a w E->∃E',aH w0 N s' a w E'/\a.eval X=E'.v i:=by
 unfold Vh at h;split at h
 ·cases y<;>first|exact hc.elim|skip
  injection h with h;injection h with e1 h;injection h with e2 h;injection h with e3 h;injection h with e4 e5;subst e1 e2 e3 e4 e5;obtain⟨out,o1,rfl⟩:=az he;simp[aG]at o1;cases o1;refine⟨s.push (.row s.c el k [] false),σ++[s.c],s.c,[],aW.app _ _,(hr.bind (out:=[DV.sl el k []]) (k:=1) rfl).push (so:=.shr S.c el k S.m) (ob:=.row s.c el k [] false) ⟨hr.last _,rfl,rfl,rfl,by rw[<-hr.m];simp⟩,rfl,hr.last _,Nat.lt_succ_self _,?_,by rw[<-hr.m];simp,λw0 N a w E h=>?_⟩
  ·rw[<-hr.n];simp_all[AS.own?,AS.push,af,Ob.st]
  ·obtain⟨E',h1,h2⟩:=KH (el:=el) h hk;have e1:=aP h X;rw[hX]at e1;have:a.eval X=.slice none 0 0:=aE e1;exact⟨E',h1,by rw[<-hr.n,h2,this]⟩
 ·rename_i i0 st0;cases y<;>first|exact hc.elim|skip
  rename_i i' st';obtain⟨rfl,hst⟩:=hc;split at h
  ·rename_i a t k' x' ho;split at h
   ·rename_i hh;obtain⟨rfl,rfl⟩:=hh;injection h with h;injection h with e1 h;injection h with e2 h;injection h with e3 h;injection h with e4 e5;subst e1 e2 e3 e4 e5;simp[ay]at he;cases he;obtain⟨o',k1,k2,k3,k4⟩:=hr.ownR ho hst;cases o'<;>first|exact k2.elim|skip
    rename_i b ty kr es dp;obtain⟨k5,rfl,rfl,-,hx⟩:=k2;obtain rfl:=bj k1 rfl;refine⟨s.shal i' b ty kr es,σ,b,es,aW.refl _,?_,rfl,hst,k4,Oy k1,hx,λw0 N a w E h=>?_⟩
    ·exact hr.upd (s':=s.shal i' b ty kr es) (i:=i') (n':=S.n) (c':=S.c) (so:=.shr st0 ty kr x') (aW.refl _) hr.c hr.n (Nat.le_refl _) k4 rfl (λj hj=>by simp_all[AS.shal,aJ]) (by simp[AS.shal,af];exact⟨hst,rfl,rfl,rfl,hx⟩)
    ·obtain⟨E',h1,h2⟩:=II h k1;have e1:=aP h X;rw[hX]at e1;exact⟨E',h1,by rw[h2];exact(aE e1).2 (am k1).2.2⟩
   grind
  grind
 ·rename_i i0 st0 k0 z m;cases y<;>first|exact hc.elim|skip
  rename_i i' st' kx lo n;obtain⟨rfl,hst,rfl,⟨u',e1,e2,rfl⟩,⟨v',e3,e4,rfl⟩⟩:=hc;split at h
  ·rename_i a t k' x' ho;split at h
   ·rename_i hh;obtain⟨rfl,rfl⟩:=hh;injection h with h;injection h with h1 h;injection h with h2 h;injection h with h3 h;injection h with h4 h5;subst h1 h2 h3 h4 h5;obtain⟨o',k1,k2,k3,k4⟩:=hr.ownR ho hst;cases o'<;>first|exact k2.elim|skip
    rename_i b ty kr es dp;obtain⟨k5,rfl,rfl,-,hx⟩:=k2;obtain rfl:=bj k1 rfl;obtain⟨out,o1,rfl⟩:=az he;simp only[aG,hx,e1,e3]at o1;split at o1
    ·rename_i vL;obtain⟨hu0,hle⟩:=vL;subst hu0;cases o1;refine⟨s.cutS i' ty kr v'.toNat es,σ++[s.c],s.c,_,aW.app _ _,?_,rfl,hr.last _,k4,Oe (by rw[hr.n];exact k4),by rw[<-hr.m];simp,λw0 N a w E h=>?_⟩
     ·have hb:=hr.bind (out:=[DV.sl ty kr (es.take v'.toNat)]) (k:=1) rfl
      exact hb.upd (s':=s.cutS i' ty kr v'.toNat es) (i:=i') (n':=S.n) (c':=S.c+1) (so:=.shr S.c ty kr S.m) (aW.app _ [s.c]) (by have:=hr.c;grind) hb.n (Nat.le_refl _) k4 rfl (λj hj=>aJ _ _ hj)
       (by simp[AS.cutS,af];exact⟨hr.last _,rfl,rfl,rfl,by rw[<-hr.m];simp⟩)
     ·have e5:=aP h X;rw[hX]at e5;obtain⟨A,M,cp,B,q2,q3,q4,q5,q6⟩:=(aE e5).2 (am k1).2.2
      grind[IE]
    grind
   grind
  grind
 grind
def Jl(P:Program)(S:Sy)(el k:Nat):SC->Option (List PO×Nat×Sy)
 |.d y=>some ([],y,S)
 |.nil=>some ([.e el k],S.m,S.bind 1)
 |.emp=>some ([.e el k],S.m,S.bind 1)
 |.own j st=>(match S.ownR j st with
  |some (.row _ _ _ y)=>some ([],y,S)
  |some (.frz _ y)=>some ([],y,S)
  |some (.arr _ t k0 es)=>if k0=k then(match vj true es.flatten (List.replicate es.length (Ev P 9 t)).flatten S with
   |some (p,xs,S1)=>if xs.length=es.length*k then some (p++[.mk t k (Dk k es.length xs)],S1.m,S1.bind 1)else none
   |none=>none)else none
  |_=>none)
 |.sub j st k0 z m=>(match S.ownR j st with
  |some (.row _ _ k2 x)=>if k2=k0 then some ([.viewD x z m],S.m,S.bind 1)else none
  |_=>none)
 |_=>none
theorem Nu{i st t k:Nat}{es:List (List AC)}{news:List (List DV)}(hi:s.own? i st=some (.arr st t k es))(hl:es.length=news.length)(hu:∀e∈news,e.length=k)(hf:CN s es.flatten news.flatten):CG s k (.own i st) news:=by
 intro w0 N a w E v h hc;obtain⟨hin,hob,hlv⟩:=am hi;obtain rfl:v=E.v i:=hc.2 hlv;have hO:=h.obj i hin;rw[hob]at hO;obtain⟨g,vals,_,e1,em,eo,hge,hmx,hB,hk,hun,hcs⟩:=hO;refine⟨some ⟨g,0,none⟩,es.length,vals,λ_=>True,by rw[e1,hl],⟨by rw[<-hcs.1,cO hun,hl],by omega,hmx,λ_=>⟨_,rfl,trivial,λq u hq=>?_⟩⟩,Eu h hcs hf,hu⟩;rw[me,hB.cell];grind
theorem Bg{F:Bool}:∀{cs:List SC} {ty:List (Option (Nat×Nat))} {S S':Sy} {ps:List PO} {xs:List Nat},vj F cs ty S=some (ps,xs,S')->S'.ob=S.ob/\S'.n=S.n/\S'.c=S.c
 |[],ty,S,S',ps,xs,h=>by grind[vj]
 |c::cs,ty,S,S',ps,xs,h=>by
  cases c<;>simp[vj]at h<;>(try cases h)
  all_goals repeat' split at h
  all_goals first
   |(cases h;done)
   |(rename_i h1;cases h;have h2:=Bg h1;exact h2)
theorem F2{el k y t':Nat}{c:SC}{yc:AC}{es:List (List DV)}(h:Jl P S el k c=some (ps,y,S'))(he:ay ps ρ=some ρ')(hr:aV S ρ σ s)(hc:RC ρ σ c yc)(hy:ρ'[y]? =some (.sl t' k es)):
 CG s k yc es/\aV S' ρ' σ s/\S'.ob=S.ob/\S'.n=S.n/\S'.c=S.c:=by
 unfold Jl at h;split at h
 ·cases h;simp[ay]at he;cases he;obtain⟨x,rfl,hx⟩:=sy hc;rw[hy]at hx;grind[Ua]
 ·cases h;cases yc<;>first|exact hc.elim|skip
  obtain⟨out,o1,rfl⟩:=az he;simp[aG]at o1;cases o1;rw[<-hr.m]at hy;simp at hy;obtain⟨rfl,rfl⟩:=hy;exact⟨C2 (.inl rfl),hr.bind rfl,rfl,rfl,rfl⟩
 ·cases h;cases yc<;>first|exact hc.elim|skip
  obtain⟨out,o1,rfl⟩:=az he;simp[aG]at o1;cases o1;rw[<-hr.m]at hy;simp at hy;obtain⟨rfl,rfl⟩:=hy;exact⟨C2 (.inr rfl),hr.bind rfl,rfl,rfl,rfl⟩
 ·rename_i j st;cases yc<;>first|exact hc.elim|skip
  rename_i j' st';obtain⟨rfl,hst⟩:=hc;split at h
  ·rename_i a tt kk y' ho;cases h;simp[ay]at he;cases he;obtain⟨o',n1,n2,n3,n4⟩:=hr.ownR ho hst;cases o'<;>first|exact n2.elim|skip
   rename_i b ty kr es' dp;obtain⟨n5,rfl,rfl,-,n6⟩:=n2;obtain rfl:=bj n1 rfl;rw[n6]at hy;grind[LE]
  ·rename_i a y' ho;cases h;simp[ay]at he;cases he;obtain⟨o',n1,n2,n3,n4⟩:=hr.ownR ho hst;cases o'<;>first|exact n2.elim|skip
   rename_i b yy;obtain⟨n5,n6⟩:=n2;obtain rfl:=bj n1 rfl;rw[n6]at hy;grind[LA]
  ·rename_i a tt k0 es0 ho;split at h
   ·rename_i hk;subst hk;split at h
    ·rename_i p xs S1 hrd;split at h
     ·rename_i hlen;cases h;obtain⟨ρ1,a1,a2⟩:=ai he;obtain⟨o',n1,n2,n3,n4⟩:=hr.ownR ho hst;cases o'<;>first|exact n2.elim|skip
      rename_i b ty kr es';obtain⟨n5,rfl,rfl,n6⟩:=n2;obtain rfl:=bj n1 rfl;obtain⟨ds,d1,-,d3,d4⟩:=eP hrd a1 hr n6.flat;obtain⟨rows,r1,r2,r3,r4⟩:=ue (n:=es0.length) d1 hlen;obtain⟨out,o1,rfl⟩:=az a2;rw[zV r1 r4]at o1;cases o1;have hy':=hy;rw[<-d4.m]at hy';simp at hy';obtain⟨rfl,rfl⟩:=hy';obtain⟨q1,q2,q3⟩:S1.ob=S.ob/\S1.n=S.n/\S1.c=S.c:=Bg hrd;exact⟨Nu n1 (by rw[r3];grind[Ee.len]) r4 (by rw[r2];grind),d4.bind rfl,q1,q2,q3⟩
     grind
    grind
   grind
  grind
 ·rename_i j st k0 z m;split at h
  ·rename_i a tt k2 x ho;split at h
   ·rename_i hk;subst hk;cases h;obtain⟨t,kk,es0,u,v,h1,h2,h3,rfl⟩:=wI he;have hy':=hy;rw[<-hr.m]at hy';simp at hy';obtain⟨rfl,rfl,rfl⟩:=hy';cases yc<;>first|exact hc.elim|skip
    rename_i j' st' k' lo n;obtain⟨rfl,hst,rfl,⟨u',e1,e2,rfl⟩,⟨v',e3,e4,rfl⟩⟩:=hc;rw[h2]at e1;cases e1;rw[h3]at e3;cases e3;obtain⟨o',n1,n2,n3,n4⟩:=hr.ownR ho hst;cases o'<;>first|exact n2.elim|skip
    rename_i b ty kr es' dp;obtain⟨n5,rfl,rfl,-,n6⟩:=n2;obtain rfl:=bj n1 rfl;rw[h1]at n6;cases n6;exact⟨ML n1,hr.bind rfl,rfl,rfl,rfl⟩
   grind
  grind
 grind
def Nt(P:Program)(S:Sy)(d:Option Nat)(X Y:Operand)(t:TypeId):Option (List Nd×Sy):=
 match dN P t with
 |some (el,k)=>(match aT P el,dW P el with
  |some zs,some b=>if zs.length=k/\0<k then(match gW S Y with
   |some (q,u,S1)=>(match gW S1 X with
    |some (p,v,S2)=>(match one v,one u with
     |some cx,some cy=>(match Vh S2 el k cx with
      |some (r,i,st,x,S3)=>(match Jl P S3 el k cy with
       |some (qq,y,S4)=>some ((q++(p++(r++(qq++[PO.app el k b x y])))).map .po,{ (S4.bind 1)with ob:=(i,.shr S4.c el k S4.m)::S4.ob,c:=S4.c+1}.put d (.p false [.own i S4.c]))
       |none=>none)
      |none=>none)
     |_,_=>none)
    |none=>none)
   |none=>none)else none
  |_,_=>none)
 |none=>none
def Zr(P:Program)(S:Sy)(X Y:Operand)(t:TypeId):Bool:=match dN P t with
 |some (el,_)=>!(Oz P el)&&((match X with
  |.tmp x=>(match aS S.sl x with
   |some (.p false [.own i st])=>(match S.own i st with|some (.shr _ _ _ _)=>true|_=>false)
   |some (.p false [.sub i st _ _ _])=>(match S.own i st with|some (.shr _ _ _ _)=>true|_=>false)
   |_=>false)
  |_=>false)||(match Y with
  |.tmp y=>(match aS S.sl y with
   |some (.p false [.d _])=>true
   |some (.p false [.sub _ _ _ _ _])=>true
   |some (.p false [.own i st])=>(match S.own i st with|some (.row _ _ _ _)=>false|some (.dx _ _)=>false|_=>true)
   |_=>false)
  |_=>false))
 |none=>false
theorem Kb{X Y:Operand}{t:TypeId}(ho:o.op=.call ⟨.builtin .append,#[X,Y],#[t,t]⟩)(h:Nt P S o.dst X Y t=some (dq,S'))(hd:dB N o.dst=true)(hr:aV S ρ σ s)(hw:WN P dq K ρ):gd P N o s S' K:=by
 unfold Nt at h;split at h
 ·rename_i el k ht;split at h
  ·rename_i zs b hz hby
   split at h
   ·rename_i hzk;split at h
    ·rename_i q u S1 hu;split at h
     ·rename_i p v S2 hv;split at h
      ·rename_i cx cy hone hcy;split at h
       ·rename_i r i st x S3 htg;split at h
        ·rename_i qq y S4 hsrc;cases h;obtain⟨ρ',he,hK⟩:=bp hw;obtain⟨ρ1,c1,c2⟩:=ai he;obtain⟨ρ2,d1,d2⟩:=ai c2;obtain⟨ρ3,f1,f2⟩:=ai d2;obtain⟨ρ4,g1,g2⟩:=ai f2;obtain⟨k1,k2⟩:=aU hu c1 hr;obtain⟨m1,m2⟩:=aU hv d1 k2;obtain⟨acx,x1,x2⟩:=bk hone m1;obtain⟨acy,y1,y2⟩:=bk hcy k1;obtain⟨s3,σ3,st3,es,t1,t2,t3,t4,t5,t6,t7,t8⟩:=Pz htg f1 m2 x2 x1 hzk.2;obtain⟨es0,fs,t',a1,a2,a3,a4,rfl⟩:=jQ g2
         have hes:es0=es:=by
          have:=(aj g1).get t7;rw[a1]at this;grind
         subst hes;obtain⟨b1,b2,b3,b4,b5⟩:=F2 hsrc g1 t2 (y2.mono ((aj d1).trans (aj f1)) t1) a2
         have hY:s3.ev Y=.p false [acy]:=by
          rw[<-y1];cases Y<;>simp[AS.ev,t3]
         refine⟨_,σ3++[s3.c],_,Rr ho (cn hd) ht hz hzk.1 hby t8 hY b1 t6 a3 a4,?_,hK⟩;have hb3:=b2.bind (out:=[DV.sl el k (es0++fs)]) (k:=1) rfl;have hl:=b2.last s3.c
         have:=hb3.upd (s':={s3 with ob:=upd s3.ob i (.row s3.c el k (es0++fs) false),c:=s3.c+1}) (i:=i) (n':=(S4.bind 1).n) (c':=S4.c+1) (so:=.shr S4.c el k S4.m) (aW.app _ [s3.c]) (by have:=b2.c;grind) hb3.n (Nat.le_refl _) (by show i<S4.n;rw[b4];exact t5) rfl (λj hj=>aJ _ _ hj)
          (by simp[af];exact⟨hl,rfl,rfl,rfl,by rw[<-b2.m];simp⟩)
         exact this.put ⟨rfl,⟨rfl,hl⟩,trivial⟩
        grind
       grind
      grind
     grind
    grind
   grind
  grind
 grind
def TC(pv:Bool)(st:Nat)(T:TypeId)(cs:List SC):SO:=if pv then .pvr st T cs else .var st T cs
def sV(S:Sy)(i st:Nat):Option (Bool×TypeId×List SC):=match S.own i st with
 |some (.var _ T cs)=>some (false,T,cs)
 |some (.pvr _ T cs)=>some (true,T,cs)
 |_=>none
theorem Im{pv:Bool}{st st':Nat}{T:TypeId}{cs:List SC}{acs:List AC}(h1:σ[st]? =some st')(h2:cm ρ σ cs acs):RO ρ σ (TC pv st T cs) (GI pv st' T acs):=by
 cases pv
 ·exact⟨h1,rfl,h2⟩
 ·exact⟨h1,rfl,h2⟩
theorem Fx{i st st':Nat}{pv:Bool}{T:TypeId}{cs:List SC}(h:sV S i st=some (pv,T,cs))(hr:aV S ρ σ s)(hs:σ[st]? =some st'):∃acs,s.own? i st'=some (GI pv st' T acs)/\cm ρ σ cs acs/\i<S.n:=by
 unfold sV at h;split at h
 ·rename_i a T' cs' ho;cases h;obtain⟨o',k1,k2,k3,k4⟩:=hr.own ho hs;cases o'<;>first|exact k2.elim|skip
  obtain⟨k5,rfl,k6⟩:=k2;obtain rfl:=bj k1 rfl;exact⟨_,k1,k6,k4⟩
 ·rename_i a T' cs' ho;cases h;obtain⟨o',k1,k2,k3,k4⟩:=hr.own ho hs;cases o'<;>first|exact k2.elim|skip
  obtain⟨k5,rfl,k6⟩:=k2;obtain rfl:=bj k1 rfl;exact⟨_,k1,k6,k4⟩
 grind
def IU(i st:Nat)(pv:Bool)(T:TypeId)(cs:List SC)(j:Nat)(S:Sy):Option (List PO×List SC×Sy):=match cs[j]? with
 |some (.sub r sr k z m)=>(match S.ownR r sr with
  |some (.row _ t k' x)=>if k'=k/\r≠i then some ([.cutP x z m],cs.set j (.own r S.c),{ (S.bind 1)with ob:=(i,TC pv st T (cs.set j (.own r S.c)))::(r,.shr S.c t k S.m)::S.ob,c:=S.c+1})else none
  |_=>none)
 |_=>none
theorem cm.setV{x:SC}{y:AC}(hx:RC ρ σ x y):∀{cs:List SC} {ys:List AC} {j:Nat},cm ρ σ cs ys->cm ρ σ (cs.set j x) (ys.set j y)
 |[],[],_,_=>trivial
 |[],_::_,_,h=>h.elim
 |_::_,[],_,h=>h.elim
 |c::cs,y0::ys,0,h=>⟨hx,h.2⟩
 |c::cs,y0::ys,j+1,h=>⟨h.1,cm.setV hx h.2⟩
theorem N8{i st st' j:Nat}{pv:Bool}{T:TypeId}{cs cs':List SC}{acs:List AC}(h:IU i st pv T cs j S=some (ps,cs',S'))(he:ay ps ρ=some ρ')(hr:aV S ρ σ s)(hs:σ[st]? =some st')(hi:s.own? i st'=some (GI pv st' T acs))(hc:cm ρ σ cs acs):
 ∃s' σ' acs',Fz s s'/\aW σ σ'/\aV S' ρ' σ' s'/\s'.own? i st'=some (GI pv st' T acs')/\cm ρ' σ' cs' acs'/\s'.sl=s.sl:=by
 unfold IU at h;split at h
 ·rename_i r sr k z m hj;split at h
  ·rename_i a t k' x ho;split at h
   ·rename_i hk;obtain⟨rfl,hne⟩:=hk;simp[Option.some.injEq,Prod.mk.injEq]at h;obtain⟨rfl,rfl,rfl⟩:=h;obtain⟨y,hy,hyc⟩:=hc.get hj;cases y<;>first|exact hyc.elim|skip
    rename_i r' sr' kx lo n;obtain⟨rfl,hst,rfl,⟨u',e1,e2,rfl⟩,⟨v',e3,e4,rfl⟩⟩:=hyc;obtain⟨o',k1,k2,k3,k4⟩:=hr.ownR ho hst;cases o'<;>first|exact k2.elim|skip
    rename_i b ty kr es dp;obtain⟨k5,rfl,rfl,-,hx⟩:=k2;obtain rfl:=bj k1 rfl;obtain⟨out,o1,rfl⟩:=az he;simp only[aG,hx,e1,e3]at o1;split at o1
    ·rename_i vL;obtain⟨hu0,hle⟩:=vL;subst hu0;cases o1;obtain⟨hin,hob,hlv⟩:=am hi;have hb:=hr.bind (out:=[DV.sl ty kr (es.take v'.toNat)]) (k:=1) rfl
     have h1:=hb.upd (s':=s.cutS r' ty kr v'.toNat es) (i:=r') (n':=S.n) (c':=S.c+1) (so:=.shr S.c ty kr S.m) (aW.app _ [s.c]) (by have:=hr.c;grind) hb.n (Nat.le_refl _) k4 rfl (λj hj=>aJ _ _ hj)
      (by simp[AS.cutS,af];exact⟨hr.last _,rfl,rfl,rfl,by rw[<-hr.m];simp⟩)
     have hcs:cm (ρ++[DV.sl ty kr (es.take v'.toNat)]) (σ++[s.c]) (cs.set j (.own r' S.c)) (acs.set j (.own r' s.c)):=cm.setV (x:=.own r' S.c) (y:=.own r' s.c) ⟨rfl,hr.last _⟩ (hc.mono (aW.app _ _) (aW.app _ _));have hst':(σ++[s.c])[st]? =some st':=(aW.app σ [s.c]).get hs;have hu:=h1.upd (s':=s.cutC i st' j pv T acs r' ty kr v'.toNat es) (i:=i) (n':=S.n) (c':=S.c+1) (so:=TC pv st T (cs.set j (.own r' S.c))) (aW.refl _) h1.c h1.n (Nat.le_refl _) (by have:=hr.n;omega) rfl (λq hq=>aJ _ _ hq) (by simp_all[AS.cutC,af,Im]);refine⟨s.cutC i st' j pv T acs r' ty kr v'.toNat es,σ++[s.c],_,λw0 N a w E h=>PD h hi hy k1 hle,aW.app _ _,hu,?_,hcs,rfl⟩;unfold AS.own? AS.cutC;simp only[af,Ai];rw[if_pos (by exact hin)];simp
    grind
   grind
  grind
 grind
end
end Go.Proofs.YtliknccmjjncbaaGreat
namespace Go.Proofs.YtliknccmjjncbaaGreat
open Go.RowKit
section
variable {P:Program}{N:Nat}{ρ ρ':List DV}{σ σ':List Nat}{S S':Sy}{s s':AS}{ps:List PO}{v:SV}{o:Oper}{K:List DV->Prop}{dq:List Nd}
def Ex(P:Program)(ow:iI)(S:Sy)(d:Option Nat)(f:FuncId)(args:List Operand)(ts:List TypeId):Option (List Nd×Sy):=
 match aS ow.gf f with
 |some b=>(match If P ow S d f b args ts with|some r=>some r|none=>Jn P {ow with own:=λ_=>false} S d f args ts)
 |none=>Jn P ow S d f args ts
theorem BJ{ow:iI}{f:FuncId}{args:Array Operand}{ts:Array TypeId}(ho:o.op=.call ⟨.value (.func f),args,ts⟩)(h:Ex P ow S o.dst f args.toList ts.toList=some (dq,S'))(hd:dB N o.dst=true)(hr:aV S ρ σ s)(hw:WN P dq K ρ):gd P N o s S' K:=by
 grind[Ex,Ho,K1]
def GH:List SC->List (Option (Nat×Nat))->Sy->Option (List PO×List (Nat×Nat)×List (Option (Nat×Nat))×Sy)
 |[],_,S=>some ([],[],[],S)
 |.d i::cs,ty,S=>(match GH cs ty.tail S with|some (p,xs,os,S')=>some (.sc i::p,(i,0)::xs,none::os,S')|none=>none)
 |.nil::cs,ty,S=>(match ty.headD none with
  |some (t,k)=>if 0<k then(match GH cs ty.tail (S.bind 1)with|some (p,xs,os,S')=>some (PO.e t k::p,(S.m,1)::xs,none::os,S')|none=>none)else none
  |none=>none)
 |.own i st::cs,ty,S=>(match S.own i st with
  |some (.dx _ x)=>(match GH cs ty.tail S with|some (p,xs,os,S')=>some (p,(x,2)::xs,some (i,st)::os,S')|none=>none)
  |_=>none)
 |_::_,_,_=>none
def A6:List (Option (Nat×Nat))->Nat->Sy->Sy
 |[],_,S=>S
 |none::r,m,S=>A6 r (m+1) S
 |some (i,st)::r,m,S=>A6 r (m+1) {S with ob:=(i,.dx st m)::S.ob}
def Ng(os:List (Option (Nat×Nat))):List Nat:=os.filterMap λx=>x.map (·.1)
def Mt(P:Program)(S:Sy)(d:Option Nat)(f:FuncId)(X Y:Operand)(ts:List TypeId):Option (List Nd×Sy):=
 match gW S X with
 |some (p,.p b cs,S1)=>(match gW S1 Y with
  |some (q,.p false [.d k],S2)=>(match GH cs (Ev P 9 (ts.headD 0)) S2 with
   |some (r,xs,os,S3)=>if decide (Ng os).Nodup then some ((p++(q++r)).map .po++[.mark f b xs k],(A6 os S3.m (S3.bind (xs.length+1))).put d (.p false [.d (S3.m+xs.length)]))else none
   |none=>none)
  |_=>none)
 |_=>none
theorem D1:∀{cs:List SC} {ty:List (Option (Nat×Nat))} {S S':Sy} {ps:List PO} {xs:List (Nat×Nat)} {os:List (Option (Nat×Nat))} {ρ ρ':List DV} {ys:List AC},GH cs ty S=some (ps,xs,os,S')->ay ps ρ=some ρ'->aV S ρ σ s->cm ρ σ cs ys->
 aV S' ρ' σ s/\os.length=xs.length/\∀ρ2 ds ds',aW ρ' ρ2->gL ρ2 (xs.map (·.1))=some ds->xM xs ds ds'->
  ∃L,VV s ys ds ds' L/\L.map (·.1)=Ng os/\ds'.length=xs.length/\∀(ρ3:List DV) (m:Nat) (S3:Sy) (s3:AS),RD ρ3 (db m ds'.length) ds'->(∀(i st:Nat) o,s.own? i st=some o->i<s3.n)->aV S3 ρ3 σ s3->aV (A6 os m S3) ρ3 σ (fx s3 L)
 |[],ty,S,S',ps,xs,os,ρ,ρ',ys,h,he,hr,hc=>by
  simp only[GH]at h;cases h;simp only[ay]at he;cases he
  cases ys with
  |cons=>exact hc.elim
  |nil=>
   refine⟨hr,rfl,λρ2 ds ds' hp hg hm=>?_⟩;simp[List.map_nil,gL]at hg;cases hg
   cases ds' with
   |cons=>exact hm.elim
   |nil=>exact⟨[],trivial,rfl,rfl,λ_ _ _ _ _ _ h=>h⟩
 |c::cs,ty,S,S',ps,xs,os,ρ,ρ',[],h,he,hr,hc=>hc.elim
 |.d i::cs,ty,S,S',ps,xs,os,ρ,ρ',y::ys,h,he,hr,hc=>by
  simp[GH]at h;split at h
  ·rename_i p xs' os' S1 hg;cases h;obtain⟨x,rfl,hx⟩:=sy hc.1;simp[ay,aG,hx]at he;split at he
   ·rename_i out ho;split at ho
    ·rename_i hsc;cases ho;rw[List.append_nil]at he;obtain⟨u,rfl⟩:=pG hsc;obtain⟨g1,g2,g3⟩:=D1 hg he hr hc.2;refine⟨g1,by grind,λρ2 ds ds' hp hgL hm=>?_⟩;simp[List.map_cons,gL,hp.get ((aj he).get hx)]at hgL;split at hgL
     ·rename_i a b ha hb;cases ha;cases hgL
      cases ds' with
      |nil=>exact hm.elim
      |cons d' ds'=>
       obtain⟨⟨v,e1,e2⟩,hm⟩:=hm;injection e1 with e1;subst e1 e2;obtain⟨L,l1,l2,l3,l4⟩:=g3 ρ2 _ ds' hp hb hm;refine⟨L,⟨⟨u,rfl,rfl,rfl⟩,l1⟩,by assumption,by grind,λρ3 m S3 s3 hrd hown hr3=>?_⟩;exact l4 ρ3 (m+1) S3 s3 hrd.2 hown hr3
     grind
    grind
   grind
  grind
 |.nil::cs,ty,S,S',ps,xs,os,ρ,ρ',y::ys,h,he,hr,hc=>by
  simp[GH]at h;cases y<;>first|exact hc.1.elim|skip
  split at h
  ·rename_i t k ht;split at h
   ·rename_i hk;split at h
    ·rename_i p xs' os' S1 hg;cases h;simp[ay,aG]at he;obtain⟨g1,g2,g3⟩:=D1 hg he (hr.bind rfl) (cm.mono (aW.app _ _) (aW.refl _) hc.2);refine⟨g1,by grind,λρ2 ds ds' hp hgL hm=>?_⟩;have hget:ρ2[S.m]? =some (.sl t k []):=hp.get ((aj he).get (by rw[<-hr.m];simp));simp[List.map_cons,gL,hget]at hgL;split at hgL
     ·rename_i a b ha hb;cases ha;cases hgL
      cases ds' with
      |nil=>exact hm.elim
      |cons d' ds'=>
       obtain⟨⟨t',k',hk',e1,e2⟩,hm⟩:=hm;injection e1 with e1 e3;subst e1 e3 e2;obtain⟨L,l1,l2,l3,l4⟩:=g3 ρ2 _ ds' hp hb hm;refine⟨L,⟨⟨t,k,hk,rfl,rfl⟩,l1⟩,by assumption,by grind,λρ3 m S3 s3 hrd hown hr3=>?_⟩;exact l4 ρ3 (m+1) S3 s3 hrd.2 hown hr3
     grind
    grind
   grind
  grind
 |.own i st::cs,ty,S,S',ps,xs,os,ρ,ρ',y::ys,h,he,hr,hc=>by
  simp[GH]at h;cases y<;>first|exact hc.1.elim|skip
  rename_i i' st';obtain⟨⟨rfl,hst⟩,hc2⟩:=hc;split at h
  ·rename_i a x ho;split at h
   ·rename_i p xs' os' S1 hg;cases h;obtain⟨o',k1,k2,k3,k4⟩:=hr.own ho hst;cases o'<;>first|exact k2.elim|skip
    rename_i b yy;obtain⟨k5,hx⟩:=k2;obtain rfl:=bj k1 rfl;obtain⟨g1,g2,g3⟩:=D1 hg he hr hc2;refine⟨g1,by grind,λρ2 ds ds' hp hgL hm=>?_⟩;simp[List.map_cons,gL,hp.get ((aj he).get hx)]at hgL;split at hgL
    ·rename_i a1 b1 ha hb;cases ha;cases hgL
     cases ds' with
     |nil=>exact hm.elim
     |cons d' ds'=>
      obtain⟨L,l1,l2,l3,l4⟩:=g3 ρ2 _ ds' hp hb hm;refine⟨(i',b,d')::L,⟨k1,rfl,l1⟩,by grind[Ng],by grind,λρ3 m S3 s3 hrd hown hr3=>?_⟩;simp[A6,fx];refine l4 ρ3 (m+1) _ _ hrd.2 hown ?_;have hlt:i'<s3.n:=hown i' b _ k1;refine hr3.upd (s':={s3 with ob:=upd s3.ob i' (.dx b d')}) (i:=i') (n':=S3.n) (c':=S3.c) (so:=.dx st m) (aW.refl _) hr3.c hr3.n (Nat.le_refl _) (by rw[<-hr3.n];omega) rfl (λj hj=>aJ _ _ hj) ?_;simp[af];exact⟨hst,hrd.1⟩
    grind
   grind
  grind
 |.ptr _ _ _::cs,ty,S,S',ps,xs,os,ρ,ρ',y::ys,h,he,hr,hc=>by grind[GH]
 |.elt _ _ _ _ _::cs,ty,S,S',ps,xs,os,ρ,ρ',y::ys,h,he,hr,hc=>by grind[GH]
 |.sub _ _ _ _ _::cs,ty,S,S',ps,xs,os,ρ,ρ',y::ys,h,he,hr,hc=>by grind[GH]
 |.emp::cs,ty,S,S',ps,xs,os,ρ,ρ',y::ys,h,he,hr,hc=>by grind[GH]
 |.rd _::cs,ty,S,S',ps,xs,os,ρ,ρ',y::ys,h,he,hr,hc=>by grind[GH]
 |.fn _ _::cs,ty,S,S',ps,xs,os,ρ,ρ',y::ys,h,he,hr,hc=>by grind[GH]
 |.lit _::cs,ty,S,S',ps,xs,os,ρ,ρ',y::ys,h,he,hr,hc=>by grind[GH]
theorem KV{f:FuncId}{X Y:Operand}{ts:Array TypeId}(ho:o.op=.call ⟨.value (.func f),#[X,Y],ts⟩)(h:Mt P S o.dst f X Y ts.toList=some (dq,S'))(hd:dB N o.dst=true)(hr:aV S ρ σ s)(hw:WN P dq K ρ):gd P N o s S' K:=by
 unfold Mt at h;split at h
 ·rename_i p b cs S1 hX;split at h
  ·rename_i q k S2 hY;split at h
   ·rename_i r xs os S3 hm;split at h
    ·rename_i hnd;have hnd:=of_decide_eq_true hnd;injection h with h;injection h with e1 e2;subst e1 e2;obtain⟨ρ1,he,hw2⟩:=bp (m7 hw);simp only[WN]at hw2;obtain⟨ds,ds',n,n',w1,w2,w3,w4,w5⟩:=hw2;obtain⟨ρa,a1,a2⟩:=ai he;obtain⟨ρb,b1,b2⟩:=ai a2;obtain⟨x1,x2⟩:=aU hX a1 hr;obtain⟨y1,y2⟩:=aU hY b1 x2
     cases hx:s.ev X with
     |p b' ys=>
      rw[hx]at x1;obtain⟨rfl,hc⟩:=x1;obtain⟨g1,g2,g3⟩:=D1 hm b2 y2 (cm.mono (aj b1) (aW.refl _) hc);obtain⟨L,l1,l2,l3,l4⟩:=g3 ρ1 ds ds' (aW.refl _) w1 w4;obtain⟨z,z1,z2⟩:=cJ (i:=k) rfl y1;have z2':=(aj b2).get z2;rw[w2]at z2';injection z2' with z2';subst z2';have hst:rB P N o (λs'=>s'=(fx s L).put o.dst (.p false [.d (.sc (.int .i64 n'))])) s:=Ii ho hd w3 hx z1 l1 (by rw[l2];exact hnd) rfl;obtain⟨s1,hs1,rfl⟩:=hst;have hb:=g1.bind (out:=ds'++[.sc (.int .i64 n')]) (k:=xs.length+1) (by simp[l3]);have hv:RD (ρ1++(ds'++[.sc (.int .i64 n')])) (db S3.m (ds'++[DV.sc (.int .i64 n')]).length) (ds'++[.sc (.int .i64 n')]):=dG g1.m rfl;obtain⟨v1,v2⟩:=ut hv;have h5:=l4 _ S3.m _ s v1 (λi st o ho=>(am ho).1) hb;refine⟨_,σ,_,hs1,h5.put ⟨rfl,?_,trivial⟩,w5⟩;have:=v2.1
      rw[l3]at this;exact this
     |tup=>rw[hx]at x1;exact x1.elim
     |und=>rw[hx]at x1;exact x1.elim
    ·cases h
   ·cases h
  ·cases h
 ·cases h
def YU(P:Program)(ow:iI)(S:Sy)(o:Oper):Option (List Nd×Sy):=
 match o.op with
 |.assign (.const (.pointer none))=>some ([],S.del o.dst)
 |.alloc t=>GS P S o.dst t
 |.box t x=>Ti S o.dst t x
 |.build t parts=>(match Aa P S t parts.toList with|some (ps,cs,S')=>some (ps.map .po,S'.put o.dst (.p true cs))|none=>none)
 |.buildSlice t len parts=>PR P S o.dst t len parts.toList
 |.store t x y=>(match o.dst with|none=>H5 P S t x y|some _=>none)
 |.makeSlice t x y=>L9 P S o.dst t x y
 |.call ⟨.builtin .append,⟨[X,Y]⟩,⟨[t,t']⟩⟩=>if t'=t then(if Zr P S X Y t then Nt P S o.dst X Y t else Tj P S o.dst X Y t)else none
 |.call ⟨.builtin .copy,⟨[X,Y]⟩,⟨[t,t']⟩⟩=>if t'=t then Mv P S o.dst X Y t else none
 |.call ⟨.value (.func f),⟨[X,Y]⟩,ts⟩=>if ow.mks.contains f then Mt P S o.dst f X Y ts.toList else Ex P ow S o.dst f [X,Y] ts.toList
 |.call ⟨.value (.func f),args,ts⟩=>Ex P ow S o.dst f args.toList ts.toList
 |op=>(match W2 P S op with|some (ps,v,S')=>some (ps.map .po,S'.put o.dst v)|none=>none)
theorem Uw{ow:iI}(h:YU P ow S o=some (dq,S'))(hd:dB N o.dst=true)(hr:aV S ρ σ s)(hw:WN P dq K ρ):gd P N o s S' K:=by
 unfold YU at h;split at h
 ·rename_i ho;cases h;exact⟨ρ,σ,_,(Fp (x:=s.ev (.const (.pointer none))) (by rw[ho];rfl)).toO (cn hd),hr.del,hw⟩
 ·grind[Ig]
 ·grind[MS]
 ·grind[HZ]
 ·grind[LV]
 ·grind[Hu]
 ·grind[Kl]
 ·grind[Kb,MR]
 ·grind[KE]
 ·rename_i f X Y ts ho;split at h
  ·grind[KV]
  ·exact BJ ho h hd hr hw
 ·grind[BJ]
 grind[KR]
end
end Go.Proofs.YtliknccmjjncbaaGreat
