/- Proved: for every input the law 'FnGraft' returns true and its arguments read behind the call as before: part 2 of its proof. No condition. -/
import Derived.WalkKit
import Derived.Lib.Hide
import Derived.WalkSpells
import Derived.Laws.OwnMore
import Derived.Deep.AppendLies
import Derived.Deep.Draws
import Derived.Maps.AppendAt
import Derived.RegionTactic
import Derived.OwnWalk
import Derived.Below
import Derived.Laws.AppendOwnNone
import Derived.Deep.QuietTactic
import Derived.BigQuiet
import Derived.StillTailTactics
import Derived.Laws.Cells
import Derived.Laws.IdiomCopy
import Derived.ChangeKeysEq
import Derived.Laws.BytesArg
import Derived.Laws.StructEq
import Derived.Laws.Tables
import Derived.Great.BuildSlice
import Derived.StillTail
import Derived.OrdersHeld
import Derived.Test.YtngaddcgmnonbaaFnGraftQ1
set_option linter.unusedVariables false
set_option linter.unusedSimpArgs false
namespace Go.Proofs.Ytngaddcgmnonbaa
open Go.RowKit
def Re(s s':AS):Prop:=∀w0 N a w E,aD w0 N s a w E->∃E',aD w0 N s' a w E'
theorem Re.refl(s:AS):Re s s:=λ_ _ _ _ E h=>⟨E,h⟩
theorem Re.trans{s t u:AS}(h:Re s t)(k:Re t u):Re s u:=λw0 N a w E hr=>by
 obtain⟨E',h'⟩:=h w0 N a w E hr;exact k w0 N a w E' h'
def pt(φ:Nat->Nat):AC->AC
 |.own i st=>.own (φ i) st
 |.ptr i st off=>.ptr (φ i) st off
 |.elt i st k j off=>.elt (φ i) st k j off
 |.sub i st k lo n=>.sub (φ i) st k lo n
 |x=>x
def Gk(φ:Nat->Nat):AV->AV
 |.p b cs=>.p b (cs.map (pt φ))
 |.tup xs=>.tup (xs.map λx=>(x.1,x.2.map (pt φ)))
 |.und=>.und
def B3(φ:Nat->Nat):Ob->Ob
 |.var st t cs=>.var st t (cs.map (pt φ))
 |.arr st t k es=>.arr st t k (es.map λe=>e.map (pt φ))
 |.pvr st t cs=>.pvr st t (cs.map (pt φ))
 |.opn st t k es h=>.opn st t k es (h.map λq=>(q.1,q.2.1,φ q.2.2.1,q.2.2.2))
 |x=>x
theorem Ky(φ:Nat->Nat)(x:Ob):(B3 φ x).st=x.st:=by cases x<;>rfl
section
variable {w0:Cx}{w:World}{E:En}{N:Nat}{s s':AS}{a:Act}
theorem aD.reindex(h:aD w0 N s a w E){φ:Nat->Nat}(hφ:∀i,i<s'.n->φ i<s.n)(inj:∀i j,i<s'.n->j<s'.n->φ i=φ j->i=j)(hc:s.c<=s'.c)
 (ho:∀i,i<s'.n->s'.ob i=.dead\/B3 φ (s'.ob i)=s.ob (φ i)) (hs:∀t,s'.sl t=.und\/Gk φ (s'.sl t)=s.sl t):
 aD w0 N s' a w ⟨λi=>E.v (φ i),λi=>E.m (φ i),λi=>E.o (φ i),E.A⟩:=by
 have hL:∀i st,s'.lv i=some st->s.lv (φ i)=some st:=by
  intro i st hl;unfold AS.lv at hl ⊢;split at hl
  ·rename_i hi;rw[if_pos (hφ i hi)];rcases ho i hi with e|e
   ·rw[e]at hl;cases hl
   ·rw[<-e,Ky];exact hl
  ·cases hl
 have hC:∀(x:AC) (u:Value),dM w E s.lv s.c (pt φ x) u->dM w ⟨λi=>E.v (φ i),λi=>E.m (φ i),λi=>E.o (φ i),E.A⟩ s'.lv s'.c x u:=by
  intro x u hx
  cases x with
  |d y=>exact hx
  |nil=>exact hx
  |own i st=>exact⟨Nat.lt_of_lt_of_le hx.1 hc,λhl=>hx.2 (hL i st hl)⟩
  |ptr i st off=>exact⟨Nat.lt_of_lt_of_le hx.1 hc,λhl=>hx.2 (hL i st hl)⟩
  |elt i st k j off=>exact⟨Nat.lt_of_lt_of_le hx.1 hc,λhl=>hx.2 (hL i st hl)⟩
  |sub i st k lo n=>exact⟨Nat.lt_of_lt_of_le hx.1 hc,λhl=>hx.2 (hL i st hl)⟩
  |emp=>exact hx
  |rd cs=>exact hx
 have hCs:∀(cs:List AC) (us:List Value),ay w E s.lv s.c (cs.map (pt φ)) us->ay w ⟨λi=>E.v (φ i),λi=>E.m (φ i),λi=>E.o (φ i),E.A⟩ s'.lv s'.c cs us:=by
  intro cs us hx;refine⟨by simpa using hx.1,λj x u h1 h2=>hC x u (hx.2 j _ u (by rw[List.getElem?_map,h1];rfl) h2)⟩
 have hP:∀(b:Bool) (cs:List AC) (v:Value),cW w E s.lv s.c b (cs.map (pt φ)) v->cW w ⟨λi=>E.v (φ i),λi=>E.m (φ i),λi=>E.o (φ i),E.A⟩ s'.lv s'.c b cs v:=by
  intro b cs v hx;unfold cW at hx ⊢;split
  ·rename_i hb;rw[if_pos hb]at hx;obtain⟨vals,h1,h2⟩:=hx;exact⟨vals,h1,hCs _ _ h2⟩
  ·rename_i hb;rw[if_neg hb]at hx;exact hCs _ _ hx
 refine⟨h.size,h.defers,h.bel,λi hi=>?_,λt=>?_,h.A_lt,λb hb i hi=>h.A_m b hb _ (hφ i hi),λi hi=>h.A_o _ (hφ i hi),λi j hi hj hne=>h.mm _ _ (hφ i hi) (hφ j hj) (λe=>hne (inj i j hi hj e)),
  λi j hi hj hne=>h.oo _ _ (hφ i hi) (hφ j hj) (λe=>hne (inj i j hi hj e)),λi hi=>h.m_lt _ (hφ i hi),h.anc,λi hi=>h.mF _ (hφ i hi),λi hi=>h.oF _ (hφ i hi)⟩
 ·have hO:=h.obj (φ i) (hφ i hi);rcases ho i hi with e|e
  ·rw[e];trivial
  ·rw[<-e]at hO
   cases hx:s'.ob i with
   |var st t cs=>
    rw[hx]at hO;obtain⟨g,vals,h1,h2,h3,h4,h5,h6,h7⟩:=hO
    exact⟨g,vals,Nat.lt_of_lt_of_le h1 hc,h2,h3,h4,h5,h6,hCs _ _ h7⟩
   |arr st t k es=>
    rw[hx]at hO;obtain⟨g,vals,h1,h2,h3,h4,h5,h6,h7,h8,h9,h10⟩:=hO;rw[List.length_map]at h2 h6;refine⟨g,vals,Nat.lt_of_lt_of_le h1 hc,h2,h3,h4,h5,h6,h7,h8,λe he=>?_,hCs _ _ ?_⟩
    ·have:=h9 _ (List.mem_map.2 ⟨e,he,rfl⟩);simpa using this
    ·rw[List.map_flatten];exact h10
   |row st t k es deep=>
    rw[hx]at hO;obtain⟨cells,h1,h2,h3,h4,h5,h6⟩:=hO
    exact⟨cells,Nat.lt_of_lt_of_le h1 hc,h2,h3,h4,h5,h6⟩
   |frz st x=>rw[hx]at hO;exact⟨Nat.lt_of_lt_of_le hO.1 hc,hO.2⟩
   |dx st x=>rw[hx]at hO;exact⟨Nat.lt_of_lt_of_le hO.1 hc,hO.2⟩
   |cur st id t x cs=>
    rw[hx]at hO;obtain⟨g,u,h0,h1,h2,h3,h4,h5⟩:=hO
    exact⟨g,u,Nat.lt_of_lt_of_le h0 hc,h1,h2,h3,h4,h5⟩
   |pvr st t cs=>
    rw[hx]at hO;obtain⟨g,vals,h1,h2,h3,h4,h6,h7,h8⟩:=hO
    exact⟨g,vals,Nat.lt_of_lt_of_le h1 hc,h2,h3,h4,h6,hCs _ _ h7,h8⟩
   |opn st t k es q=>
    rw[hx]at hO;obtain⟨cells,g,h0,h1,h2,h3,h4,h5,h6,h7,h8⟩:=hO;have hq:∀{α:Type} (x:α) (l:List α),dD k x (q.map λq=>(q.1,q.2.1,φ q.2.2.1,q.2.2.2)) l=dD k x q l:=λx l=>by cases q<;>rfl
    rw[hq,hq]at h7;refine⟨cells,g,Nat.lt_of_lt_of_le h0 hc,h1,h2,h3,h4,h5,h6,h7,λp hp=>?_⟩;obtain⟨a1,a2,a5,a3,a4⟩:=h8 (p.1,p.2.1,φ p.2.2.1,p.2.2.2) (by rw[hp];rfl)
    exact⟨a1,a2,a5,Nat.lt_of_lt_of_le a3 hc,λhl=>a4 (hL _ _ hl)⟩
   |dead=>trivial
 ·have hS:=h.slot t;rcases hs t with e|e
  ·rw[e];trivial
  ·rw[<-e]at hS
   cases hx:s'.sl t with
   |p b cs=>rw[hx]at hS;exact hP b cs _ hS
   |tup xs=>
    rw[hx]at hS;obtain⟨vs,h1,h2,h3⟩:=hS;refine⟨vs,h1,by simpa using h2,λj b cs u k1 k2=>hP b cs u (h3 j b _ u ?_ k2)⟩
    rw[List.getElem?_map,k1];rfl
   |und=>trivial
theorem Re.reindex{φ:Nat->Nat}(hφ:∀i,i<s'.n->φ i<s.n)(inj:∀i j,i<s'.n->j<s'.n->φ i=φ j->i=j)(hc:s.c<=s'.c)
 (ho:∀i,i<s'.n->s'.ob i=.dead\/B3 φ (s'.ob i)=s.ob (φ i)) (hs:∀t,s'.sl t=.und\/Gk φ (s'.sl t)=s.sl t):Re s s':=
 λw0 N a w E h=>⟨_,h.reindex hφ inj hc ho hs⟩
end
section
variable {P:Program}{N:Nat}{Q:Exit->AS->Prop}{s s':AS}{o:Oper}
theorem O0{c:Code}(h:Re s s')(k:oP P N c Q s'):oP P N c Q s:=λw0 a w E hr=>by
 obtain⟨E',h'⟩:=h w0 N a w E hr;exact k w0 a w E' h'
theorem vV{ops:Array Oper}{l:List Oper}(h:Re s s')(k:jh P N ops l Q s'):jh P N ops l Q s:=λw0 a w E hr=>by
 obtain⟨E',h'⟩:=h w0 N a w E hr;exact k w0 a w E' h'
theorem dd.re{s'':AS}(h:dd P N o s s')(k:Re s' s''):dd P N o s s'':=λw0 a w E hr=>
 Oper.wp_mono2 (λa w ⟨E',h'⟩=>k w0 N a w E' h') (h w0 a w E hr)
theorem HG(h:Q .normal s):oP P N .skip Q s:=λw0 a w E hr=>wp_skip ⟨s,E,h,hr⟩
theorem Hf{id:Nat}(h:Q (.exit id) s):oP P N (.exit id) Q s:=λw0 a w E hr=>wp_exit ⟨s,E,h,hr⟩
theorem K2(h:Q .ret s):oP P N .ret Q s:=λw0 a w E hr=>wp_ret ⟨s,E,h,hr⟩
def Tm(P:Program)(N:Nat)(y:Code)(Q:Exit->AS->Prop):Exit->AS->Prop
 |.normal,s=>oP P N y Q s
 |e,s=>Q e s
theorem Ml{x y:Code}(h:oP P N x (Tm P N y Q) s):oP P N (.seq x y) Q s:=λw0 a w E hr=>by
 refine wp_seq (Code.wp_mono (λe a w he=>?_) (h w0 a w E hr));obtain⟨s',E',h1,h2⟩:=he
 cases e with
 |normal=>exact h1 w0 a w E' h2
 |_=>exact⟨s',E',h1,h2⟩
theorem FP{id:Nat}{x:Code}(h:oP P N x (GJ id Q) s):oP P N (.block id x) Q s:=λw0 a w E hr=>by
 refine wp_block (Code.wp_mono (λe a w he=>?_) (h w0 a w E hr));obtain⟨s',E',h1,h2⟩:=he
 cases e with
 |exit id'=>
  simp only[GJ]at h1;show(if id'=id then AQ w0 N Q .normal _ _ else AQ w0 N Q (.exit id') _ _);split
  ·rename_i he;rw[if_pos he]at h1;exact⟨s',E',h1,h2⟩
  ·rename_i he;rw[if_neg he]at h1;exact⟨s',E',h1,h2⟩
 |_=>exact⟨s',E',h1,h2⟩
theorem BA{c:Operand}{x y:Code}{b:Bool}(hb:s.ev c=.p false [.d (.sc (.bool b))])(h:oP P N (if b then x else y) Q s):oP P N (.cond c x y) Q s:=λw0 a w E hr=>by
 have:=aJ hr c;rw[hb]at this;refine wp_cond_split (bH this) (λhb=>?_) (λhb=>?_)
 ·subst hb;exact h w0 a w E hr
 ·subst hb;exact h w0 a w E hr
theorem CZ{id:Nat}{ops:Array Oper}(h:jh P N ops ops.toList Q s):oP P N (.region id ops false) Q s:=λw0 a w E hr=>wp_region_list (h w0 a w E hr)
theorem DY{c:Code}(I:AS->Nat->Prop)(m:Nat)(h0:I s m)(round:∀s m,I s m->oP P N c (λe s'=>match e with|.normal=>∃m' s'',m'<m/\Re s' s''/\I s'' m'|e=>Q e s') s):oP P N (.loop c) Q s:=by
 intro w0 a w E hrep b k cs
 have key:∀m s a w E,I s m->aD w0 N s a w E->∃e a' w',AQ w0 N Q e a' w'/\Arrives P (lone (b.at a (.code c::.inLoop c::k)) cs w) b k cs e a' w':=by
  intro m
  induction m using Nat.strongRecOn with
  |_ m ih=>
   intro s a w E hI hr;obtain⟨e,a₁,w₁,⟨s1,E1,hq,hr1⟩,harr⟩:=round s m hI w0 a w E hr b (.inLoop c::k) cs
   cases e with
   |normal=>
    obtain⟨m',s2,hlt,hre,hI'⟩:=hq;obtain⟨E2,hr2⟩:=hre w0 N a₁ w₁ E1 hr1;obtain⟨e₂,a₂,w₂,hq₂,harr₂⟩:=ih m' hlt _ a₁ w₁ E2 hI' hr2
    exact⟨e₂,a₂,w₂,hq₂,.of_steps (Steps.trans harr (.one step_inLoop)) harr₂⟩
   |exit id=>exact⟨_,a₁,w₁,⟨s1,E1,hq,hr1⟩,.pass (x:=.inLoop c) rfl (λ_ _=>.inl (by simp)) harr⟩
   |goto l=>exact⟨_,a₁,w₁,⟨s1,E1,hq,hr1⟩,.pass (x:=.inLoop c) rfl (λ_ _=>.inl (by simp)) harr⟩
   |ret=>exact⟨_,a₁,w₁,⟨s1,E1,hq,hr1⟩,.pass (x:=.inLoop c) rfl (λ_ _=>.inl (by simp)) harr⟩
   |panic ch=>exact⟨_,a₁,w₁,⟨s1,E1,hq,hr1⟩,.pass (x:=.inLoop c) rfl (λ_ _=>.inl (by simp)) harr⟩
   |outgrown=>exact⟨_,a₁,w₁,⟨s1,E1,hq,hr1⟩,.pass (x:=.inLoop c) rfl (λ_ _=>.inl (by simp)) harr⟩
 obtain⟨e,a',w',hq,harr⟩:=key m s a w E h0 hrep;exact⟨e,a',w',hq,.of_steps (.one step_loop) harr⟩
theorem zb{f:FuncId}{fn:Func}{c:Code}{args:List (Bool×List DV)}{res:List Rs}(hf:P.funcs[f]? =some fn)(hb:fn.body=some c)(hc:bf P f=true)(hN:args.length<=fn.ntmps)
 (h:oP P fn.ntmps c (FW P fn.results.toList res) (bM args)):aW P f args res:=by
 refine⟨hc,λw B vs hB ha=>?_⟩;refine calls_of_wp hf hb ?_;refine Code.wp_mono (λe a' w' he=>?_) (h (S6 w B) _ w _ (zB hB ha (by rw[ha.1];exact hN)));obtain⟨s,E,hq,hr⟩:=he;have key:=λhq=>Jl (P:=P) (fn:=fn) (res:=res) hr hq
 cases e with
 |normal=>exact key hq
 |ret=>exact key hq
 |_=>exact hq.elim
end
end Go.Proofs.Ytngaddcgmnonbaa
namespace Go.Proofs.Ytngaddcgmnonbaa
open Go.RowKit
inductive SC where
 |d (i:Nat)
 |nil
 |own (i st:Nat)
 |ptr (i st off:Nat)
 |elt (i st k j off:Nat)
 |rd (cs:List Nat)
 |sub (i st k lo n:Nat)
 |emp
 deriving DecidableEq
inductive SV where
 |p (agg:Bool) (cs:List SC)
 |tup (xs:List (Bool×List SC))
inductive SO where
 |var (st:Nat) (t:TypeId) (cs:List SC)
 |row (st:Nat) (t:TypeId) (k x:Nat)
 |frz (st x:Nat)
 |dx (st x:Nat)
 |cur (st:Nat) (id:Bool) (t:TypeId) (z:Nat)
 |arr (st:Nat) (t:TypeId) (k:Nat) (es:List (List SC))
 |opn (st k x:Nat) (q:Option (Nat×Nat×Nat×Nat))
 |pvr (st:Nat) (t:TypeId) (cs:List SC)
 |shr (st:Nat) (t:TypeId) (k x:Nat)
 |dead
def SO.st:SO->Option Nat
 |.var st _ _|.row st _ _ _|.frz st _|.dx st _|.arr st _ _ _|.cur st _ _ _|.opn st _ _ _|.pvr st _ _|.shr st _ _ _=>some st
 |.dead=>none
structure Sy where
 sl:List (Nat×SV)
 ob:List (Nat×SO)
 n:Nat
 c:Nat
 m:Nat
 kn:List (Nat×Bool)
def aG{α:Type}:List (Nat×α)->Nat->Option α
 |[],_=>none
 |(j,x)::r,i=>if j=i then some x else aG r i
def Sy.own(S:Sy)(i st:Nat):Option SO:=(aG S.ob i).bind λo=>if o.st=some st then some o else none
def Sy.put(S:Sy)(d:Option Nat)(v:SV):Sy:=match d with|some t=>{S with sl:=(t,v)::S.sl}|none=>S
inductive PO where
 |k (v:Value)
 |e (t k:Nat)
 |sc (x:Nat)
 |isI (x:Nat)
 |flat (x:Nat)
 |isL (t k x:Nat)
 |bin (op:BinOp) (b:Bool) (x y:Nat)
 |un (op:UnOp) (x:Nat)
 |cvI (k:IntKind) (x:Nat)
 |cvS (x:Nat)
 |cvB (x:Nat)
 |lenS (x:Nat)
 |lenL (x:Nat)
 |chr (x i:Nat)
 |idx (k x i:Nat)
 |chk (k x i:Nat)
 |cutS (x:Nat) (lo hi:Option Nat)
 |cutL (k x:Nat) (lo hi:Option Nat)
 |app (el k b x y:Nat)
 |mk (el k:Nat) (rows:List (List Nat))
 |make (el k b:Nat) (z:List DV) (n:Nat)
 |set (k x j off:Nat) (vs:List Nat)
 |mm (mx:Bool) (x y:Nat)
 |eqS (neg:Bool) (ks:List Kd) (xs ys:List Nat)
 |cutI (x:Nat) (lo hi:Option Nat)
 |cutJ (z m:Nat) (lo hi:Option Nat)
 |atJ (z m i:Nat)
 |viewD (x z m:Nat)
 |cutP (x z m:Nat)
 |emp (x:Nat)
 |unc (z n:Nat)
 |cuS (z off v:Nat)
 |stop (k:Nat)
 |cpy (k x lo n lo' n':Nat)
def lz:Value->Bool
 |.bool _|.int _ _|.string _=>true
 |_=>false
def ka:DV->Bool
 |.sc v=>lz v
 |_=>false
def gI(ρ:List DV)(i:Nat):Option Int:=match ρ[i]? with|some (.sc (.int _ z))=>some z|_=>none
def vF(ρ:List DV):Option Nat->Option (Option Int)
 |none=>some none
 |some i=>(gI ρ i).map some
def gL(ρ:List DV):List Nat->Option (List DV)
 |[]=>some []
 |i::r=>match ρ[i]?,gL ρ r with|some x,some xs=>some (x::xs)|_,_=>none
def AH(ρ:List DV):List (List Nat)->Option (List (List DV))
 |[]=>some []
 |i::r=>match gL ρ i,AH ρ r with|some x,some xs=>some (x::xs)|_,_=>none
def eC(op:BinOp)(b:Bool)(x y:Value):Option Value:=
 match x,y with
 |.int k a,.int k' c=>dA op k k' a c
 |.string a,.string c=>mM op a c
 |.bool a,.bool c=>if b then(match op with
  |.eql=>some (.bool (a==c))
  |.neq=>some (.bool (!(a==c)))
  |_=>none)else none
 |_,_=>none
def mS:Option Value->Option (List DV)
 |some v=>some [.sc v]
 |none=>none
def vt:List Kd->List DV->List DV->Option Bool
 |[],[],[]=>some true
 |k::ks,.sc a::xs,.sc b::ys=>(match NJ k a b,vt ks xs ys with|some p,some q=>some (p&&q)|_,_=>none)
 |_,_,_=>none
def av(ρ:List DV):PO->Option (List DV)
 |.k v=>if lz v then some [.sc v]else none
 |.e t k=>some [.sl t k []]
 |.sc x=>match ρ[x]? with|some d=>if ka d then some []else none|none=>none
 |.isI x=>match ρ[x]? with|some (.sc (.int _ _))=>some []|_=>none
 |.flat x=>match ρ[x]? with|some (.sl _ _ es)=>if es.flatten.all ka then some []else none|_=>none
 |.isL t k x=>match ρ[x]? with|some (.sl t' k' es)=>if t'=t/\k'=k/\es.flatten.all ka=true then some []else none|_=>none
 |.bin op b x y=>match ρ[x]?,ρ[y]? with|some (.sc u),some (.sc v)=>mS (eC op b u v)|_,_=>none
 |.un op x=>match ρ[x]? with|some (.sc u)=>mS (Kj op u)|_=>none
 |.cvI k x=>match ρ[x]? with|some (.sc (.int _ n))=>some [.sc (.int k (k.wrap n))]|_=>none
 |.cvS x=>match ρ[x]? with|some (.sc (.string s))=>some [.sc (.string s)]|_=>none
 |.cvB x=>match ρ[x]? with|some (.sl _ 1 es)=>(match iS es with|some xs=>some [.sc (.string (strOfNums xs))]|none=>none)|_=>none
 |.lenS x=>match ρ[x]? with|some (.sc (.string s))=>some [.sc (.int .i64 s.size)]|_=>none
 |.lenL x=>match ρ[x]? with|some (.sl _ _ es)=>some [.sc (.int .i64 es.length)]|_=>none
 |.chr x i=>match ρ[x]?,ρ[i]? with
  |some (.sc (.string s)),some (.sc (.int _ z))=>if 0<=z then(match s[z.toNat]? with|some u=>some [.sc (.int .u8 u.toNat)]|none=>none)else none
  |_,_=>none
 |.idx k x i=>match ρ[x]?,ρ[i]? with
  |some (.sl _ k' es),some (.sc (.int _ z))=>if k'=k/\0<=z then(match es[z.toNat]? with|some e=>if e.length=k then some e else none|none=>none)else none
  |_,_=>none
 |.chk k x i=>match ρ[x]?,ρ[i]? with
  |some (.sl _ k' es),some (.sc (.int _ z))=>if k'=k/\0<=z/\z.toNat<es.length then some []else none
  |_,_=>none
 |.cutS x lo hi=>match ρ[x]?,vF ρ lo,vF ρ hi with
  |some (.sc (.string s)),some l,some h=>(match jq l h s.size with|some (a,b)=>some [.sc (.string (s.extract a b))]|none=>none)
  |_,_,_=>none
 |.cutL k x lo hi=>match ρ[x]?,vF ρ lo,vF ρ hi with
  |some (.sl t k' es),some l,some h=>if k'=k then(match jq l h es.length with|some (a,b)=>some [.sl t k ((es.drop a).take (b-a))]|none=>none)else none
  |_,_,_=>none
 |.app el k b x y=>match ρ[x]?,ρ[y]? with
  |some (.sl t1 k1 es),some (.sl _ k2 fs)=>if t1=el/\k1=k/\k2=k/\es.length+fs.length<=9223372036854775807/\(es.length+fs.length)*b<=140737488355328 then some [.sl el k (es++fs)]else none
  |_,_=>none
 |.mk el k rows=>match AH ρ rows with|some es=>if es.all (λe=>e.length==k)then some [.sl el k es]else none|none=>none
 |.make el k b z n=>match ρ[n]? with
  |some (.sc (.int .i64 n))=>if 0<=n/\b*n.toNat<=281474976710656/\n.toNat<=9223372036854775807 then some [.sl el k (List.replicate n.toNat z)]else none
  |_=>none
 |.set k x j off vs=>match ρ[x]?,ρ[j]?,gL ρ vs with
  |some (.sl t k' es),some (.sc (.int _ z)),some ds=>if k'=k/\0<=z/\off+ds.length<=k then(match es[z.toNat]? with|some e=>some [.sl t k (es.set z.toNat (plug off ds e))]|none=>none)else none
  |_,_,_=>none
 |.mm mx x y=>match ρ[x]?,ρ[y]? with
  |some (.sc (.int k a)),some (.sc (.int k' b))=>if k=k' then some [.sc (.int k (NP mx a b))]else none
  |_,_=>none
 |.eqS neg ks xs ys=>match gL ρ xs,gL ρ ys with
  |some ds,some es=>(match vt ks ds es with|some b=>some [.sc (.bool (if neg then !b else b))]|none=>none)
  |_,_=>none
 |.cutI x lo hi=>match ρ[x]?,vF ρ lo,vF ρ hi with
  |some (.sl _ _ es),some l,some h=>(match jq l h es.length with|some (a,b)=>some [.sc (.int .i64 a),.sc (.int .i64 ((b-a:Nat):Int))]|none=>none)
  |_,_,_=>none
 |.cutJ z m lo hi=>match ρ[z]?,ρ[m]?,vF ρ lo,vF ρ hi with
  |some (.sc (.int .i64 u)),some (.sc (.int .i64 v)),some l,some h=>if 0<=u/\0<=v then(match jq l h v.toNat with|some (a,b)=>some [.sc (.int .i64 ((u.toNat+a:Nat):Int)),.sc (.int .i64 ((b-a:Nat):Int))]|none=>none)else none
  |_,_,_,_=>none
 |.atJ z m i=>match ρ[z]?,ρ[m]?,ρ[i]? with
  |some (.sc (.int .i64 u)),some (.sc (.int .i64 v)),some (.sc (.int _ j))=>if 0<=u/\0<=j/\j<v then some [.sc (.int .i64 (u+j))]else none
  |_,_,_=>none
 |.viewD x z m=>match ρ[x]?,ρ[z]?,ρ[m]? with
  |some (.sl t k es),some (.sc (.int .i64 u)),some (.sc (.int .i64 v))=>some [.sl t k ((es.drop u.toNat).take v.toNat)]
  |_,_,_=>none
 |.cutP x z m=>match ρ[x]?,ρ[z]?,ρ[m]? with
  |some (.sl t k es),some (.sc (.int .i64 u)),some (.sc (.int .i64 v))=>if u=0/\v.toNat<=es.length then some [.sl t k (es.take v.toNat)]else none
  |_,_,_=>none
 |.emp x=>match ρ[x]? with
  |some (.sl _ _ es)=>some [.sc (.bool es.isEmpty)]
  |_=>none
 |.unc z n=>match ρ[z]? with
  |some (.sl _ 0 [[x],cs])=>if cs.length+1=n then some (x::cs)else none
  |_=>none
 |.cuS z off v=>match ρ[z]?,ρ[v]? with
  |some (.sl t 0 [[x],cs]),some (.sc u)=>if lz u=true/\0<off/\off-1<cs.length then some [.sl t 0 [[x],cs.set (off-1) (.sc u)]]else none
  |_,_=>none
 |.stop _=>none
 |.cpy k x lo n lo' n'=>match ρ[x]?,ρ[lo]?,ρ[n]?,ρ[lo']?,ρ[n']? with
  |some (.sl t k' es),some (.sc (.int .i64 a)),some (.sc (.int .i64 m)),some (.sc (.int .i64 b)),some (.sc (.int .i64 m'))=>
   if k'=k/\es.flatten.all ka=true then some [.sl t k (Qr es a.toNat m.toNat b.toNat m'.toNat),.sc (.int .i64 ((min m'.toNat m.toNat:Nat):Int))]else none
  |_,_,_,_,_=>none
def aq:List PO->List DV->Option (List DV)
 |[],ρ=>some ρ
 |o::r,ρ=>match av ρ o with|some out=>aq r (ρ++out)|none=>none
section
variable (ρ:List DV)(σ:List Nat)
def RD:List Nat->List DV->Prop
 |[],[]=>True
 |i::is,x::xs=>ρ[i]? =some x/\RD is xs
 |_,_=>False
def RC:SC->AC->Prop
 |.d i,.d x=>ρ[i]? =some x
 |.nil,.nil=>True
 |.own i st,.own i' st'=>i'=i/\σ[st]? =some st'
 |.ptr i st off,.ptr i' st' off'=>i'=i/\σ[st]? =some st'/\off'=off
 |.elt i st k j off,.elt i' st' k' j' off'=>i'=i/\σ[st]? =some st'/\k'=k/\(∃kd z,ρ[j]? =some (.sc (.int kd z))/\0<=z/\j'=z.toNat)/\off'=off
 |.rd cs,.rd ds=>RD ρ cs ds
 |.sub i st k lo n,.sub i' st' k' lo' n'=>i'=i/\σ[st]? =some st'/\k'=k/\(∃z,ρ[lo]? =some (.sc (.int .i64 z))/\0<=z/\lo'=z.toNat)/\(∃z,ρ[n]? =some (.sc (.int .i64 z))/\0<=z/\n'=z.toNat)
 |.emp,.emp=>True
 |_,_=>False
def cj:List SC->List AC->Prop
 |[],[]=>True
 |x::xs,y::ys=>RC ρ σ x y/\cj xs ys
 |_,_=>False
def RT:List (Bool×List SC)->List (Bool×List AC)->Prop
 |[],[]=>True
 |x::xs,y::ys=>(y.1=x.1/\cj ρ σ x.2 y.2)/\RT xs ys
 |_,_=>False
def RV:SV->AV->Prop
 |.p b cs,.p b' cs'=>b'=b/\cj ρ σ cs cs'
 |.tup xs,.tup ys=>RT ρ σ xs ys
 |_,_=>False
def Ah:List (List SC)->List (List AC)->Prop
 |[],[]=>True
 |x::xs,y::ys=>cj ρ σ x y/\Ah xs ys
 |_,_=>False
def RH:Option (Nat×Nat×Nat×Nat)->Option (Nat×Nat×Nat×Nat)->Prop
 |none,none=>True
 |some (j,off,n,sn),some (j',off',n',sn')=>(∃kd z,ρ[j]? =some (.sc (.int kd z))/\0<=z/\j'=z.toNat)/\off'=off/\n'=n/\σ[sn]? =some sn'
 |_,_=>False
def RO:SO->Ob->Prop
 |.arr st t k es,.arr st' t' k' es'=>σ[st]? =some st'/\t'=t/\k'=k/\Ah ρ σ es es'
 |.var st t cs,.var st' t' cs'=>σ[st]? =some st'/\t'=t/\cj ρ σ cs cs'
 |.row st t k x,.row st' t' k' es dp=>σ[st]? =some st'/\t'=t/\k'=k/\dp=true/\ρ[x]? =some (.sl t k es)
 |.frz st x,.frz st' y=>σ[st]? =some st'/\ρ[x]? =some y
 |.dx st x,.dx st' y=>σ[st]? =some st'/\ρ[x]? =some y
 |.cur st id t z,.cur st' id' t' x cs=>σ[st]? =some st'/\id'=id/\t'=t/\ρ[z]? =some (ky t x cs)
 |.opn st k x q,.opn st' t' k' es q'=>σ[st]? =some st'/\k'=k/\ρ[x]? =some (.sl t' k es)/\RH ρ σ q q'
 |.pvr st t cs,.pvr st' t' cs'=>σ[st]? =some st'/\t'=t/\cj ρ σ cs cs'
 |.shr st t k x,.row st' t' k' es dp=>σ[st]? =some st'/\t'=t/\k'=k/\dp=false/\ρ[x]? =some (.sl t k es)
 |.dead,_=>True
 |_,_=>False
end
structure aO(S:Sy)(ρ:List DV)(σ:List Nat)(s:AS):Prop where
 n:s.n=S.n
 c:σ.length=S.c
 m:ρ.length=S.m
 sl:∀t x,aG S.sl t=some x->RV ρ σ x (s.sl t)
 ob:∀i x,aG S.ob i=some x->i<S.n/\RO ρ σ x (s.ob i)
 kn:∀i b,aG S.kn i=some b->ρ[i]? =some (.sc (.bool b))
def aN{α:Type}(l l':List α):Prop:=∃e,l'=l++e
theorem aN.refl{α:Type}(l:List α):aN l l:=⟨[],by simp⟩
theorem aN.trans{α:Type}{a b c:List α}(h:aN a b)(k:aN b c):aN a c:=by
 obtain⟨e,rfl⟩:=h;obtain⟨f,rfl⟩:=k;exact⟨e++f,by simp⟩
theorem aN.get{α:Type}{l l':List α}(h:aN l l'){i:Nat}{x:α}(hx:l[i]? =some x):l'[i]? =some x:=by
 obtain⟨e,rfl⟩:=h;rw[List.getElem?_append_left (List.getElem?_eq_some_iff.1 hx).1];exact hx
theorem aN.app{α:Type}(l e:List α):aN l (l++e):=⟨e,rfl⟩
section
variable {ρ ρ':List DV}{σ σ':List Nat}
theorem RD.mono(h:aN ρ ρ'):∀{is:List Nat} {xs:List DV},RD ρ is xs->RD ρ' is xs
 |[],[],_=>trivial
 |i::is,x::xs,k=>⟨h.get k.1,RD.mono h k.2⟩
 |[],_::_,k=>k.elim
 |_::_,[],k=>k.elim
theorem RC.mono(h:aN ρ ρ')(g:aN σ σ'){x:SC}{y:AC}(k:RC ρ σ x y):RC ρ' σ' x y:=by
 cases x<;>cases y<;>first|exact k.elim|skip
 ·exact h.get k
 ·trivial
 ·exact⟨k.1,g.get k.2⟩
 ·exact⟨k.1,g.get k.2.1,k.2.2⟩
 ·obtain⟨k1,k2,k3,⟨kd,z,k4,k5⟩,k6⟩:=k;exact⟨k1,g.get k2,k3,⟨kd,z,h.get k4,k5⟩,k6⟩
 ·exact RD.mono h k
 ·obtain⟨k1,k2,k3,⟨z,k4,k5⟩,⟨z',k6,k7⟩⟩:=k;exact⟨k1,g.get k2,k3,⟨z,h.get k4,k5⟩,⟨z',h.get k6,k7⟩⟩
 ·trivial
theorem cj.mono(h:aN ρ ρ')(g:aN σ σ'):∀{xs:List SC} {ys:List AC},cj ρ σ xs ys->cj ρ' σ' xs ys
 |[],[],_=>trivial
 |x::xs,y::ys,k=>⟨k.1.mono h g,cj.mono h g k.2⟩
 |[],_::_,k=>k.elim
 |_::_,[],k=>k.elim
theorem RT.mono(h:aN ρ ρ')(g:aN σ σ'):∀{xs:List (Bool×List SC)} {ys:List (Bool×List AC)},RT ρ σ xs ys->RT ρ' σ' xs ys
 |[],[],_=>trivial
 |x::xs,y::ys,k=>⟨⟨k.1.1,cj.mono h g k.1.2⟩,RT.mono h g k.2⟩
 |[],_::_,k=>k.elim
 |_::_,[],k=>k.elim
theorem RV.mono(h:aN ρ ρ')(g:aN σ σ'){x:SV}{y:AV}(k:RV ρ σ x y):RV ρ' σ' x y:=by
 cases x<;>cases y<;>first|exact k.elim|skip
 ·exact⟨k.1,cj.mono h g k.2⟩
 ·exact RT.mono h g k
theorem Ah.mono(h:aN ρ ρ')(g:aN σ σ'):∀{xs:List (List SC)} {ys:List (List AC)},Ah ρ σ xs ys->Ah ρ' σ' xs ys
 |[],[],_=>trivial
 |x::xs,y::ys,k=>⟨cj.mono h g k.1,Ah.mono h g k.2⟩
 |[],_::_,k=>k.elim
 |_::_,[],k=>k.elim
theorem RH.mono(h:aN ρ ρ')(g:aN σ σ'){x y:Option (Nat×Nat×Nat×Nat)}(k:RH ρ σ x y):RH ρ' σ' x y:=by
 cases x<;>cases y<;>first|exact k.elim|trivial|skip
 obtain⟨⟨kd,z,k1,k2⟩,k3,k4,k5⟩:=k;exact⟨⟨kd,z,h.get k1,k2⟩,k3,k4,g.get k5⟩
theorem RO.mono(h:aN ρ ρ')(g:aN σ σ'){x:SO}{y:Ob}(k:RO ρ σ x y):RO ρ' σ' x y:=by
 cases x<;>cases y<;>first|exact k.elim|trivial|skip
 ·exact⟨g.get k.1,k.2.1,cj.mono h g k.2.2⟩
 ·exact⟨g.get k.1,k.2.1,k.2.2.1,k.2.2.2.1,h.get k.2.2.2.2⟩
 ·exact⟨g.get k.1,h.get k.2⟩
 ·exact⟨g.get k.1,h.get k.2⟩
 ·exact⟨g.get k.1,k.2.1,k.2.2.1,h.get k.2.2.2⟩
 ·exact⟨g.get k.1,k.2.1,k.2.2.1,Ah.mono h g k.2.2.2⟩
 ·exact⟨g.get k.1,k.2.1,h.get k.2.2.1,RH.mono h g k.2.2.2⟩
 ·exact⟨g.get k.1,k.2.1,cj.mono h g k.2.2⟩
 ·exact⟨g.get k.1,k.2.1,k.2.2.1,k.2.2.2.1,h.get k.2.2.2.2⟩
theorem cj.len:∀{xs:List SC} {ys:List AC},cj ρ σ xs ys->xs.length=ys.length
 |[],[],_=>rfl
 |x::xs,y::ys,k=>by simp[cj.len k.2]
 |[],_::_,k=>k.elim
 |_::_,[],k=>k.elim
theorem cj.drop(n:Nat):∀{xs:List SC} {ys:List AC},cj ρ σ xs ys->cj ρ σ (xs.drop n) (ys.drop n):=by
 induction n with
 |zero=>intro xs ys k;simpa using k
 |succ n ih=>intro xs ys k;match xs,ys,k with
  |[],[],_=>simp;trivial
  |x::xs,y::ys,k=>exact ih k.2
theorem cj.take(n:Nat):∀{xs:List SC} {ys:List AC},cj ρ σ xs ys->cj ρ σ (xs.take n) (ys.take n):=by
 induction n with
 |zero=>intro xs ys k;simp;trivial
 |succ n ih=>intro xs ys k;match xs,ys,k with
  |[],[],_=>simp;trivial
  |x::xs,y::ys,k=>exact⟨k.1,ih k.2⟩
theorem cj.app:∀{xs xs':List SC} {ys ys':List AC},cj ρ σ xs ys->cj ρ σ xs' ys'->cj ρ σ (xs++xs') (ys++ys')
 |[],_,[],_,_,h=>h
 |x::xs,_,y::ys,_,k,h=>⟨k.1,cj.app k.2 h⟩
 |[],_,_::_,_,k,_=>k.elim
 |_::_,_,[],_,k,_=>k.elim
theorem cj.get:∀{xs:List SC} {ys:List AC} {i:Nat} {x:SC},cj ρ σ xs ys->xs[i]? =some x->∃y,ys[i]? =some y/\RC ρ σ x y
 |x::xs,y::ys,0,x',k,h=>by simp at h;subst h;exact⟨y,rfl,k.1⟩
 |x::xs,y::ys,i+1,x',k,h=>by obtain⟨y',h1,h2⟩:=cj.get k.2 (i:=i) (by simpa using h);exact⟨y',by simpa using h1,h2⟩
 |[],[],i,x,_,h=>by simp at h
 |[],_::_,_,_,k,_=>k.elim
 |_::_,[],_,_,k,_=>k.elim
theorem Jr:∀{xs:List (Bool×List SC)} {ys:List (Bool×List AC)} {i:Nat} {b:Bool} {cs:List SC},RT ρ σ xs ys->xs[i]? =some (b,cs)->∃y,ys[i]? =some y/\y.1=b/\cj ρ σ cs y.2
 |x::xs,y::ys,0,b,cs,k,h=>by simp at h;subst h;exact⟨y,rfl,k.1.1,k.1.2⟩
 |x::xs,y::ys,i+1,b,cs,k,h=>by obtain⟨y',h1,h2⟩:=Jr k.2 (i:=i) (by simpa using h);exact⟨y',by simpa using h1,h2⟩
 |[],[],i,b,cs,_,h=>by simp at h
 |[],_::_,_,_,_,k,_=>k.elim
 |_::_,[],_,_,_,k,_=>k.elim
theorem RD.toC:∀{is:List Nat} {xs:List DV},RD ρ is xs->cj ρ σ (is.map .d) (xs.map .d)
 |[],[],_=>trivial
 |i::is,x::xs,k=>⟨k.1,RD.toC k.2⟩
 |[],_::_,k=>k.elim
 |_::_,[],k=>k.elim
theorem RD.drop(n:Nat):∀{xs:List Nat} {ys:List DV},RD ρ xs ys->RD ρ (xs.drop n) (ys.drop n):=by
 induction n with
 |zero=>intro xs ys k;simpa using k
 |succ n ih=>intro xs ys k;match xs,ys,k with
  |[],[],_=>simp;trivial
  |x::xs,y::ys,k=>exact ih k.2
theorem RD.take(n:Nat):∀{xs:List Nat} {ys:List DV},RD ρ xs ys->RD ρ (xs.take n) (ys.take n):=by
 induction n with
 |zero=>intro xs ys k;simp;trivial
 |succ n ih=>intro xs ys k;match xs,ys,k with
  |[],[],_=>simp;trivial
  |x::xs,y::ys,k=>exact⟨k.1,ih k.2⟩
theorem wi:∀{is:List Nat} {xs:List DV},RD ρ is xs->gL ρ is=some xs
 |[],[],_=>rfl
 |i::is,x::xs,k=>by simp only[gL,k.1,wi k.2]
 |[],_::_,k=>k.elim
 |_::_,[],k=>k.elim
theorem RD.len:∀{xs:List Nat} {ys:List DV},RD ρ xs ys->xs.length=ys.length
 |[],[],_=>rfl
 |x::xs,y::ys,k=>by simp[RD.len k.2]
 |[],_::_,k=>k.elim
 |_::_,[],k=>k.elim
theorem E9:∀{is:List Nat} {xs:List DV},gL ρ is=some xs->RD ρ is xs
 |[],xs,h=>by simp only[gL]at h;injection h with h;subst h;trivial
 |i::is,xs,h=>by
  simp only[gL]at h;split at h
  ·rename_i x xs' h1 h2;injection h with h;subst h;exact⟨h1,E9 h2⟩
  ·cases h
def cR:Nat->Nat->List Nat
 |_,0=>[]
 |m,k+1=>m::cR (m+1) k
theorem vG:∀{e:List DV} {ρ:List DV},RD (ρ++e) (cR ρ.length e.length) e
 |[],ρ=>trivial
 |x::e,ρ=>by
  refine⟨by simp,?_⟩;have:=vG (e:=e) (ρ:=ρ++[x]);simpa using this
theorem fa{e:List DV}{m k:Nat}(h:ρ.length=m)(hk:e.length=k):RD (ρ++e) (cR m k) e:=by subst h hk;exact vG
theorem ai:∀{ps:List PO} {ρ ρ':List DV},aq ps ρ=some ρ'->aN ρ ρ'
 |[],ρ,ρ',h=>by simp only[aq]at h;injection h with h;subst h;exact aN.refl _
 |o::r,ρ,ρ',h=>by
  simp only[aq]at h;split at h
  ·exact(aN.app _ _).trans (ai h)
  ·cases h
theorem ac:∀{ps qs:List PO} {ρ ρ':List DV},aq (ps++qs) ρ=some ρ'->∃ρ1,aq ps ρ=some ρ1/\aq qs ρ1=some ρ'
 |[],qs,ρ,ρ',h=>⟨ρ,rfl,h⟩
 |o::r,qs,ρ,ρ',h=>by
  simp only[List.cons_append,aq]at h ⊢;split at h
  ·rename_i out he;obtain⟨ρ1,h1,h2⟩:=ac h;exact⟨ρ1,h1,h2⟩
  ·cases h
theorem au{o:PO}{ρ ρ':List DV}(h:aq [o] ρ=some ρ'):∃out,av ρ o=some out/\ρ'=ρ++out:=by
 simp only[aq]at h;split at h
 ·rename_i out he;injection h with h;exact⟨out,he,h.symm⟩
 ·cases h
variable {S:Sy}{s:AS}
theorem aO.more(h:aO S ρ σ s)(hp:aN ρ ρ'){m:Nat}(hm:ρ'.length=m):aO {S with m:=m} ρ' σ s:=
 ⟨h.n,h.c,hm,λt x hx=>(h.sl t x hx).mono hp (aN.refl _),λi x hx=>⟨(h.ob i x hx).1,(h.ob i x hx).2.mono hp (aN.refl _)⟩,λi b hb=>hp.get (h.kn i b hb)⟩
theorem aO.know(h:aO S ρ σ s){i:Nat}{b:Bool}(hb:ρ[i]? =some (.sc (.bool b))):aO {S with kn:=(i,b)::S.kn} ρ σ s:=
 ⟨h.n,h.c,h.m,h.sl,h.ob,λj c hc=>by
  simp only[aG]at hc;split at hc
  ·rename_i e;injection hc with hc;subst e hc;exact hb
  ·exact h.kn j c hc⟩
theorem aO.put(h:aO S ρ σ s){d:Option Nat}{v:SV}{x:AV}(hv:RV ρ σ v x):aO (S.put d v) ρ σ (s.put d x):=by
 cases d with
 |none=>exact h
 |some t=>
  refine⟨h.n,h.c,h.m,λt' x' hx'=>?_,h.ob,h.kn⟩;simp only[Sy.put,aG]at hx';simp only[AS.put];split at hx'
  ·rename_i e;injection hx' with hx';subst e hx';rw[ab];exact hv
  ·rename_i e;rw[az _ _ (λh=>e h.symm)];exact h.sl t' x' hx'
theorem aO.own(h:aO S ρ σ s){i st st':Nat}{o:SO}(ho:S.own i st=some o)(hs:σ[st]? =some st'):∃o',s.own? i st'=some o'/\RO ρ σ o o'/\s.ob i=o'/\i<S.n:=by
 unfold Sy.own at ho
 cases hl:aG S.ob i with
 |none=>simp[hl]at ho
 |some x=>
  simp only[hl,Option.bind_some]at ho;split at ho
  ·rename_i hst;injection ho with ho;subst ho;obtain⟨hi,hr⟩:=h.ob i x hl;refine⟨s.ob i,?_,hr,rfl,hi⟩;unfold AS.own?;rw[if_pos (by rw[h.n];exact hi)]
   have:(s.ob i).st=some st':=by
    cases hx:x with
    |var a t cs=>rw[hx]at hr hst;cases hy:s.ob i<;>rw[hy]at hr<;>first|exact hr.elim|skip
                 simp only[SO.st]at hst;injection hst with hst;subst hst
                 have:=hr.1;rw[hs]at this;injection this with this;simp[Ob.st,this]
    |row a t k y=>rw[hx]at hr hst;cases hy:s.ob i<;>rw[hy]at hr<;>first|exact hr.elim|skip
                  simp only[SO.st]at hst;injection hst with hst;subst hst
                  have:=hr.1;rw[hs]at this;injection this with this;simp[Ob.st,this]
    |dx a y=>rw[hx]at hr hst;cases hy:s.ob i<;>rw[hy]at hr<;>first|exact hr.elim|skip
             simp only[SO.st]at hst;injection hst with hst;subst hst
             have:=hr.1;rw[hs]at this;injection this with this;simp[Ob.st,this]
    |frz a y=>rw[hx]at hr hst;cases hy:s.ob i<;>rw[hy]at hr<;>first|exact hr.elim|skip
              simp only[SO.st]at hst;injection hst with hst;subst hst
              have:=hr.1;rw[hs]at this;injection this with this;simp[Ob.st,this]
    |arr a t k es=>rw[hx]at hr hst;cases hy:s.ob i<;>rw[hy]at hr<;>first|exact hr.elim|skip
                   simp only[SO.st]at hst;injection hst with hst;subst hst
                   have:=hr.1;rw[hs]at this;injection this with this;simp[Ob.st,this]
    |cur a b t y=>rw[hx]at hr hst;cases hy:s.ob i<;>rw[hy]at hr<;>first|exact hr.elim|skip
                  simp only[SO.st]at hst;injection hst with hst;subst hst
                  have:=hr.1;rw[hs]at this;injection this with this;simp[Ob.st,this]
    |opn a b y q=>rw[hx]at hr hst;cases hy:s.ob i<;>rw[hy]at hr<;>first|exact hr.elim|skip
                  simp only[SO.st]at hst;injection hst with hst;subst hst
                  have:=hr.1;rw[hs]at this;injection this with this;simp[Ob.st,this]
    |pvr a t cs=>rw[hx]at hr hst;cases hy:s.ob i<;>rw[hy]at hr<;>first|exact hr.elim|skip
                 simp only[SO.st]at hst;injection hst with hst;subst hst
                 have:=hr.1;rw[hs]at this;injection this with this;simp[Ob.st,this]
    |shr a t k y=>rw[hx]at hr hst;cases hy:s.ob i<;>rw[hy]at hr<;>first|exact hr.elim|skip
                  simp only[SO.st]at hst;injection hst with hst;subst hst
                  have:=hr.1;rw[hs]at this;injection this with this;simp[Ob.st,this]
    |dead=>rw[hx]at hst;cases hst
   rw[if_pos this]
  ·cases ho
def Uy:SO->SO
 |.shr a t k x=>.row a t k x
 |o=>o
def Sy.ownR(S:Sy)(i st:Nat):Option SO:=(S.own i st).map Uy
def Uq(ρ:List DV)(σ:List Nat):SO->Ob->Prop
 |.row st t k x,.row st' t' k' es dp=>σ[st]? =some st'/\t'=t/\k'=k/\True/\ρ[x]? =some (.sl t k es)
 |.row _ _ _ _,_=>False
 |o,o'=>RO ρ σ o o'
theorem aO.ownR(h:aO S ρ σ s){i st st':Nat}{o:SO}(ho:S.ownR i st=some o)(hs:σ[st]? =some st'):∃o',s.own? i st'=some o'/\Uq ρ σ o o'/\s.ob i=o'/\i<S.n:=by
 unfold Sy.ownR at ho
 cases hx:S.own i st with
 |none=>simp[hx]at ho
 |some x=>
  simp only[hx,Option.map_some]at ho;injection ho with ho;obtain⟨o',k1,k2,k3,k4⟩:=h.own hx hs;refine⟨o',k1,?_,k3,k4⟩;subst ho
  cases x with
  |row a t k y=>cases o'<;>first|exact k2.elim|exact⟨k2.1,k2.2.1,k2.2.2.1,trivial,k2.2.2.2.2⟩
  |shr a t k y=>cases o'<;>first|exact k2.elim|exact⟨k2.1,k2.2.1,k2.2.2.1,trivial,k2.2.2.2.2⟩
  |_=>exact k2
end
end Go.Proofs.Ytngaddcgmnonbaa
namespace Go.Proofs.Ytngaddcgmnonbaa
open Go.RowKit
def iO(S:Sy):Operand->Option (List PO×SV×Sy)
 |.tmp t=>match aG S.sl t with|some v=>some ([],v,S)|none=>none
 |.const (.bool b)=>some ([.k (.bool b)],.p false [.d S.m],{S with m:=S.m+1,kn:=(S.m,b)::S.kn})
 |.const (.int k n)=>some ([.k (.int k n)],.p false [.d S.m],{S with m:=S.m+1})
 |.const (.string x)=>some ([.k (.string x)],.p false [.d S.m],{S with m:=S.m+1})
 |.const (.slice none 0 0)=>some ([],.p false [.nil],S)
 |_=>none
section
variable {P:Program}{ρ ρ':List DV}{σ σ':List Nat}{S S':Sy}{s:AS}{ps:List PO}{v:SV}
theorem aQ{x:Operand}(h:iO S x=some (ps,v,S'))(he:aq ps ρ=some ρ')(hr:aO S ρ σ s):RV ρ' σ v (s.ev x)/\aO S' ρ' σ s:=by
 have key:∀(u:Value),lz u=true->aq [.k u] ρ=some ρ'->ρ'=ρ++[.sc u]/\ρ'.length=S.m+1/\ρ'[S.m]? =some (.sc u):=by
  intro u hu he;obtain⟨out,h1,h2⟩:=au he;simp only[av,hu,if_true]at h1;injection h1 with h1;subst h1 h2;exact⟨rfl,by simp[hr.m],by simp[<-hr.m]⟩
 unfold iO at h;split at h
 ·split at h
  ·rename_i v' hv;injection h with h;injection h with h1 h;injection h with h2 h3;subst h1 h2 h3;simp only[aq]at he;injection he with he;subst he;exact⟨hr.sl _ _ hv,hr⟩
  ·cases h
 ·injection h with h;injection h with h1 h;injection h with h2 h3;subst h1 h2 h3;obtain⟨e1,e2,e3⟩:=key _ rfl he;have hp:=ai he;refine⟨⟨rfl,e3,trivial⟩,?_⟩;exact(hr.more hp e2).know e3
 ·injection h with h;injection h with h1 h;injection h with h2 h3;subst h1 h2 h3;obtain⟨e1,e2,e3⟩:=key _ rfl he;exact⟨⟨rfl,e3,trivial⟩,hr.more (ai he) e2⟩
 ·injection h with h;injection h with h1 h;injection h with h2 h3;subst h1 h2 h3;obtain⟨e1,e2,e3⟩:=key _ rfl he;exact⟨⟨rfl,e3,trivial⟩,hr.more (ai he) e2⟩
 ·injection h with h;injection h with h1 h;injection h with h2 h3;subst h1 h2 h3;simp only[aq]at he;injection he with he;subst he;exact⟨⟨rfl,trivial,trivial⟩,hr⟩
 ·cases h
def Sy.bind(S:Sy)(k:Nat):Sy:={S with m:=S.m+k}
theorem aO.bind(h:aO S ρ σ s){out:List DV}{k:Nat}(hk:out.length=k):aO (S.bind k) (ρ++out) σ s:=
 h.more (aN.app _ _) (by simp[h.m,hk])
def one(v:SV):Option SC:=match v with|.p false [c]=>some c|_=>none
def zo(v:SV):Option Nat:=match v with|.p false [.d i]=>some i|_=>none
theorem bg{x:AV}{c:SC}(h:one v=some c)(hv:RV ρ σ v x):∃y,x=.p false [y]/\RC ρ σ c y:=by
 unfold one at h;split at h
 ·injection h with h;subst h
  cases x with
  |p b cs=>
   obtain⟨rfl,hc⟩:=hv
   match cs,hc with
   |[y],hc=>exact⟨y,rfl,hc.1⟩
  |tup=>exact hv.elim
  |und=>exact hv.elim
 ·cases h
theorem nk{i:Nat}{y:AC}(h:RC ρ σ (.d i) y):∃x,y=.d x/\ρ[i]? =some x:=by
 cases y<;>first|exact h.elim|exact⟨_,rfl,h⟩
theorem cS{x:AV}{i:Nat}(h:zo v=some i)(hv:RV ρ σ v x):∃y,x=.p false [.d y]/\ρ[i]? =some y:=by
 unfold zo at h;split at h
 ·rename_i j;injection h with h;subst h;obtain⟨y,rfl,hy⟩:=bg (c:=.d j) rfl hv;obtain⟨z,rfl,hz⟩:=nk hy;exact⟨z,rfl,hz⟩
 ·cases h
def MH(P:Program)(t:TypeId)(cs:List SC):Option SV:=
 match pI P t with
 |some true=>match lw P t with|some k=>if k<=cs.length then some (.p true (cs.take k))else none|none=>none
 |some false=>match cs with|c::_=>some (.p false [c])|[]=>none
 |none=>none
theorem sY{t:TypeId}{cs:List SC}{ys:List AC}(h:MH P t cs=some v)(hc:cj ρ σ cs ys):∃x,AX P t ys=some x/\RV ρ σ v x:=by
 unfold MH at h;unfold AX;split at h
 ·split at h
  ·split at h
   ·rename_i k hk hl;injection h with h;subst h;refine⟨.p true (ys.take k),?_,rfl,hc.take k⟩;simp only[*];rw[if_pos (by rw[<-hc.len];exact hl)]
   ·cases h
  ·cases h
 ·split at h
  ·rename_i c r;injection h with h;subst h
   match ys,hc with
   |y::ys,hc=>refine⟨.p false [y],?_,rfl,hc.1,trivial⟩;simp only[*]
  ·cases h
 ·cases h
def Eo(P:Program)(S:Sy)(t:TypeId):SC->Option (List PO×SV×Sy)
 |.ptr i st off=>match S.own i st with
  |some (.var _ _ cs)=>(match MH P t (cs.drop off)with|some v=>some ([],v,S)|none=>none)
  |some (.cur _ _ ty z)=>(match lw P ty with
   |some n=>(match MH P t (((cR S.m n).drop off).map .d)with|some v=>some ([.unc z n],v,S.bind n)|none=>none)
   |none=>none)
  |some (.pvr _ _ cs)=>(match MH P t (cs.drop off)with|some v=>some ([],v,S)|none=>none)
  |_=>none
 |.elt i st k j off=>match S.ownR i st with
  |some (.row _ _ k' x)=>if k'=k then(match MH P t (((cR S.m k).drop off).map .d)with|some v=>some ([.idx k x j],v,S.bind k)|none=>none)else none
  |_=>none
 |.rd cs=>match MH P t (cs.map .d)with|some v=>some ([],v,S)|none=>none
 |_=>none
theorem iV{k x i:Nat}{out:List DV}(h:av ρ (.idx k x i)=some out):∃t es kd z,ρ[x]? =some (.sl t k es)/\ρ[i]? =some (.sc (.int kd z))/\0<=z/\es[z.toNat]? =some out/\out.length=k:=by
 simp only[av]at h;split at h
 ·rename_i t k' es kd z h1 h2;split at h
  ·rename_i hk;split at h
   ·rename_i e he;split at h
    ·rename_i hl;injection h with h;subst h;obtain⟨rfl,hz⟩:=hk;exact⟨t,es,kd,z,h1,h2,hz,he,hl⟩
    ·cases h
   ·cases h
  ·cases h
 ·cases h
theorem BB{t:TypeId}{c:SC}{y:AC}(h:Eo P S t c=some (ps,v,S'))(he:aq ps ρ=some ρ')(hr:aO S ρ σ s)(hc:RC ρ σ c y):
 ∃x,xV P s t (.p false [y])=some x/\RV ρ' σ v x/\aO S' ρ' σ s:=by
 unfold Eo at h;split at h
 ·rename_i i st off;cases y<;>first|exact hc.elim|skip
  rename_i i' st' off';obtain⟨rfl,hst,rfl⟩:=hc;split at h
  ·rename_i a ty cs ho;split at h
   ·rename_i v' hv;injection h with h;injection h with h1 h;injection h with h2 h3;subst h1 h2 h3;simp only[aq]at he;injection he with he;subst he;obtain⟨o',k1,k2,-,-⟩:=hr.own ho hst;cases o'<;>first|exact k2.elim|skip
    rename_i b ty' ys;obtain⟨x,q1,q2⟩:=sY (P:=P) hv (k2.2.2.drop off');refine⟨x,?_,q2,hr⟩;simp only[xV,k1];exact q1
   ·cases h
  ·rename_i a id ty z ho;split at h
   ·rename_i n hn;split at h
    ·rename_i v' hv;injection h with h;injection h with h1 h;injection h with h2 h3;subst h1 h2 h3;obtain⟨out,e1,rfl⟩:=au he;obtain⟨o',k1,k2,-,-⟩:=hr.own ho hst;cases o'<;>first|exact k2.elim|skip
     rename_i b id' ty' x0 cs0;obtain⟨-,rfl,rfl,hz⟩:=k2;simp only[av,hz,ky]at e1;split at e1
     ·rename_i hl;injection e1 with e1;subst e1;have hln:(x0::cs0).length=n:=by simpa using hl
      have hrd:RD (ρ++(x0::cs0)) (cR S.m n) (x0::cs0):=fa hr.m hln;obtain⟨x,q1,q2⟩:=sY (P:=P) (σ:=σ) hv (RD.toC (hrd.drop off'));refine⟨x,?_,q2,hr.bind hln⟩;simp only[xV,k1];rw[<-List.map_drop];exact q1
     ·cases e1
    ·cases h
   ·cases h
  ·rename_i a ty cs ho;split at h
   ·rename_i v' hv;injection h with h;injection h with h1 h;injection h with h2 h3;subst h1 h2 h3;simp only[aq]at he;injection he with he;subst he;obtain⟨o',k1,k2,-,-⟩:=hr.own ho hst;cases o'<;>first|exact k2.elim|skip
    rename_i b ty' ys;obtain⟨x,q1,q2⟩:=sY (P:=P) hv (k2.2.2.drop off');refine⟨x,?_,q2,hr⟩;simp only[xV,k1];exact q1
   ·cases h
  ·cases h
 ·rename_i i st k j off;cases y<;>first|exact hc.elim|skip
  rename_i i' st' k' j' off';obtain⟨rfl,hst,rfl,⟨kd,z,hz1,hz2,rfl⟩,rfl⟩:=hc;split at h
  ·rename_i a ty k'' x ho;split at h
   ·rename_i hk;subst hk;split at h
    ·rename_i v' hv;injection h with h;injection h with h1 h;injection h with h2 h3;subst h1 h2 h3;obtain⟨out,e1,rfl⟩:=au he;obtain⟨t',es,kd',z',i1,i2,i3,i4,i5⟩:=iV e1;obtain⟨o',k1,k2,-,-⟩:=hr.ownR ho hst;cases o'<;>first|exact k2.elim|skip
     rename_i b ty' kk es' dp;obtain⟨-,rfl,rfl,-,hx⟩:=k2;rw[i1]at hx;injection hx with hx;injection hx with hx1 hx2 hx3;subst hx1 hx3;rw[hz1]at i2;injection i2 with i2;injection i2 with i2;injection i2 with i2a i2b;subst i2b;have hrd:RD (ρ++out) (cR S.m kk) out:=fa hr.m i5;obtain⟨x',q1,q2⟩:=sY (P:=P) (σ:=σ) hv (RD.toC (hrd.drop off'));refine⟨x',?_,q2,hr.bind i5⟩;simp only[xV,k1,if_true,i4];exact q1
    ·cases h
   ·cases h
  ·cases h
 ·rename_i cs;cases y<;>first|exact hc.elim|skip
  split at h
  ·rename_i v' hv;injection h with h;injection h with h1 h;injection h with h2 h3;subst h1 h2 h3;simp only[aq]at he;injection he with he;subst he;obtain⟨x,q1,q2⟩:=sY (P:=P) (σ:=σ) hv (RD.toC hc);exact⟨x,q1,q2,hr⟩
  ·cases h
 ·cases h
def Tk(P:Program)(S:Sy)(t:TypeId)(f:Nat)(c:SC):Option SV:=
 match Hc P t f with
 |some (fo,k,_)=>if 0<k then(match c with
  |.ptr i st off=>if(S.own i st).isSome then some (.p false [.ptr i st (off+fo)])else none
  |.elt i st k' j off=>if(S.own i st).isSome then some (.p false [.elt i st k' j (off+fo)])else none
  |.rd cs=>some (.p false [.rd (cs.drop fo)])
  |.own i st=>(match S.own i st with|some (.cur _ _ _ _)=>some (.p false [.ptr i st fo])|_=>none)
  |_=>none)else none
 |none=>none
theorem dh(hr:aO S ρ σ s){i st st':Nat}(h:(S.own i st).isSome=true)(hs:σ[st]? =some st'):(s.own? i st').isSome=true:=by
 obtain⟨o,ho⟩:=Option.isSome_iff_exists.1 h;obtain⟨o',k1,-⟩:=hr.own ho hs;rw[k1];rfl
theorem O3{t:TypeId}{f:Nat}{c:SC}{y:AC}(h:Tk P S t f c=some v)(hr:aO S ρ σ s)(hc:RC ρ σ c y):∃x,KB P s t f (.p false [y])=some x/\RV ρ σ v x:=by
 unfold Tk at h;unfold KB;split at h
 ·rename_i fo k ag hf;split at h
  ·rename_i hk;rw[hf];simp only[if_pos hk];split at h
   ·cases y<;>first|exact hc.elim|skip
    obtain⟨rfl,hst,rfl⟩:=hc;split at h
    ·rename_i ho;injection h with h;subst h;simp only[dh hr ho hst,if_true];exact⟨_,rfl,rfl,⟨rfl,hst,rfl⟩,trivial⟩
    ·cases h
   ·cases y<;>first|exact hc.elim|skip
    obtain⟨rfl,hst,rfl,hj,rfl⟩:=hc;split at h
    ·rename_i ho;injection h with h;subst h;simp only[dh hr ho hst,if_true];exact⟨_,rfl,rfl,⟨rfl,hst,rfl,hj,rfl⟩,trivial⟩
    ·cases h
   ·cases y<;>first|exact hc.elim|skip
    injection h with h;subst h;exact⟨_,rfl,rfl,RD.drop fo hc,trivial⟩
   ·split at h
    ·rename_i i st _ _ _ _ ho;injection h with h;subst h;cases y<;>first|exact hc.elim|skip
     rename_i i' st';obtain⟨rfl,hst⟩:=hc;obtain⟨o',k1,k2,-,-⟩:=hr.own ho hst;cases o'<;>first|exact k2.elim|skip
     refine⟨.p false [.ptr i' st' fo],?_,rfl,⟨rfl,hst,rfl⟩,trivial⟩;simp only[k1]
    ·cases h
   ·cases h
  ·cases h
 ·cases h
def TV(P:Program)(t:TypeId)(f:Nat)(x:SV):Option SV:=
 match Hc P t f,x with
 |some (fo,k,true),.p true cs=>if fo+k<=cs.length then some (.p true ((cs.drop fo).take k))else none
 |some (fo,k,false),.p true cs=>(match cs[fo]? with|some c=>some (.p false [c])|none=>none)
 |_,_=>none
theorem PX{t:TypeId}{f:Nat}{w:SV}{y:AV}(h:TV P t f w=some v)(hw:RV ρ σ w y):∃x,Ma P t f y=some x/\RV ρ σ v x:=by
 unfold TV at h;split at h
 ·rename_i fo k cs hf;split at h
  ·rename_i hl;injection h with h;subst h;cases y<;>first|exact hw.elim|skip
   rename_i b ys;obtain⟨rfl,hc⟩:=hw;refine⟨.p true ((ys.drop fo).take k),?_,rfl,(hc.drop fo).take k⟩;simp only[Ma,hf];rw[if_pos (by rw[<-hc.len];exact hl)]
  ·cases h
 ·rename_i fo k cs hf;split at h
  ·rename_i c hc';injection h with h;subst h;cases y<;>first|exact hw.elim|skip
   rename_i b ys;obtain⟨rfl,hc⟩:=hw;obtain⟨y,k1,k2⟩:=hc.get hc';exact⟨.p false [y],by simp only[Ma,hf,k1],rfl,k2,trivial⟩
  ·cases h
 ·cases h
def NY(P:Program)(S:Sy)(t:TypeId)(i:Nat):SC->Option (List PO×SV×Sy)
 |.d x=>match fh P t with|some (_,k)=>some ([.idx k x i],.p false [.rd (cR S.m k)],S.bind k)|none=>none
 |.own id st=>match fh P t,S.ownR id st with
  |some (_,k),some (.row _ _ k' x)=>if k'=k then some ([.chk k x i],.p false [.elt id st k i 0],S)else none
  |some (_,k),some (.frz _ x)=>some ([.idx k x i],.p false [.rd (cR S.m k)],S.bind k)
  |_,_=>none
 |.sub id st k z m=>match fh P t,S.ownR id st with
  |some (_,k1),some (.row _ _ k2 x)=>if k1=k/\k2=k then some ([.atJ z m i],.p false [.elt id st k S.m 0],S.bind 1)else none
  |_,_=>none
 |.nil=>match fh P t with|some (_,k)=>some ([.stop k],.p false [.rd (cR S.m k)],S.bind k)|none=>none
 |_=>none
theorem LD{t:TypeId}{i:Nat}{c:SC}{y:AC}{kd:IntKind}{z:Int}(h:NY P S t i c=some (ps,v,S'))(he:aq ps ρ=some ρ')(hr:aO S ρ σ s)(hc:RC ρ σ c y)(hi:ρ[i]? =some (.sc (.int kd z))):
 ∃x,qG P s t y z=some x/\RV ρ' σ v x/\aO S' ρ' σ s:=by
 unfold NY at h;split at h
 ·obtain⟨x,rfl,hx⟩:=nk hc;split at h
  ·rename_i el k ht;injection h with h;injection h with h1 h;injection h with h2 h3;subst h1 h2 h3;obtain⟨out,e1,rfl⟩:=au he;obtain⟨t',es,kd',z',i1,i2,i3,i4,i5⟩:=iV e1;rw[hx]at i1;injection i1 with i1;subst i1;rw[hi]at i2;injection i2 with i2;injection i2 with i2;injection i2 with i2a i2b;subst i2b;refine⟨.p false [.rd out],?_,⟨rfl,fa hr.m i5,trivial⟩,hr.bind i5⟩;simp only[qG,if_pos i3,ht,if_true,i4]
  ·cases h
 ·rename_i id st;cases y<;>first|exact hc.elim|skip
  obtain⟨rfl,hst⟩:=hc;split at h
  ·rename_i el k a ty k' x ht ho;split at h
   ·rename_i hk;subst hk;injection h with h;injection h with h1 h;injection h with h2 h3;subst h1 h2 h3;obtain⟨out,e1,rfl⟩:=au he;obtain⟨o',k1,k2,-,-⟩:=hr.ownR ho hst;cases o'<;>first|exact k2.elim|skip
    rename_i b ty' kk es' dp;obtain⟨-,rfl,rfl,-,hx⟩:=k2;simp only[av,hx,hi]at e1;split at e1
    ·rename_i hb;injection e1 with e1;subst e1;rw[List.append_nil];refine⟨.p false [.elt _ _ kk z.toNat 0],?_,⟨rfl,⟨rfl,hst,rfl,⟨kd,z,hi,hb.2.1,rfl⟩,rfl⟩,trivial⟩,hr⟩;simp only[qG,if_pos hb.2.1,ht,k1];simp[hb.2.2]
    ·cases e1
   ·cases h
  ·rename_i el k a x ht ho;injection h with h;injection h with h1 h;injection h with h2 h3;subst h1 h2 h3;obtain⟨out,e1,rfl⟩:=au he;obtain⟨t',es,kd',z',i1,i2,i3,i4,i5⟩:=iV e1;obtain⟨o',k1,k2,-,-⟩:=hr.ownR ho hst;cases o'<;>first|exact k2.elim|skip
   rename_i b yy;obtain⟨-,hx⟩:=k2;rw[hx]at i1;injection i1 with i1;subst i1;rw[hi]at i2;injection i2 with i2;injection i2 with i2;injection i2 with i2a i2b;subst i2b;refine⟨.p false [.rd out],?_,⟨rfl,fa hr.m i5,trivial⟩,hr.bind i5⟩;simp only[qG,if_pos i3,ht,k1,if_true,i4]
  ·cases h
 ·rename_i id st k zz mm;cases y<;>first|exact hc.elim|skip
  rename_i i' st' k' lo' n';obtain⟨rfl,hst,rfl,⟨u,u1,u2,rfl⟩,⟨v',v1,v2,rfl⟩⟩:=hc;split at h
  ·rename_i el k1 a ty k2 x ht ho;split at h
   ·rename_i hk;obtain⟨rfl,rfl⟩:=hk;injection h with h;injection h with h1 h;injection h with h2 h3;subst h1 h2 h3;obtain⟨out,e1,rfl⟩:=au he;obtain⟨o',q1,q2,-,-⟩:=hr.ownR ho hst;cases o'<;>first|exact q2.elim|skip
    rename_i b ty' kk es' dp;obtain⟨-,rfl,rfl,-,hx⟩:=q2;simp only[av,u1,v1,hi]at e1;split at e1
    ·rename_i hb;injection e1 with e1;subst e1;have hj:z.toNat<v'.toNat:=by omega
     refine⟨.p false [.elt _ _ kk (u.toNat+z.toNat) 0],?_,⟨rfl,⟨rfl,hst,rfl,⟨.i64,u+z,by show(_:List DV)[_]? =_;simp[<-hr.m],by omega,by omega⟩,rfl⟩,trivial⟩,hr.bind rfl⟩;simp only[qG,if_pos hb.2.1,ht,q1];simp[hj]
    ·cases e1
   ·cases h
  ·cases h
 ·split at h
  ·injection h with h;injection h with h1 h;injection h with h2 h3;subst h1 h2 h3;obtain⟨out,e1,-⟩:=au he;simp[av]at e1
  ·cases h
 ·cases h
end
end Go.Proofs.Ytngaddcgmnonbaa
namespace Go.Proofs.Ytngaddcgmnonbaa
open Go.RowKit
abbrev SR:=Option (List PO×SV×Sy)
def dQ(r:SR)(k:SV->Sy->SR):SR:=
 match r with
 |some (p,v,S)=>(match k v S with|some (q,u,T)=>some (p++q,u,T)|none=>none)
 |none=>none
theorem bq{r:SR}{k:SV->Sy->SR}{ps:List PO}{v:SV}{S':Sy}(h:dQ r k=some (ps,v,S')):∃p v1 S1 q,r=some (p,v1,S1)/\k v1 S1=some (q,v,S')/\ps=p++q:=by
 unfold dQ at h;split at h
 ·rename_i p v1 S1;split at h
  ·rename_i q u T hk;injection h with h;injection h with h1 h;injection h with h2 h3;subst h1 h2 h3;exact⟨p,v1,S1,q,rfl,hk,rfl⟩
  ·cases h
 ·cases h
def Th(P:Program)(t:TypeId):Bool:=match P.underlying t with|some .bool=>true|_=>false
def Is(P:Program)(t:TypeId):Bool:=match P.underlying t with|some .string=>true|_=>false
theorem C2{P:Program}{t:TypeId}(h:Is P t=true):P.underlying t=some .string:=by
 unfold Is at h;split at h
 ·assumption
 ·cases h
theorem Pk{P:Program}{op:BinOp}{t:TypeId}{a b w:Value}(h:eC op (Th P t) a b=some w):wy P op t a b=some w:=by
 unfold eC at h;unfold wy;split at h
 ·exact h
 ·exact h
 ·rename_i x y;split at h
  ·rename_i hb
   have hu:P.underlying t=some .bool:=by
    unfold Th at hb;split at hb
    ·assumption
    ·cases hb
   simp only[hu];split at h
   ·exact h
   ·exact h
   ·cases h
  ·cases h
 ·cases h
def Ti(P:Program)(a b:TypeId)(S:Sy)(i:Nat):SR:=
 match P.underlying a,P.underlying b with
 |some _,some (.int k)=>some ([.cvI k i],.p false [.d S.m],S.bind 1)
 |some _,some .string=>some ([.cvS i],.p false [.d S.m],S.bind 1)
 |_,_=>none
def S9(S:Sy):SC->SR
 |.d i=>some ([.cvB i],.p false [.d S.m],S.bind 1)
 |.own i st=>(match S.own i st with
  |some (.row _ _ _ x)=>some ([.cvB x],.p false [.d S.m],S.bind 1)
  |some (.frz _ x)=>some ([.cvB x],.p false [.d S.m],S.bind 1)
  |_=>none)
 |_=>none
def OC(P:Program)(S:Sy)(t:TypeId):SC->SR
 |.d i=>if Is P t then some ([.lenS i],.p false [.d S.m],S.bind 1)else if(fh P t).isSome then some ([.lenL i],.p false [.d S.m],S.bind 1)else none
 |.nil=>if(fh P t).isSome then some ([.k (.int .i64 0)],.p false [.d S.m],S.bind 1)else none
 |.own i st=>if(fh P t).isSome then(match S.ownR i st with
  |some (.row _ _ _ x)=>some ([.lenL x],.p false [.d S.m],S.bind 1)
  |some (.frz _ x)=>some ([.lenL x],.p false [.d S.m],S.bind 1)
  |some (.dx _ x)=>some ([.lenL x],.p false [.d S.m],S.bind 1)
  |some (.opn _ _ x _)=>some ([.lenL x],.p false [.d S.m],S.bind 1)
  |_=>none)else none
 |.sub i st _ _ m=>if(fh P t).isSome/\(S.own i st).isSome then some ([],.p false [.d m],S)else none
 |.emp=>if(fh P t).isSome then some ([.k (.int .i64 0)],.p false [.d S.m],S.bind 1)else none
 |_=>none
def Bl(S:Sy):Option Operand->Option (List PO×Option Nat×Sy)
 |none=>some ([],none,S)
 |some x=>match iO S x with|some (p,v,S1)=>(match zo v with|some i=>some (p,some i,S1)|none=>none)|none=>none
def Qg(P:Program)(t:TypeId)(i:Nat)(lo hi:Option Nat)(S:Sy):SR:=
 if Is P t then some ([.cutS i lo hi],.p false [.d S.m],S.bind 1)else match fh P t with|some (_,k)=>some ([.cutL k i lo hi],.p false [.d S.m],S.bind 1)|none=>none
def Np(P:Program)(t:TypeId)(S:Sy)(v:SV)(lo hi:Option Operand):SR:=
 match zo v with
 |some i=>(match Bl S lo with
  |some (p,l,S1)=>(match Bl S1 hi with
   |some (q,h,S2)=>(match Qg P t i l h S2 with|some (r,u,S3)=>some (p++(q++r),u,S3)|none=>none)
   |none=>none)
  |none=>none)
 |none=>(match v with
  |.p false [.own i st]=>(match fh P t,S.ownR i st with
   |some (_,k1),some (.row _ _ k x)=>if k1=k then(match Bl S lo with
    |some (p,l,S1)=>(match Bl S1 hi with
     |some (q,h,S2)=>some (p++(q++[.cutI x l h]),.p false [.sub i st k S2.m (S2.m+1)],S2.bind 2)
     |none=>none)
    |none=>none)else none
   |_,_=>none)
  |.p false [.sub i st k z m]=>(match fh P t,S.ownR i st with
   |some (_,k1),some (.row _ _ k2 x)=>if k1=k/\k2=k then(match Bl S lo with
    |some (p,l,S1)=>(match Bl S1 hi with
     |some (q,h,S2)=>some (p++(q++[.cutJ z m l h]),.p false [.sub i st k S2.m (S2.m+1)],S2.bind 2)
     |none=>none)
    |none=>none)else none
   |_,_=>none)
  |_=>none)
def Ct:List SC->Option (List Nat)
 |[]=>some []
 |.d i::r=>(match Ct r with|some is=>some (i::is)|none=>none)
 |_::_=>none
theorem zT{ρ:List DV}{σ:List Nat}:∀{cs:List SC} {is:List Nat} {ys:List AC},Ct cs=some is->cj ρ σ cs ys->∃ds,ys=ds.map .d/\RD ρ is ds
 |[],is,ys,h,hc=>by
  simp only[Ct]at h;injection h with h;subst h
  cases ys with
  |nil=>exact⟨[],rfl,trivial⟩
  |cons=>exact hc.elim
 |c::r,is,[],h,hc=>hc.elim
 |.d i::r,is,y::ys,h,hc=>by
  simp only[Ct]at h;split at h
  ·rename_i js hj;injection h with h;subst h;obtain⟨x,rfl,hx⟩:=nk hc.1;obtain⟨ds,rfl,h2⟩:=zT hj hc.2;exact⟨x::ds,rfl,hx,h2⟩
  ·cases h
 |.nil::_,is,_::_,h,_=>by simp[Ct]at h
 |.own _ _::_,is,_::_,h,_=>by simp[Ct]at h
 |.ptr _ _ _::_,is,_::_,h,_=>by simp[Ct]at h
 |.elt _ _ _ _ _::_,is,_::_,h,_=>by simp[Ct]at h
 |.sub _ _ _ _ _::_,is,_::_,h,_=>by simp[Ct]at h
 |.emp::_,is,_::_,h,_=>by simp[Ct]at h
 |.rd _::_,is,_::_,h,_=>by simp[Ct]at h
theorem JU:∀{ks:List Kd} {ds es:List DV} {b:Bool},vt ks ds es=some b->Bt ks (ds.map .d) (es.map .d)=some b
 |[],[],[],b,h=>h
 |k::ks,.sc x::ds,.sc y::es,b,h=>by
  simp only[vt]at h;split at h
  ·rename_i p q h1 h2;injection h with h;subst h;simp only[List.map_cons,Bt,h1,JU h2]
  ·cases h
 |[],_::_,_,_,h=>by simp[vt]at h
 |[],[],_::_,_,h=>by simp[vt]at h
 |_::_,[],_,_,h=>by simp[vt]at h
 |_::_,_::_,[],_,h=>by simp[vt]at h
 |_::_,.sl _ _ _::_,_::_,_,h=>by simp[vt]at h
 |_::_,.sc _::_,.sl _ _ _::_,_,h=>by simp[vt]at h
def Ul(P:Program)(op:BinOp)(t:TypeId)(S:Sy)(v u:SV):SR:=
 match v,u with
 |.p true cs,.p true cs'=>(match Ct cs,Ct cs',zw P t,op with
  |some is,some js,some ks,.eql=>some ([.eqS false ks is js],.p false [.d S.m],S.bind 1)
  |some is,some js,some ks,.neq=>some ([.eqS true ks is js],.p false [.d S.m],S.bind 1)
  |_,_,_,_=>none)
 |_,_=>none
def R9(P:Program)(S:Sy):Op->SR
 |.move x=>iO S x
 |.assign x=>iO S x
 |.pick c x y=>dQ (iO S c) λv S1=>match zo v with|some i=>(match aG S1.kn i with|some b=>iO S1 (if b then x else y)|none=>none)|none=>none
 |.load t x=>dQ (iO S x) λv S1=>match one v with|some c=>Eo P S1 t c|none=>none
 |.fieldAddr t x f=>dQ (iO S x) λv S1=>match one v with|some c=>(match Tk P S1 t f c with|some u=>some ([],u,S1)|none=>none)|none=>none
 |.field t x f=>dQ (iO S x) λv S1=>match TV P t f v with|some u=>some ([],u,S1)|none=>none
 |.indexAddr t x ix=>dQ (iO S ix) λv S1=>match zo v with|some i=>dQ (iO S1 x) λu S2=>(match one u with|some c=>dQ (some ([.isI i],.p false [],S2)) λ_ S3=>NY P S3 t i c|none=>none)|none=>none
 |.index t x ix=>dQ (iO S x) λv S1=>dQ (iO S1 ix) λu S2=>match zo v,zo u with|some i,some j=>if Is P t then some ([.chr i j],.p false [.d S2.m],S2.bind 1)else none|_,_=>none
 |.binOp op t x y _=>dQ (iO S x) λv S1=>dQ (iO S1 y) λu S2=>match zo v,zo u with|some i,some j=>some ([.bin op (Th P t) i j],.p false [.d S2.m],S2.bind 1)|_,_=>Ul P op t S2 v u
 |.unOp op _ x=>dQ (iO S x) λv S1=>match zo v with|some i=>some ([.un op i],.p false [.d S1.m],S1.bind 1)|_=>none
 |.convert a b x=>dQ (iO S x) λv S1=>if zJ P a b then(match one v with|some c=>S9 S1 c|none=>none)else match zo v with|some i=>Ti P a b S1 i|_=>none
 |.extract x ix=>dQ (iO S x) λv S1=>match v with|.tup xs=>(match xs[ix]? with|some (b,cs)=>some ([],.p b cs,S1)|none=>none)|_=>none
 |.slice t x lo hi none=>dQ (iO S x) λv S1=>Np P t S1 v lo hi
 |.call c=>match c.callee,c.args.toList,c.argTypes.toList with
  |.builtin .len,[x],[t]=>dQ (iO S x) λv S1=>(match one v with|some c=>OC P S1 t c|none=>none)
  |.builtin .max,[x,y],_=>dQ (iO S x) λv S1=>dQ (iO S1 y) λu S2=>(match zo v,zo u with|some i,some j=>some ([.mm true i j],.p false [.d S2.m],S2.bind 1)|_,_=>none)
  |.builtin .min,[x,y],_=>dQ (iO S x) λv S1=>dQ (iO S1 y) λu S2=>(match zo v,zo u with|some i,some j=>some ([.mm false i j],.p false [.d S2.m],S2.bind 1)|_,_=>none)
  |_,_,_=>none
 |.nilCheck x=>dQ (iO S x) λv S1=>match v with|.p false [.own i st]=>(match S1.own i st with|some (.cur _ _ _ _)=>some ([],v,S1)|_=>none)|.p false [.ptr i st off]=>if(S1.own i st).isSome then some ([],v,S1)else none|.p false [.elt i st k j off]=>if(S1.own i st).isSome then some ([],v,S1)else none|_=>none
 |_=>none
section
variable {P:Program}{ρ ρ':List DV}{σ σ':List Nat}{S S':Sy}{s:AS}{ps:List PO}{v:SV}
theorem sJ(hr:aO S ρ σ s){o:PO}{w:Value}(h:av ρ o=some [.sc w])(he:aq [o] ρ=some ρ'):RV ρ' σ (.p false [.d S.m]) (nv w)/\aO (S.bind 1) ρ' σ s:=by
 obtain⟨out,h1,rfl⟩:=au he;rw[h]at h1;injection h1 with h1;subst h1;exact⟨⟨rfl,by show(_:List DV)[_]? =_;simp[<-hr.m],trivial⟩,hr.bind rfl⟩
theorem Co{x:Option Value}{out:List DV}(h:mS x=some out):∃w,x=some w/\out=[.sc w]:=by
 unfold mS at h;split at h
 ·injection h with h;exact⟨_,rfl,h.symm⟩
 ·cases h
theorem Ni{a b:TypeId}{i:Nat}(h:Ti P a b S i=some (ps,v,S'))(he:aq ps ρ=some ρ')(hr:aO S ρ σ s){y:DV}(hy:ρ[i]? =some y):∃u,Kc P a b (.p false [.d y])=some u/\RV ρ' σ v u/\aO S' ρ' σ s:=by
 unfold Ti at h;split at h
 ·rename_i d k h1 h2;injection h with h;injection h with e1 h;injection h with e2 e3;subst e1 e2 e3;obtain⟨out,o1,-⟩:=au he;simp only[av,hy]at o1;split at o1
  ·rename_i kk n hyy;injection hyy with hyy;subst hyy;injection o1 with o1;obtain⟨q1,q2⟩:=sJ (w:=.int k (k.wrap n)) hr (by simp[av,hy]) he;exact⟨_,by simp[Kc,MK,h1,h2],q1,q2⟩
  ·cases o1
 ·rename_i d h1 h2;injection h with h;injection h with e1 h;injection h with e2 e3;subst e1 e2 e3;obtain⟨out,o1,-⟩:=au he;simp only[av,hy]at o1;split at o1
  ·rename_i n hyy;injection hyy with hyy;subst hyy;injection o1 with o1;obtain⟨q1,q2⟩:=sJ (w:=.string n) hr (by simp[av,hy]) he;exact⟨_,by simp[Kc,MK,h1,h2],q1,q2⟩
  ·cases o1
 ·cases h
theorem GY{a b:TypeId}{y:DV}{t k:Nat}{es:List (List DV)}(hy:y=.sl t k es):Kc P a b (.p false [.d y])=none:=by subst hy;rfl
theorem Nj{a b:TypeId}{c:SC}{y:AC}(hT:zJ P a b=true)(h:S9 S c=some (ps,v,S'))(he:aq ps ρ=some ρ')(hr:aO S ρ σ s)(hc:RC ρ σ c y):∃u,Ki P s a b (.p false [y])=some u/\RV ρ' σ v u/\aO S' ρ' σ s:=by
 have fin:∀{x:Nat} {d:DV},ps=[.cvB x]->v=.p false [.d S.m]->S'=S.bind 1->ρ[x]? =some d->KH s y=some d->Kc P a b (.p false [y])=none->∃u,Ki P s a b (.p false [y])=some u/\RV ρ' σ v u/\aO S' ρ' σ s:=by
  intro x d e1 e2 e3 hx hrd hcv;subst e1 e2 e3;obtain⟨out,o1,-⟩:=au he;have o1':=o1;simp only[av,hx]at o1;split at o1
  ·rename_i t es hd;injection hd with hd;subst hd;split at o1
   ·rename_i xs hn;injection o1 with o1;subst o1;obtain⟨q1,q2⟩:=sJ hr o1' he;exact⟨_,by simp only[Ki,hcv,cvB,hT,if_true,hrd,hn],q1,q2⟩
   ·cases o1
  ·cases o1
 unfold S9 at h;split at h
 ·rename_i i;injection h with h;injection h with e1 h;injection h with e2 e3;obtain⟨x,rfl,hx⟩:=nk hc;obtain⟨out,o1,-⟩:=au (e1▸he)
  have hcv:Kc P a b (.p false [.d x])=none:=by
   simp only[av,hx]at o1;split at o1
   ·rename_i t es hd;injection hd with hd;exact GY hd
   ·cases o1
  exact fin e1.symm e2.symm e3.symm hx rfl hcv
 ·cases y<;>first|exact hc.elim|skip
  obtain⟨rfl,hst⟩:=hc;split at h
  ·rename_i ho;injection h with h;injection h with e1 h;injection h with e2 e3;obtain⟨o',k1,k2,k3,k4⟩:=hr.own ho hst;cases o'<;>first|exact k2.elim|skip
   obtain⟨-,rfl,rfl,rfl,hx⟩:=k2;obtain⟨g1,g2,g3⟩:=af k1;refine fin e1.symm e2.symm e3.symm hx ?_ rfl;simp only[AS.lv,if_pos g1,g2,Ob.st,Option.some.injEq]at g3;subst g3;simp only[KH,if_pos g1,g2,if_true]
  ·rename_i ho;injection h with h;injection h with e1 h;injection h with e2 e3;obtain⟨o',k1,k2,k3,k4⟩:=hr.own ho hst;cases o'<;>first|exact k2.elim|skip
   obtain⟨-,hx⟩:=k2;obtain⟨g1,g2,g3⟩:=af k1;refine fin e1.symm e2.symm e3.symm hx ?_ rfl;simp only[AS.lv,if_pos g1,g2,Ob.st,Option.some.injEq]at g3;subst g3;simp only[KH,if_pos g1,g2,if_true]
  ·cases h
 ·cases h
theorem Mf{t:TypeId}{c:SC}{y:AC}(h:OC P S t c=some (ps,v,S'))(he:aq ps ρ=some ρ')(hr:aO S ρ σ s)(hc:RC ρ σ c y):∃n,jr P s t y=some n/\RV ρ' σ v (nv (.int .i64 n))/\aO S' ρ' σ s:=by
 have fin:∀{o:PO} {n:Nat},ps=[o]->v=.p false [.d S.m]->S'=S.bind 1->av ρ o=some [.sc (.int .i64 n)]->RV ρ' σ v (nv (.int .i64 n))/\aO S' ρ' σ s:=by
  intro o n e1 e2 e3 e4;subst e1 e2 e3;exact sJ hr e4 he
 unfold OC at h;split at h
 ·obtain⟨x,rfl,hx⟩:=nk hc;split at h
  ·rename_i hs;injection h with h;injection h with e1 h;injection h with e2 e3;obtain⟨out,o1,-⟩:=au (e1▸he);simp only[av,hx]at o1;split at o1
   ·rename_i b hb;injection hb with hb;subst hb;exact⟨b.size,by simp[jr,C2 hs],fin e1.symm e2.symm e3.symm (by simp[av,hx])⟩
   ·cases o1
  ·split at h
   ·rename_i ht;injection h with h;injection h with e1 h;injection h with e2 e3;obtain⟨out,o1,-⟩:=au (e1▸he);simp only[av,hx]at o1;split at o1
    ·rename_i tt kk es hb;injection hb with hb;subst hb;exact⟨es.length,by simp[jr,ht],fin e1.symm e2.symm e3.symm (by simp[av,hx])⟩
    ·cases o1
   ·cases h
 ·cases y<;>first|exact hc.elim|skip
  split at h
  ·rename_i ht;injection h with h;injection h with e1 h;injection h with e2 e3;exact⟨0,by simp[jr,ht],fin e1.symm e2.symm e3.symm (by simp[av,lz])⟩
  ·cases h
 ·cases y<;>first|exact hc.elim|skip
  obtain⟨rfl,hst⟩:=hc;split at h
  ·rename_i ht;split at h
   ·rename_i ho;injection h with h;injection h with e1 h;injection h with e2 e3;obtain⟨o',k1,k2,-,-⟩:=hr.ownR ho hst;cases o'<;>first|exact k2.elim|skip
    rename_i b ty' kk es' dp;obtain⟨-,rfl,rfl,-,hx⟩:=k2;exact⟨es'.length,by simp[jr,ht,k1],fin e1.symm e2.symm e3.symm (by simp[av,hx])⟩
   ·rename_i ho;injection h with h;injection h with e1 h;injection h with e2 e3;obtain⟨o',k1,k2,-,-⟩:=hr.ownR ho hst;cases o'<;>first|exact k2.elim|skip
    rename_i b yy;obtain⟨-,hx⟩:=k2;obtain⟨out,o1,-⟩:=au (e1▸he);simp only[av,hx]at o1;split at o1
    ·rename_i tt kk es hb;injection hb with hb;subst hb;exact⟨es.length,by simp[jr,ht,k1],fin e1.symm e2.symm e3.symm (by simp[av,hx])⟩
    ·cases o1
   ·rename_i ho;injection h with h;injection h with e1 h;injection h with e2 e3;obtain⟨o',k1,k2,-,-⟩:=hr.ownR ho hst;cases o'<;>first|exact k2.elim|skip
    rename_i b yy;obtain⟨-,hx⟩:=k2;obtain⟨out,o1,-⟩:=au (e1▸he);simp only[av,hx]at o1;split at o1
    ·rename_i tt kk es hb;injection hb with hb;subst hb;exact⟨es.length,by simp[jr,ht,k1],fin e1.symm e2.symm e3.symm (by simp[av,hx])⟩
    ·cases o1
   ·rename_i ho;injection h with h;injection h with e1 h;injection h with e2 e3;obtain⟨o',k1,k2,-,-⟩:=hr.ownR ho hst;cases o'<;>first|exact k2.elim|skip
    rename_i b ty' kk es' dp;obtain⟨-,rfl,hx,-⟩:=k2;exact⟨es'.length,by simp[jr,ht,k1],fin e1.symm e2.symm e3.symm (by simp[av,hx])⟩
   ·cases h
  ·cases h
 ·cases y<;>first|exact hc.elim|skip
  obtain⟨rfl,hst,rfl,⟨u,u1,u2,rfl⟩,⟨v',v1,v2,rfl⟩⟩:=hc;split at h
  ·rename_i hs;injection h with h;injection h with e1 h;injection h with e2 e3;subst e1 e2 e3;simp only[aq]at he;injection he with he;subst he;have hso:=dh hr hs.2 hst;exact⟨v'.toNat,by simp[jr,hs.1,hso],⟨rfl,by show(_:List DV)[_]? =_;rw[v1];congr 3;omega,trivial⟩,hr⟩
  ·cases h
 ·cases y<;>first|exact hc.elim|skip
  split at h
  ·rename_i ht;injection h with h;injection h with e1 h;injection h with e2 e3;exact⟨0,by simp[jr,ht],fin e1.symm e2.symm e3.symm (by simp[av,lz])⟩
  ·cases h
 ·cases h
theorem nZ{x:Option Operand}{l:Option Nat}(h:Bl S x=some (ps,l,S'))(he:aq ps ρ=some ρ')(hr:aO S ρ σ s):aO S' ρ' σ s/\∀ρ'' r,aN ρ' ρ''->vF ρ'' l=some r->s.evI x=some r:=by
 unfold Bl at h;split at h
 ·injection h with h;injection h with e1 h;injection h with e2 e3;subst e1 e2 e3;simp only[aq]at he;injection he with he;subst he;refine⟨hr,λρ'' r _ hg=>?_⟩;simp only[vF]at hg;injection hg with hg;subst hg;rfl
 ·rename_i x;split at h
  ·rename_i p v1 S1 hv;split at h
   ·rename_i i hd;injection h with h;injection h with e1 h;injection h with e2 e3;subst e1 e2 e3;obtain⟨k1,k2⟩:=aQ hv he hr;refine⟨k2,λρ'' r hp hg=>?_⟩;obtain⟨y,y1,y2⟩:=cS hd k1;simp only[vF,gI,hp.get y2]at hg;split at hg
    ·rename_i kd z hz;injection hz with hz;subst hz;simp only[Option.map_some]at hg;injection hg with hg;subst hg;simp[AS.evI,y1]
    ·cases hg
   ·cases h
  ·cases h
theorem K7{t:TypeId}{lo hi:Option Operand}{u:SV}{x:AV}(h:Np P t S u lo hi=some (ps,v,S'))(he:aq ps ρ=some ρ')(hr:aO S ρ σ s)(hu:RV ρ σ u x):
 ∃l h' y,s.evI lo=some l/\s.evI hi=some h'/\rH P s t x l h'=some y/\RV ρ' σ v y/\aO S' ρ' σ s:=by
 unfold Np at h;split at h
 ·rename_i i hd;split at h
  ·rename_i p l S1 h1;split at h
   ·rename_i q hh S2 h2;split at h
    ·rename_i r u' S3 h3;injection h with h;injection h with e1 h;injection h with e2 e3;subst e1 e2 e3;obtain⟨ρ1,a1,a2⟩:=ac he;obtain⟨ρ2,b1,b2⟩:=ac a2;obtain⟨r1,f1⟩:=nZ h1 a1 hr;obtain⟨r2,f2⟩:=nZ h2 b1 r1;have p12:=ai b1;have p02:aN ρ ρ2:=(ai a1).trans p12;obtain⟨y,rfl,hy⟩:=cS hd hu;have hy2:=p02.get hy;unfold Qg at h3;split at h3
     ·rename_i hs;injection h3 with h3;injection h3 with e1 h3;injection h3 with e2 e3;subst e1 e2 e3;obtain⟨out,o1,o2⟩:=au b2;have o1':=o1;simp only[av,hy2]at o1;split at o1
      ·rename_i b lv hv' g1 g2 g3;injection g1 with g1;subst g1;split at o1
       ·rename_i a b' hc;injection o1 with o1;subst o1;obtain⟨q1,q2⟩:=sJ (w:=.string (b.extract a b')) r2 o1' b2;exact⟨lv,hv',_,f1 _ _ p12 g2,f2 _ _ (aN.refl _) g3,by simp[rH,C2 hs,hc],q1,q2⟩
       ·cases o1
      ·cases o1
     ·split at h3
      ·rename_i el k ht;injection h3 with h3;injection h3 with e1 h3;injection h3 with e2 e3;subst e1 e2 e3;obtain⟨out,o1,rfl⟩:=au b2;simp only[av,hy2]at o1;split at o1
       ·rename_i tt k' es lv hv' g1 g2 g3;injection g1 with g1;subst g1;split at o1
        ·rename_i hk;subst hk;split at o1
         ·rename_i a b' hc;injection o1 with o1;subst o1;refine⟨lv,hv',.p false [.d (.sl tt k' ((es.drop a).take (b'-a)))],f1 _ _ p12 g2,f2 _ _ (aN.refl _) g3,by simp[rH,ht,hc],⟨rfl,by show(_:List DV)[_]? =_;simp[<-r2.m],trivial⟩,r2.bind rfl⟩
         ·cases o1
        ·cases o1
       ·cases o1
      ·cases h3
    ·cases h
   ·cases h
  ·cases h
 ·split at h
  ·rename_i i st hdd;split at h
   ·rename_i el k1 a ty k xx ht ho;split at h
    ·rename_i hk;subst hk;split at h
     ·rename_i p l S1 h1;split at h
      ·rename_i q hh S2 h2;injection h with h;injection h with e1 h;injection h with e2 e3;subst e1 e2 e3;obtain⟨ρ1,a1,a2⟩:=ac he;obtain⟨ρ2,b1,b2⟩:=ac a2;obtain⟨r1,f1⟩:=nZ h1 a1 hr;obtain⟨r2,f2⟩:=nZ h2 b1 r1;have p12:=ai b1;have p02:aN ρ ρ2:=(ai a1).trans p12;obtain⟨y,rfl,hy⟩:=bg (c:=.own i st) rfl hu;cases y<;>first|exact hy.elim|skip
       obtain⟨rfl,hst⟩:=hy;obtain⟨o',q1,q2,-,-⟩:=hr.ownR ho hst;cases o'<;>first|exact q2.elim|skip
       rename_i b ty' kk es' dp;obtain⟨-,rfl,rfl,-,hx⟩:=q2;obtain⟨out,o1,rfl⟩:=au b2;simp only[av,p02.get hx]at o1;split at o1
       ·rename_i tt k3 es lv hv' g1 g2 g3;injection g1 with g1;injection g1 with g1 g1' g1'';subst g1 g1' g1'';split at o1
        ·rename_i a' b' hc;injection o1 with o1;subst o1;refine⟨lv,hv',.p false [.sub _ _ kk a' (b'-a')],f1 _ _ p12 g2,f2 _ _ (aN.refl _) g3,by simp[rH,ht,q1,hc],⟨rfl,⟨rfl,hst,rfl,⟨((a':Nat):Int),by simp[<-r2.m],by omega,by simp⟩,⟨((b'-a':Nat):Int),by rw[<-r2.m];simp,by omega,by simp⟩⟩,trivial⟩,r2.bind rfl⟩
        ·cases o1
       ·cases o1
      ·cases h
     ·cases h
    ·cases h
   ·cases h
  ·rename_i i st k zz mm hdd;split at h
   ·rename_i el k1 a ty k2 xx ht ho;split at h
    ·rename_i hk;obtain⟨rfl,rfl⟩:=hk;split at h
     ·rename_i p l S1 h1;split at h
      ·rename_i q hh S2 h2;injection h with h;injection h with e1 h;injection h with e2 e3;subst e1 e2 e3;obtain⟨ρ1,a1,a2⟩:=ac he;obtain⟨ρ2,b1,b2⟩:=ac a2;obtain⟨r1,f1⟩:=nZ h1 a1 hr;obtain⟨r2,f2⟩:=nZ h2 b1 r1;have p12:=ai b1;have p02:aN ρ ρ2:=(ai a1).trans p12;obtain⟨y,rfl,hy⟩:=bg (c:=.sub i st _ zz mm) rfl hu;cases y<;>first|exact hy.elim|skip
       obtain⟨rfl,hst,rfl,⟨u0,u1,u2,rfl⟩,⟨v0,v1,v2,rfl⟩⟩:=hy;obtain⟨o',q1,q2,-,-⟩:=hr.ownR ho hst;cases o'<;>first|exact q2.elim|skip
       rename_i b ty' kk es' dp;obtain⟨-,rfl,rfl,-,hx⟩:=q2;obtain⟨out,o1,rfl⟩:=au b2;simp only[av,p02.get u1,p02.get v1]at o1;split at o1
       ·rename_i uu vv lv hv' g1 g1' g2 g3;injection g1 with g1;injection g1 with g1;injection g1 with _ g1;injection g1' with g1';injection g1' with g1';injection g1' with _ g1';subst g1 g1';split at o1
        ·split at o1
         ·rename_i a' b' hc;injection o1 with o1;subst o1;refine⟨lv,hv',.p false [.sub _ _ kk (u0.toNat+a') (b'-a')],f1 _ _ p12 g2,f2 _ _ (aN.refl _) g3,by simp[rH,ht,q1,hc],⟨rfl,⟨rfl,hst,rfl,⟨((u0.toNat+a':Nat):Int),by rw[<-r2.m];simp,by omega,by omega⟩,⟨((b'-a':Nat):Int),by rw[<-r2.m];simp,by omega,by omega⟩⟩,trivial⟩,r2.bind rfl⟩
         ·cases o1
        ·cases o1
       ·cases o1
      ·cases h
     ·cases h
    ·cases h
   ·cases h
  ·cases h
theorem JR{op:Op}(h:R9 P S op=some (ps,v,S'))(he:aq ps ρ=some ρ')(hr:aO S ρ σ s):∃x,hV P s op=some x/\RV ρ' σ v x/\aO S' ρ' σ s:=by
 unfold R9 at h;split at h
 ·obtain⟨k1,k2⟩:=aQ h he hr;exact⟨_,rfl,k1,k2⟩
 ·obtain⟨k1,k2⟩:=aQ h he hr;exact⟨_,rfl,k1,k2⟩
 ·rename_i c x y;obtain⟨p,v1,S1,q,h1,h2,rfl⟩:=bq h;obtain⟨ρ1,a1,a2⟩:=ac he;obtain⟨k1,k2⟩:=aQ h1 a1 hr;split at h2
  ·rename_i i hd;split at h2
   ·rename_i b hb;obtain⟨z,z1,z2⟩:=cS hd k1;rw[k2.kn i b hb]at z2;injection z2 with z2;subst z2;obtain⟨m1,m2⟩:=aQ h2 a2 k2;refine⟨s.ev (if b then x else y),?_,m1,m2⟩;simp only[hV,z1,Rc];cases b<;>rfl
   ·cases h2
  ·cases h2
 ·obtain⟨p,v1,S1,q,h1,h2,rfl⟩:=bq h;obtain⟨ρ1,a1,a2⟩:=ac he;obtain⟨k1,k2⟩:=aQ h1 a1 hr;split at h2
  ·rename_i c hc;obtain⟨y,y1,y2⟩:=bg hc k1;obtain⟨x,x1,x2,x3⟩:=BB h2 a2 k2 y2;exact⟨x,by simp only[hV,y1];exact x1,x2,x3⟩
  ·cases h2
 ·obtain⟨p,v1,S1,q,h1,h2,rfl⟩:=bq h;obtain⟨ρ1,a1,a2⟩:=ac he;obtain⟨k1,k2⟩:=aQ h1 a1 hr;split at h2
  ·rename_i c hc;split at h2
   ·rename_i u hu;injection h2 with h2;injection h2 with e1 h2;injection h2 with e2 e3;subst e1 e2 e3;simp only[aq]at a2;injection a2 with a2;subst a2;obtain⟨y,y1,y2⟩:=bg hc k1;obtain⟨x,x1,x2⟩:=O3 hu k2 y2;exact⟨x,by simp only[hV,y1];exact x1,x2,k2⟩
   ·cases h2
  ·cases h2
 ·obtain⟨p,v1,S1,q,h1,h2,rfl⟩:=bq h;obtain⟨ρ1,a1,a2⟩:=ac he;obtain⟨k1,k2⟩:=aQ h1 a1 hr;split at h2
  ·rename_i u hu;injection h2 with h2;injection h2 with e1 h2;injection h2 with e2 e3;subst e1 e2 e3;simp only[aq]at a2;injection a2 with a2;subst a2;obtain⟨x,x1,x2⟩:=PX hu k1;exact⟨x,by simp only[hV];exact x1,x2,k2⟩
  ·cases h2
 ·obtain⟨p,v1,S1,q,h1,h2,rfl⟩:=bq h;obtain⟨ρ1,a1,a2⟩:=ac he;obtain⟨k1,k2⟩:=aQ h1 a1 hr;split at h2
  ·rename_i i hd;obtain⟨p2,v2,S2,q2,h3,h4,rfl⟩:=bq h2;obtain⟨ρ2,b1,b2⟩:=ac a2;obtain⟨m1,m2⟩:=aQ h3 b1 k2;split at h4
   ·rename_i c hc;obtain⟨p3,v3,S3,q3,h5,h6,rfl⟩:=bq h4;injection h5 with h5;injection h5 with e1 h5;injection h5 with e2 e3;subst e1 e2 e3;obtain⟨ρ3,c1,c2⟩:=ac b2;obtain⟨out,o1,rfl⟩:=au c1;obtain⟨z,z1,z2⟩:=cS hd k1;have z2':=(ai b1).get z2;simp only[av,z2']at o1;split at o1
    ·rename_i kd zz hz;injection hz with hz;subst hz;injection o1 with o1;subst o1;rw[List.append_nil]at c2;obtain⟨y,y1,y2⟩:=bg hc m1;obtain⟨x,x1,x2,x3⟩:=LD h6 c2 m2 y2 z2';exact⟨x,by simp only[hV,y1,z1];exact x1,x2,x3⟩
    ·cases o1
   ·cases h4
  ·cases h2
 ·obtain⟨p,v1,S1,q,h1,h2,rfl⟩:=bq h;obtain⟨ρ1,a1,a2⟩:=ac he;obtain⟨k1,k2⟩:=aQ h1 a1 hr;obtain⟨p2,v2,S2,q2,h3,h4,rfl⟩:=bq h2;obtain⟨ρ2,b1,b2⟩:=ac a2;obtain⟨m1,m2⟩:=aQ h3 b1 k2;split at h4
  ·rename_i i j hi hj;split at h4
   ·rename_i hs;injection h4 with h4;injection h4 with e1 h4;injection h4 with e2 e3;subst e1 e2 e3;obtain⟨y,y1,y2⟩:=cS hi k1;obtain⟨z,z1,z2⟩:=cS hj m1;have y2':=(ai b1).get y2;obtain⟨out,o1,-⟩:=au b2;have o1':=o1;simp only[av,y2',z2]at o1;split at o1
    ·rename_i b kd zz g1 g2;injection g1 with g1;injection g2 with g2;subst g1 g2;split at o1
     ·rename_i hz;split at o1
      ·rename_i u hu;injection o1 with o1;subst o1;obtain⟨q1,q2⟩:=sJ m2 o1' b2;exact⟨_,by simp only[hV,y1,z1,P4,C2 hs];rw[if_pos hz];simp only[hu],q1,q2⟩
      ·cases o1
     ·cases o1
    ·cases o1
   ·cases h4
  ·cases h4
 ·obtain⟨p,v1,S1,q,h1,h2,rfl⟩:=bq h;obtain⟨ρ1,a1,a2⟩:=ac he;obtain⟨k1,k2⟩:=aQ h1 a1 hr;obtain⟨p2,v2,S2,q2,h3,h4,rfl⟩:=bq h2;obtain⟨ρ2,b1,b2⟩:=ac a2;obtain⟨m1,m2⟩:=aQ h3 b1 k2;split at h4
  ·rename_i i j hi hj;injection h4 with h4;injection h4 with e1 h4;injection h4 with e2 e3;subst e1 e2 e3;obtain⟨y,y1,y2⟩:=cS hi k1;obtain⟨z,z1,z2⟩:=cS hj m1;have y2':=(ai b1).get y2;obtain⟨out,o1,-⟩:=au b2;have o1':=o1;simp only[av,y2',z2]at o1;split at o1
   ·rename_i a b g1 g2;injection g1 with g1;injection g2 with g2;subst g1 g2;obtain⟨w,w1,rfl⟩:=Co o1;obtain⟨q1,q2⟩:=sJ m2 o1' b2;exact⟨_,by simp only[hV,y1,z1,D0,Bs,Pk w1],q1,q2⟩
   ·cases o1
  ·rename_i op t X Y _ _ _ _;unfold Ul at h4;split at h4
   ·rename_i cs cs' _
    have key:∀(is js:List Nat) (ks:List Kd) (neg:Bool),Ct cs=some is->Ct cs'=some js->aq [.eqS neg ks is js] ρ2=some ρ'->∃b,av ρ2 (.eqS neg ks is js)=some [.sc (.bool (if neg then !b else b))]/\∃xs ys,s.ev X=.p true xs/\s.ev Y=.p true ys/\Bt ks xs ys=some b:=by
     intro is js ks neg g1 g2 g3;obtain⟨out,o1,-⟩:=au g3
     cases hx:s.ev X with
     |p b1 xs=>
      rw[hx]at k1;obtain⟨rfl,c1⟩:=k1
      cases hy:s.ev Y with
      |p b2 ys=>
       rw[hy]at m1;obtain⟨rfl,c2⟩:=m1;obtain⟨ds,rfl,d1⟩:=zT g1 c1;obtain⟨es,rfl,d2⟩:=zT g2 c2;have o2:=o1;simp only[av,wi (d1.mono (ai b1)),wi d2]at o1;split at o1
       ·rename_i b hb;injection o1 with o1;subst o1;exact⟨b,o2,_,_,rfl,rfl,JU hb⟩
       ·cases o1
      |tup=>rw[hy]at m1;exact m1.elim
      |und=>rw[hy]at m1;exact m1.elim
     |tup=>rw[hx]at k1;exact k1.elim
     |und=>rw[hx]at k1;exact k1.elim
    split at h4
    ·rename_i is js ks g1 g2 g3;injection h4 with h4;injection h4 with e1 h4;injection h4 with e2 e3;subst e1 e2 e3;obtain⟨b,o1,xs,ys,hx,hy,hb⟩:=key is js ks false g1 g2 b2;obtain⟨q1,q2⟩:=sJ m2 o1 b2;exact⟨_,by simp only[hV,hx,hy,D0,Bs,R0,g3,hb];rfl,q1,q2⟩
    ·rename_i is js ks g1 g2 g3;injection h4 with h4;injection h4 with e1 h4;injection h4 with e2 e3;subst e1 e2 e3;obtain⟨b,o1,xs,ys,hx,hy,hb⟩:=key is js ks true g1 g2 b2;obtain⟨q1,q2⟩:=sJ m2 o1 b2;exact⟨_,by simp only[hV,hx,hy,D0,Bs,R0,g3,hb];rfl,q1,q2⟩
    ·cases h4
   ·cases h4
 ·obtain⟨p,v1,S1,q,h1,h2,rfl⟩:=bq h;obtain⟨ρ1,a1,a2⟩:=ac he;obtain⟨k1,k2⟩:=aQ h1 a1 hr;split at h2
  ·rename_i i hi;injection h2 with h2;injection h2 with e1 h2;injection h2 with e2 e3;subst e1 e2 e3;obtain⟨y,y1,y2⟩:=cS hi k1;obtain⟨out,o1,-⟩:=au a2;have o1':=o1;simp only[av,y2]at o1;split at o1
   ·rename_i a g1;injection g1 with g1;subst g1;obtain⟨w,w1,rfl⟩:=Co o1;obtain⟨q1,q2⟩:=sJ k2 o1' a2;exact⟨_,by simp only[hV,y1,P9,w1],q1,q2⟩
   ·cases o1
  ·cases h2
 ·obtain⟨p,v1,S1,q,h1,h2,rfl⟩:=bq h;obtain⟨ρ1,a1,a2⟩:=ac he;obtain⟨k1,k2⟩:=aQ h1 a1 hr;split at h2
  ·rename_i hT;split at h2
   ·rename_i c hc;obtain⟨y,y1,y2⟩:=bg hc k1;obtain⟨u,u1,u2,u3⟩:=Nj hT h2 a2 k2 y2;exact⟨u,by simp only[hV,y1,u1],u2,u3⟩
   ·cases h2
  ·split at h2
   ·rename_i i hi;obtain⟨y,y1,y2⟩:=cS hi k1;obtain⟨u,u1,u2,u3⟩:=Ni h2 a2 k2 y2;exact⟨u,by simp only[hV,y1,Ki,u1],u2,u3⟩
   ·cases h2
 ·rename_i x ix;obtain⟨p,v1,S1,q,h1,h2,rfl⟩:=bq h;obtain⟨ρ1,a1,a2⟩:=ac he;obtain⟨k1,k2⟩:=aQ h1 a1 hr;split at h2
  ·rename_i xs;split at h2
   ·rename_i b cs hx;injection h2 with h2;injection h2 with e1 h2;injection h2 with e2 e3;subst e1 e2 e3;simp only[aq]at a2;injection a2 with a2;subst a2
    cases hs:s.ev x with
    |tup ys=>
     rw[hs]at k1;obtain⟨y,y1,y2,y3⟩:=Jr k1 hx;obtain⟨yb,yc⟩:=y
     exact⟨.p yb yc,by simp only[hV,hs,JQ,y1],⟨y2,y3⟩,k2⟩
    |p=>rw[hs]at k1;exact k1.elim
    |und=>rw[hs]at k1;exact k1.elim
   ·cases h2
  ·cases h2
 ·obtain⟨p,v1,S1,q,h1,h2,rfl⟩:=bq h;obtain⟨ρ1,a1,a2⟩:=ac he;obtain⟨k1,k2⟩:=aQ h1 a1 hr;obtain⟨l,h',y,y1,y2,y3,y4,y5⟩:=K7 h2 a2 k2 k1;exact⟨y,by simp only[hV,y1,y2];exact y3,y4,y5⟩
 ·rename_i c;split at h
  ·rename_i x t hc1 hc2 hc3;obtain⟨p,v1,S1,q,h1,h2,rfl⟩:=bq h;obtain⟨ρ1,a1,a2⟩:=ac he;obtain⟨k1,k2⟩:=aQ h1 a1 hr;split at h2
   ·rename_i c' hc;obtain⟨y,y1,y2⟩:=bg hc k1;obtain⟨n,n1,n2,n3⟩:=Mf h2 a2 k2 y2;exact⟨_,by simp only[hV,hc1,hc2,hc3,sq,y1,n1],n2,n3⟩
   ·cases h2
  ·rename_i x y _ hc1 hc2;obtain⟨p,v1,S1,q,h1,h2,rfl⟩:=bq h;obtain⟨ρ1,a1,a2⟩:=ac he;obtain⟨k1,k2⟩:=aQ h1 a1 hr;obtain⟨p2,v2,S2,q2,h3,h4,rfl⟩:=bq h2;obtain⟨ρ2,b1,b2⟩:=ac a2;obtain⟨m1,m2⟩:=aQ h3 b1 k2;split at h4
   ·rename_i i j hi hj;injection h4 with h4;injection h4 with e1 h4;injection h4 with e2 e3;subst e1 e2 e3;obtain⟨y,y1,y2⟩:=cS hi k1;obtain⟨z,z1,z2⟩:=cS hj m1;have y2':=(ai b1).get y2;obtain⟨out,o1,-⟩:=au b2;have o1':=o1;simp only[av,y2',z2]at o1;split at o1
    ·rename_i k a k' b g1 g2;injection g1 with g1;injection g2 with g2;subst g1 g2;split at o1
     ·rename_i e;injection o1 with o1;subst o1;obtain⟨q1,q2⟩:=sJ m2 o1' b2;exact⟨_,by simp only[hV,hc1,hc2,sq,y1,z1,MV];rw[if_pos e],q1,q2⟩
     ·cases o1
    ·cases o1
   ·cases h4
  ·rename_i x y _ hc1 hc2;obtain⟨p,v1,S1,q,h1,h2,rfl⟩:=bq h;obtain⟨ρ1,a1,a2⟩:=ac he;obtain⟨k1,k2⟩:=aQ h1 a1 hr;obtain⟨p2,v2,S2,q2,h3,h4,rfl⟩:=bq h2;obtain⟨ρ2,b1,b2⟩:=ac a2;obtain⟨m1,m2⟩:=aQ h3 b1 k2;split at h4
   ·rename_i i j hi hj;injection h4 with h4;injection h4 with e1 h4;injection h4 with e2 e3;subst e1 e2 e3;obtain⟨y,y1,y2⟩:=cS hi k1;obtain⟨z,z1,z2⟩:=cS hj m1;have y2':=(ai b1).get y2;obtain⟨out,o1,-⟩:=au b2;have o1':=o1;simp only[av,y2',z2]at o1;split at o1
    ·rename_i k a k' b g1 g2;injection g1 with g1;injection g2 with g2;subst g1 g2;split at o1
     ·rename_i e;injection o1 with o1;subst o1;obtain⟨q1,q2⟩:=sJ m2 o1' b2;exact⟨_,by simp only[hV,hc1,hc2,sq,y1,z1,MV];rw[if_pos e],q1,q2⟩
     ·cases o1
    ·cases o1
   ·cases h4
  ·cases h
 ·obtain⟨p,v1,S1,q,h1,h2,rfl⟩:=bq h;obtain⟨ρ1,a1,a2⟩:=ac he;obtain⟨k1,k2⟩:=aQ h1 a1 hr;split at h2
  ·rename_i i st;split at h2
   ·rename_i ob id t z ho;injection h2 with h2;injection h2 with e1 h2;injection h2 with e2 e3;subst e1 e2 e3;simp only[aq]at a2;injection a2 with a2;subst a2;obtain⟨y,y1,y2⟩:=bg (c:=.own i st) rfl k1;cases y<;>first|exact y2.elim|skip
    rename_i i' st';obtain⟨rfl,hst⟩:=y2;obtain⟨o',m1,m2,-,-⟩:=k2.own ho hst;cases o'<;>first|exact m2.elim|skip
    refine⟨.p false [.own i' st'],?_,⟨rfl,⟨rfl,hst⟩,trivial⟩,k2⟩;simp only[hV,Pd,y1,m1]
   ·cases h2
  ·rename_i i st off;split at h2
   ·rename_i ho;injection h2 with h2;injection h2 with e1 h2;injection h2 with e2 e3;subst e1 e2 e3;simp only[aq]at a2;injection a2 with a2;subst a2;obtain⟨y,y1,y2⟩:=bg (c:=.ptr i st off) rfl k1;cases y<;>first|exact y2.elim|skip
    rename_i i' st' off';obtain⟨rfl,hst,rfl⟩:=y2;refine⟨.p false [.ptr _ st' _],?_,⟨rfl,⟨rfl,hst,rfl⟩,trivial⟩,k2⟩;simp only[hV,Pd,y1,dh k2 ho hst,if_true]
   ·cases h2
  ·rename_i i st k j off;split at h2
   ·rename_i ho;injection h2 with h2;injection h2 with e1 h2;injection h2 with e2 e3;subst e1 e2 e3;simp only[aq]at a2;injection a2 with a2;subst a2;obtain⟨y,y1,y2⟩:=bg (c:=.elt i st k j off) rfl k1;cases y<;>first|exact y2.elim|skip
    rename_i i' st' k' j' off';obtain⟨rfl,hst,rfl,hz,rfl⟩:=y2;refine⟨.p false [.elt _ st' _ j' _],?_,⟨rfl,⟨rfl,hst,rfl,hz,rfl⟩,trivial⟩,k2⟩;simp only[hV,Pd,y1,dh k2 ho hst,if_true]
   ·cases h2
  ·cases h2
 ·cases h
end
end Go.Proofs.Ytngaddcgmnonbaa
namespace Go.Proofs.Ytngaddcgmnonbaa
open Go.RowKit
def Sy.push(S:Sy)(o:SO):Sy:={S with ob:=(S.n,o)::S.ob,n:=S.n+1,c:=S.c+1}
section
variable {P:Program}{ρ ρ':List DV}{σ σ':List Nat}{S S':Sy}{s s':AS}{ps:List PO}{v:SV}
theorem aO.upd(h:aO S ρ σ s)(hp:aN σ σ'){c' n' i:Nat}{so:SO}(hc:σ'.length=c')(hn:s'.n=n')(hle:S.n<=n')(hi:i<n')(hsl:s'.sl=s.sl)(hob:∀j,j≠i->s'.ob j=s.ob j)(ho:RO ρ σ' so (s'.ob i)):
 aO {S with ob:=(i,so)::S.ob,n:=n',c:=c'} ρ σ' s':=by
 refine⟨hn,hc,h.m,λt x hx=>?_,λj x hx=>?_,h.kn⟩
 ·rw[hsl];exact(h.sl t x hx).mono (aN.refl _) hp
 ·simp only[aG]at hx;split at hx
  ·rename_i e;injection hx with hx;subst e hx;exact⟨hi,ho⟩
  ·rename_i e;obtain⟨k1,k2⟩:=h.ob j x hx;refine⟨Nat.lt_of_lt_of_le k1 hle,?_⟩;rw[hob j (λe'=>e e'.symm)];exact k2.mono (aN.refl _) hp
theorem aO.last(h:aO S ρ σ s)(x:Nat):(σ++[x])[S.c]? =some x:=by simp[<-h.c]
theorem aO.push(h:aO S ρ σ s){so:SO}{ob:Ob}(ho:RO ρ (σ++[s.c]) so ob):aO (S.push so) ρ (σ++[s.c]) (s.push ob):=by
 have:=h.upd (s':=s.push ob) (i:=S.n) (n':=S.n+1) (c':=S.c+1) (so:=so) (aN.app σ [s.c]) (by simp[h.c]) (by simp[AS.push,h.n]) (by omega) (by omega) rfl
  (λj hj=>by simp only[AS.push];rw[h.n,az _ _ hj]) (by simp only[AS.push,h.n,ab];exact ho)
 exact this
def Mj(S:Sy):SC->Bool
 |.d _=>true
 |.nil=>true
 |.own i st=>(S.own i st).isSome
 |.ptr i st _=>(S.own i st).isSome
 |.elt i st _ _ _=>(S.own i st).isSome
 |.sub i st _ _ _=>(S.own i st).isSome
 |.emp=>true
 |.rd _=>true
theorem EZ(hr:aO S ρ σ s){c:SC}{y:AC}(hc:RC ρ σ c y)(h:Mj S c=true):B7 s y=true:=by
 cases c<;>cases y<;>first|exact hc.elim|rfl|skip
 ·obtain⟨rfl,h1⟩:=hc;exact dh hr h h1
 ·obtain⟨rfl,h1,rfl⟩:=hc;exact dh hr h h1
 ·obtain⟨rfl,h1,rfl,-,rfl⟩:=hc;exact dh hr h h1
 ·obtain⟨rfl,h1,rfl,-,-⟩:=hc;exact dh hr h h1
theorem EI(hr:aO S ρ σ s):∀{cs:List SC} {ys:List AC},cj ρ σ cs ys->cs.all (Mj S)=true->ys.all (B7 s)=true
 |[],[],_,_=>rfl
 |c::cs,y::ys,hc,h=>by
  simp only[List.all_cons,Bool.and_eq_true]at h ⊢
  exact⟨EZ hr hc.1 h.1,EI hr hc.2 h.2⟩
 |[],_::_,hc,_=>hc.elim
 |_::_,[],hc,_=>hc.elim
def s7(S:Sy):SV->Option (List SC)
 |.p true cs=>if cs.all (Mj S)then some cs else none
 |.p false [c]=>if Mj S c then some [c]else none
 |_=>none
theorem ii(hr:aO S ρ σ s){cs:List SC}{x:AV}(h:s7 S v=some cs)(hv:RV ρ σ v x):∃ys,cA s x=some ys/\cj ρ σ cs ys:=by
 unfold s7 at h;split at h
 ·split at h
  ·rename_i hk;injection h with h;subst h;cases x<;>first|exact hv.elim|skip
   rename_i b ys;obtain⟨rfl,hc⟩:=hv;exact⟨ys,by simp only[cA];rw[if_pos (EI hr hc hk)],hc⟩
  ·cases h
 ·rename_i c;split at h
  ·rename_i hk;injection h with h;subst h;obtain⟨y,rfl,hy⟩:=bg (c:=c) rfl hv;exact⟨[y],by simp only[cA];rw[if_pos (EZ hr hy hk)],hy,trivial⟩
  ·cases h
 ·cases h
def cK:List SC->List (Option (Nat×Nat))->Sy->Option (List PO×List Nat×Sy)
 |[],_,S=>some ([],[],S)
 |.d i::cs,ty,S=>if(ty.headD none).isSome then none else(match cK cs ty.tail S with|some (p,xs,S')=>some (.sc i::p,i::xs,S')|none=>none)
 |.nil::cs,ty,S=>(match ty.headD none with
  |some (t,k)=>if 0<k then(match cK cs ty.tail (S.bind 1)with|some (p,xs,S')=>some (.e t k::p,S.m::xs,S')|none=>none)else none
  |none=>none)
 |.own i st::cs,ty,S=>(match S.own i st with
  |some (.row _ _ _ x)=>(match cK cs ty.tail {S with ob:=(i,.frz st x)::S.ob}with|some (p,xs,S')=>some (p,x::xs,S')|none=>none)
  |some (.dx _ x)=>(match cK cs ty.tail {S with ob:=(i,.frz st x)::S.ob}with|some (p,xs,S')=>some (p,x::xs,S')|none=>none)
  |_=>none)
 |.sub i st k z m::cs,ty,S=>(match S.own i st with
  |some (.row _ _ k' x)=>if k'=k then(match cK cs ty.tail { (S.bind 1)with ob:=(i,.dead)::S.ob}with|some (p,xs,S')=>some (.cutP x z m::p,S.m::xs,S')|none=>none)else none
  |_=>none)
 |_::_,_,_=>none
theorem nR{d:DV}(h:ka d=true):∃v,d=.sc v:=by
 cases d with
 |sc v=>exact⟨v,rfl⟩
 |sl=>simp[ka]at h
theorem eh:∀{cs:List SC} {ty:List (Option (Nat×Nat))} {S S':Sy} {ps:List PO} {xs:List Nat} {ρ ρ':List DV} {s:AS} {ys:List AC},cK cs ty S=some (ps,xs,S')->aq ps ρ=some ρ'->aO S ρ σ s->cj ρ σ cs ys->
 ∃s' ds,gH s s' ys ds/\RD ρ' xs ds/\aO S' ρ' σ s'/\∀i,(∀st a t k x,S.own i st≠some (.row a t k x)/\S.own i st≠some (.dx a x))->s'.ob i=s.ob i
 |[],ty,S,S',ps,xs,ρ,ρ',s,ys,h,he,hr,hc=>by
  simp only[cK]at h;injection h with h;injection h with e1 h;injection h with e2 e3;subst e1 e2 e3;simp only[aq]at he;injection he with he;subst he
  cases ys with
  |nil=>exact⟨s,[],Gq,trivial,hr,λ_ _=>rfl⟩
  |cons=>exact hc.elim
 |c::cs,ty,S,S',ps,xs,ρ,ρ',s,[],h,he,hr,hc=>hc.elim
 |.d i::cs,ty,S,S',ps,xs,ρ,ρ',s,y::ys,h,he,hr,hc=>by
  simp only[cK]at h;split at h
  ·cases h
  split at h
  ·rename_i p xs' S1 hg;injection h with h;injection h with e1 h;injection h with e2 e3;subst e1 e2 e3;obtain⟨x,rfl,hx⟩:=nk hc.1;simp only[aq,av,hx]at he;split at he
   ·rename_i out ho;split at ho
    ·rename_i hsc;injection ho with ho;subst ho;rw[List.append_nil]at he;obtain⟨u,rfl⟩:=nR hsc;obtain⟨s',ds,g1,g2,g3,g4⟩:=eh hg he hr hc.2;exact⟨s',.sc u::ds,IQ g1,⟨(ai he).get hx,g2⟩,g3,g4⟩
    ·cases ho
   ·cases he
  ·cases h
 |.nil::cs,ty,S,S',ps,xs,ρ,ρ',s,y::ys,h,he,hr,hc=>by
  simp only[cK]at h;cases y<;>first|exact hc.1.elim|skip
  split at h
  ·rename_i t k ht;split at h
   ·rename_i hk;split at h
    ·rename_i p xs' S1 hg;injection h with h;injection h with e1 h;injection h with e2 e3;subst e1 e2 e3;simp only[aq,av]at he;obtain⟨s',ds,g1,g2,g3,g4⟩:=eh hg he (hr.bind rfl) (cj.mono (aN.app _ _) (aN.refl _) hc.2);refine⟨s',.sl t k []::ds,CW hk g1,⟨(ai he).get (by simp[<-hr.m]),g2⟩,g3,g4⟩
    ·cases h
   ·cases h
  ·cases h
 |.own i st::cs,ty,S,S',ps,xs,ρ,ρ',s,y::ys,h,he,hr,hc=>by
  simp only[cK]at h;cases y<;>first|exact hc.1.elim|skip
  rename_i i' st';obtain⟨⟨rfl,hst⟩,hc2⟩:=hc;split at h
  ·rename_i a t k x ho;split at h
   ·rename_i p xs' S1 hg;injection h with h;injection h with e1 h;injection h with e2 e3;subst e1 e2 e3;obtain⟨o',k1,k2,k3,k4⟩:=hr.own ho hst;cases o'<;>first|exact k2.elim|skip
    rename_i b ty' kk es' dp;obtain⟨k5,rfl,rfl,rfl,hx⟩:=k2
    have hb:b=st':=by
     obtain⟨-,q2,q3⟩:=af k1;rw[<-k3]at q2;unfold AS.lv at q3;split at q3
     ·rw[k3]at q3;simpa[Ob.st]using q3
     ·cases q3
    subst hb
    have hr2:aO {S with ob:=(i',SO.frz st x)::S.ob} ρ σ (s.frz i' b (.sl ty' kk es')):=
     hr.upd (s':=s.frz i' b (.sl ty' kk es')) (i:=i') (n':=S.n) (c':=S.c) (so:=.frz st x) (aN.refl _) hr.c hr.n (Nat.le_refl _) k4 rfl (λj hj=>by simp only[AS.frz,az _ _ hj]) (by simp only[AS.frz,ab];exact⟨hst,hx⟩)
    obtain⟨s',ds,g1,g2,g3,g4⟩:=eh hg he hr2 hc2;refine⟨s',.sl ty' kk es'::ds,GU k1 g1,⟨(ai he).get hx,g2⟩,g3,λj hj=>?_⟩;have hne:j≠i':=λe=>by subst e;exact(hj _ _ _ _ _).1 ho
    rw[g4 j (λst2 a2 t2 k2 x2=>by
     have:=hj st2 a2 t2 k2 x2;unfold Sy.own at this ⊢
     simp only[aG,if_neg (λe:i'=j=>hne e.symm)];exact this)]
    simp only[AS.frz,az _ _ hne]
   ·cases h
  ·rename_i a x ho;split at h
   ·rename_i p xs' S1 hg;injection h with h;injection h with e1 h;injection h with e2 e3;subst e1 e2 e3;obtain⟨o',k1,k2,k3,k4⟩:=hr.own ho hst;cases o'<;>first|exact k2.elim|skip
    rename_i b y;obtain⟨k5,hx⟩:=k2
    have hb:b=st':=by
     obtain⟨-,q2,q3⟩:=af k1;rw[<-k3]at q2;unfold AS.lv at q3;split at q3
     ·rw[k3]at q3;simpa[Ob.st]using q3
     ·cases q3
    subst hb
    have hr2:aO {S with ob:=(i',SO.frz st x)::S.ob} ρ σ (s.frz i' b y):=
     hr.upd (s':=s.frz i' b y) (i:=i') (n':=S.n) (c':=S.c) (so:=.frz st x) (aN.refl _) hr.c hr.n (Nat.le_refl _) k4 rfl (λj hj=>by simp only[AS.frz,az _ _ hj]) (by simp only[AS.frz,ab];exact⟨hst,hx⟩)
    obtain⟨s',ds,g1,g2,g3,g4⟩:=eh hg he hr2 hc2;refine⟨s',y::ds,A3 k1 rfl (Ls k1) g1,⟨(ai he).get hx,g2⟩,g3,λj hj=>?_⟩;have hne:j≠i':=λe=>by subst e;exact(hj st a 0 0 x).2 ho
    rw[g4 j (λst2 a2 t2 k2 x2=>by
     have:=hj st2 a2 t2 k2 x2;unfold Sy.own at this ⊢
     simp only[aG,if_neg (λe:i'=j=>hne e.symm)];exact this)]
    simp only[AS.frz,az _ _ hne]
   ·cases h
  ·cases h
 |.ptr _ _ _::cs,ty,S,S',ps,xs,ρ,ρ',s,y::ys,h,he,hr,hc=>by simp[cK]at h
 |.elt _ _ _ _ _::cs,ty,S,S',ps,xs,ρ,ρ',s,y::ys,h,he,hr,hc=>by simp[cK]at h
 |.sub i st k z m::cs,ty,S,S',ps,xs,ρ,ρ',s,y::ys,h,he,hr,hc=>by
  simp only[cK]at h;cases y<;>first|exact hc.1.elim|skip
  rename_i i' st' k0 lo n;obtain⟨⟨rfl,hst,rfl,⟨u,e1,e2,rfl⟩,⟨v,e3,e4,rfl⟩⟩,hc2⟩:=hc;split at h
  ·rename_i a t k' x ho;split at h
   ·rename_i hk;split at h
    ·rename_i p xs' S1 hg;injection h with h;injection h with e1' h;injection h with e2' e3';subst e1' e2' e3' hk;obtain⟨o',k1,k2,k3,k4⟩:=hr.own ho hst;cases o'<;>first|exact k2.elim|skip
     rename_i b ty' kk es' dp;obtain⟨k5,rfl,rfl,rfl,hx⟩:=k2
     have hb:b=st':=by
      obtain⟨-,q2,q3⟩:=af k1;rw[<-k3]at q2;unfold AS.lv at q3;split at q3
      ·rw[k3]at q3;simpa[Ob.st]using q3
      ·cases q3
     subst hb;simp only[aq,av,hx,e1,e3]at he;split at he
     ·rename_i out ho2;split at ho2
      ·rename_i hcc;obtain⟨hu0,hle⟩:=hcc;subst hu0;injection ho2 with ho2;subst ho2;have hb:=hr.bind (out:=[DV.sl ty' kk (es'.take v.toNat)]) (k:=1) rfl
       have hr2:aO { (S.bind 1)with ob:=(i',SO.dead)::S.ob} (ρ++[DV.sl ty' kk (es'.take v.toNat)]) σ (s.kill i'):=
        hb.upd (s':=s.kill i') (n':=S.n) (c':=S.c) (so:=.dead) (aN.refl _) hr.c hr.n (Nat.le_refl _) k4 rfl (λj hj=>by simp only[AS.kill,az _ _ hj]) (by simp only[AS.kill,ab];trivial)
       obtain⟨s',ds,g1,g2,g3,g4⟩:=eh hg he hr2 (cj.mono (aN.app _ _) (aN.refl _) hc2);refine⟨s',.sl ty' kk (es'.take v.toNat)::ds,GX k1 hle g1,⟨(ai he).get (by simp[<-hr.m]),g2⟩,g3,λj hj=>?_⟩;have hne:=λe:j=i'=>(hj _ _ _ _ _).1 (e▸ho)
       rw[g4 j (λst2 a2 t2 k2 x2=>by
        have:=hj st2 a2 t2 k2 x2;unfold Sy.own at this ⊢
        simp only[aG,if_neg (λe:i'=j=>hne e.symm)];exact this)]
       simp only[AS.kill,az _ _ hne]
      ·cases ho2
     ·cases he
    ·cases h
   ·cases h
  ·cases h
 |.emp::cs,ty,S,S',ps,xs,ρ,ρ',s,y::ys,h,he,hr,hc=>by simp[cK]at h
 |.rd _::cs,ty,S,S',ps,xs,ρ,ρ',s,y::ys,h,he,hr,hc=>by simp[cK]at h
theorem GK:∀{cs:List SC} {ty:List (Option (Nat×Nat))} {S S':Sy} {ps:List PO} {xs:List Nat},cK cs ty S=some (ps,xs,S')->xs.length=cs.length:=by
 intro cs
 induction cs with
 |nil=>intro ty S S' ps xs h;simp only[cK]at h;injection h with h;injection h with e1 h;injection h with e2 e3;subst e2;rfl
 |cons c cs ih=>
  intro ty S S' ps xs h
  cases c with
  |d i=>
   simp only[cK]at h;split at h
   ·cases h
   split at h
   ·rename_i hg;injection h with h;injection h with e1 h;injection h with e2 e3;subst e2;simp[ih hg]
   ·cases h
  |nil=>
   simp only[cK]at h;split at h
   ·split at h
    ·split at h
     ·rename_i hg;injection h with h;injection h with e1 h;injection h with e2 e3;subst e2;simp[ih hg]
     ·cases h
    ·cases h
   ·cases h
  |own i st=>
   simp only[cK]at h;split at h
   ·split at h
    ·rename_i hg;injection h with h;injection h with e1 h;injection h with e2 e3;subst e2;simp[ih hg]
    ·cases h
   ·split at h
    ·rename_i hg;injection h with h;injection h with e1 h;injection h with e2 e3;subst e2;simp[ih hg]
    ·cases h
   ·cases h
  |ptr=>simp[cK]at h
  |elt=>simp[cK]at h
  |sub=>
   simp only[cK]at h;split at h
   ·split at h
    ·split at h
     ·rename_i hg;injection h with h;injection h with e1 h;injection h with e2 e3;subst e2;simp[ih hg]
     ·cases h
    ·cases h
   ·cases h
  |emp=>simp[cK]at h
  |rd=>simp[cK]at h
def I7:Value->Bool
 |.slice none 0 0=>true
 |_=>false
def sZ:List Value->Nat->Option (List PO×List SC)
 |[],_=>some ([],[])
 |v::vs,m=>if I7 v then(match sZ vs m with|some (p,cs)=>some (p,.nil::cs)|none=>none)
  else if lz v then(match sZ vs (m+1)with|some (p,cs)=>some (.k v::p,.d m::cs)|none=>none)else none
theorem I9{v:Value}(h:I7 v=true):v=.slice none 0 0:=by
 unfold I7 at h;split at h
 ·rfl
 ·cases h
theorem PK{v:Value}(h:lz v=true):Hv v=some (.d (.sc v)):=by
 cases v<;>first|rfl|simp[lz]at h
theorem Bp:∀{vs:List Value} {m:Nat} {ps:List PO} {cs:List SC} {ρ ρ':List DV},sZ vs m=some (ps,cs)->ρ.length=m->aq ps ρ=some ρ'->∃acs,MT vs=some acs/\cj ρ' σ cs acs/\ρ'.length=m+ps.length
 |[],m,ps,cs,ρ,ρ',h,hm,he=>by
  simp only[sZ]at h;injection h with h;injection h with e1 e2;subst e1 e2;simp only[aq]at he;injection he with he;subst he
  exact⟨[],rfl,trivial,by simp[hm]⟩
 |v::vs,m,ps,cs,ρ,ρ',h,hm,he=>by
  simp only[sZ]at h;split at h
  ·rename_i hn;obtain rfl:=I9 hn;split at h
   ·rename_i p cs' hz;injection h with h;injection h with e1 e2;subst e1 e2;obtain⟨acs,a1,a2,a3⟩:=Bp hz hm he;exact⟨.nil::acs,by simp[MT,Hv,a1],⟨trivial,a2⟩,a3⟩
   ·cases h
  ·split at h
   ·rename_i hs;split at h
    ·rename_i p cs' hz;injection h with h;injection h with e1 e2;subst e1 e2;simp only[aq,av,hs,if_true]at he;obtain⟨acs,a1,a2,a3⟩:=Bp hz (by simp[hm]) he;refine⟨.d (.sc v)::acs,by simp[MT,PK hs,a1],⟨(ai he).get (by simp[<-hm]),a2⟩,by simp[a3];omega⟩
    ·cases h
   ·cases h
abbrev Sh:=List (Bool×List (Option (Nat×Nat))×Bool)
structure eK where
 own:FuncId->Bool
 dx:Bool
 mks:List FuncId
 pf:List FuncId:=[]
 cf:List FuncId:=[]
 nf:List (Nat×Nat):=[]
 gf:List (Nat×Nat):=[]
 vf:List (Nat×Nat):=[]
instance:CoeFun eK (λ_=>FuncId->Bool):=⟨eK.own⟩
inductive Nd where
 |po (o:PO)
 |mark (f:FuncId) (b:Bool) (xs:List (Nat×Nat)) (k:Nat)
 |call (f:FuncId) (args:List (Bool×List Nat)) (sh:Sh)
def cV(ρ:List DV):List (Bool×List Nat)->Option (List (Bool×List DV))
 |[]=>some []
 |(b,is)::r=>match gL ρ is,cV ρ r with|some x,some xs=>some ((b,x)::xs)|_,_=>none
def mU:List (Option (Nat×Nat))->List DV->Bool
 |[],[]=>true
 |none::ss,.sc _::ds=>mU ss ds
 |some (t,k)::ss,.sl t' k' _::ds=>decide (t'=t/\k'=k)&&mU ss ds
 |_,_=>false
def cM:Sh->List Rs->Bool
 |[],[]=>true
 |(b,ss,o)::sh,(b',ds,o')::rs=>decide (b'=b/\o'=o)&&(mU ss ds&&cM sh rs)
 |_,_=>false
def bP:List Rs->List DV
 |[]=>[]
 |(_,ds,_)::rs=>ds++bP rs
def wd:List (Nat×Nat)->List DV->List DV->Prop
 |[],[],[]=>True
 |(_,2)::r,_::ds,_::ds'=>wd r ds ds'
 |(_,1)::r,d::ds,d'::ds'=>(∃t k,0<k/\d=.sl t k []/\d'=.sl t k [])/\wd r ds ds'
 |(_,0)::r,d::ds,d'::ds'=>(∃v,d=.sc v/\d'=.sc v)/\wd r ds ds'
 |_,_,_=>False
def WN(P:Program):List Nd->(List DV->Prop)->List DV->Prop
 |[],K,ρ=>K ρ
 |.po o::r,K,ρ=>(match av ρ o with|some out=>WN P r K (ρ++out)|none=>False)
 |.call f a sh::r,K,ρ=>∃ys res,cV ρ a=some ys/\dZ P f ys res/\cM sh res=true/\WN P r K (ρ++bP res)
 |.mark f b xs k::r,K,ρ=>∃ds ds' n n',gL ρ (xs.map (·.1))=some ds/\ρ[k]? =some (.sc (.int .i64 n))/\Fg P f b ds n ds' n'/\wd xs ds ds'/\WN P r K (ρ++(ds'++[.sc (.int .i64 n')]))
theorem kw{K:List DV->Prop}:∀{a b:List Nd} {ρ:List DV},WN P (a++b) K ρ->WN P a (WN P b K) ρ
 |[],b,ρ,h=>h
 |.po o::r,b,ρ,h=>by
  simp only[List.cons_append,WN]at h ⊢;split
  ·rename_i out ho;rw[ho]at h;exact kw h
  ·rename_i ho;rw[ho]at h;exact h
 |.call f a sh::r,b,ρ,h=>by
  simp only[List.cons_append,WN]at h ⊢;obtain⟨ys,res,h1,h2,h3,h4⟩:=h
  exact⟨ys,res,h1,h2,h3,kw h4⟩
 |.mark f bb xs kk::r,b,ρ,h=>by
  simp only[List.cons_append,WN]at h ⊢;obtain⟨ds,ds',n,n',h1,h2,h3,h4,h5⟩:=h;exact⟨ds,ds',n,n',h1,h2,h3,h4,kw h5⟩
theorem bn{K:List DV->Prop}:∀{ps:List PO} {ρ:List DV},WN P (ps.map .po) K ρ->∃ρ',aq ps ρ=some ρ'/\K ρ'
 |[],ρ,h=>⟨ρ,rfl,h⟩
 |o::r,ρ,h=>by
  simp only[List.map_cons,WN]at h;split at h
  ·rename_i out ho;obtain⟨ρ',h1,h2⟩:=bn h;exact⟨ρ',by simp only[aq,ho];exact h1,h2⟩
  ·exact h.elim
end
end Go.Proofs.Ytngaddcgmnonbaa
namespace Go.Proofs.Ytngaddcgmnonbaa
open Go.RowKit
theorem Bw{w0:Cx}{w:World}{N:Nat}{s s':AS}{a:Act}{E:En}(h:aD w0 N s a w E){i st t k:Nat}{es:List (List AC)}{ds:List (List DV)}(hi:s.own? i st=some (.arr st t k es))(hg:gH s s' es.flatten ds.flatten)
 (hl:ds.length=es.length) (hu:∀e∈ds,e.length=k) (hi':s'.own? i st=some (.arr st t k es)):∃E',aD w0 N {s' with ob:=upd s'.ob i (.row st t k ds true)} a w E':=by
 obtain⟨hin,hob,hlv⟩:=af hi;have hO:=h.obj i hin;rw[hob]at hO;obtain⟨g,vals,hst,e1,em,eo,hge,hmx,hB,hk,hun,hcs⟩:=hO;obtain⟨E1,f,G⟩:=hg.2.2.2.2 w0 N a w E vals h hcs;obtain⟨hin',hob',hlv'⟩:=af hi';have h':=G.rep;have hO':=h'.obj i hin';rw[hob']at hO';obtain⟨g',vals',hst',e1',em',eo',-⟩:=hO'
 have hg':g'=g:=by
  rw[G.v,e1]at e1';injection e1' with e;injection e with e;injection e with e;exact e.symm
 subst hg';have hlen:vals.length=ds.length*k:=by rw[G.own.rep.len,eI hu]
 refine⟨_,h'.change (i:=i) (n':=s'.n) (X:=.row st t k ds true) (v':=E1.v i) (m':=E1.m i) (o':=f) (A':=E1.A) (c':=s'.c) (Nat.le_refl _) (λj hj _=>hj) hin' h'.bel (Nat.le_refl _) (λ_ _ _=>rfl) (Nat.le_refl _)
  (.inl ⟨hin',by rw[hob'];rfl,rfl⟩) (λ_ hb=>hb) (λ_ hb=>.inl hb) (λb hb=>⟨h'.A_lt b hb,h'.A_m b hb i hin',λj hj _=>h'.A_m b hb j hj⟩) (λb hb=>⟨h'.m_lt i hin' b hb,λj hj hne=>h'.mm i j hin' hj (Ne.symm hne) b hb⟩) (λb hb=>⟨G.A b hb,λj hj _=>G.o b hb j hj⟩) ?_ (h'.mF i hin') (G.fr h)⟩
 rintro s2 rfl E' rfl hstay;refine⟨vals,hst',?_,hk,hu,by simp only[ab,e1',em'];rfl,?_⟩
 ·simp only[ab,e1',<-hl];rw[<-hl]at hmx;exact⟨hlen,.inr ⟨g',ds.length,vals.toArray,rfl,hge,hB,Nat.le_refl _,hmx,by simp[hlen],by rw[<-hlen];simp⟩⟩
 ·simp only[if_pos,ab];exact G.own
def fC(P:Program)(N:Nat)(o:Oper)(s:AS)(S':Sy)(K:List DV->Prop):Prop:=∃ρ' σ' s',dd P N o s s'/\aO S' ρ' σ' s'/\K ρ'
theorem aT{s:AS}{i st b:Nat}{o:Ob}(h:s.own? i st=some o)(hs:o.st=some b):b=st:=by
 obtain⟨q1,q2,q3⟩:=af h;unfold AS.lv at q3;rw[if_pos q1,q2,hs]at q3;injection q3
section
variable {P:Program}{N:Nat}{ρ ρ':List DV}{σ σ':List Nat}{S S':Sy}{s s':AS}{ps:List PO}{v:SV}{o:Oper}{K:List DV->Prop}{dl:List Nd}
theorem GV(h:R9 P S o.op=some (ps,v,S'))(hd:dB N o.dst=true)(hr:aO S ρ σ s)(hw:WN P (ps.map .po) K ρ):fC P N o s (S'.put o.dst v) K:=by
 obtain⟨ρ',he,hk⟩:=bn hw;obtain⟨x,x1,x2,x3⟩:=JR h he hr;exact⟨ρ',σ,_,(Ji x1).toO (eb hd),x3.put x2,hk⟩
theorem Bq{t:TypeId}{cs:List SC}{ys:List AC}(hst:eU P o s (.p false [.ptr s.n s.c 0]) [.var s.c t ys])(hd:dB N o.dst=true)(hr:aO S ρ σ s)(hc:cj ρ σ cs ys)(hk:K ρ):
 fC P N o s ((S.push (.var S.c t cs)).put o.dst (.p false [.ptr S.n S.c 0])) K:=
 ⟨ρ,σ++[s.c],_,hst.toO (eb hd),(hr.push (so:=.var S.c t cs) (ob:=.var s.c t ys) ⟨hr.last _,rfl,hc.mono (aN.refl _) (aN.app _ _)⟩).put ⟨rfl,⟨hr.n,hr.last _,rfl⟩,trivial⟩,hk⟩
def CH(P:Program)(S:Sy)(d:Option Nat)(t:TypeId):Option (List Nd×Sy):=
 match ci P t with
 |some vs=>(match sZ vs S.m with|some (p,cs)=>some (p.map .po,((S.bind p.length).push (.var S.c t cs)).put d (.p false [.ptr S.n S.c 0]))|none=>none)
 |none=>none
theorem C5{t:TypeId}(ho:o.op=.alloc t)(h:CH P S o.dst t=some (dl,S'))(hd:dB N o.dst=true)(hr:aO S ρ σ s)(hw:WN P dl K ρ):fC P N o s S' K:=by
 unfold CH at h;split at h
 ·rename_i vs hz;split at h
  ·rename_i p cs hs;injection h with h;injection h with e1 e2;subst e1 e2;obtain⟨ρ',he,hk⟩:=bn hw;obtain⟨acs,a1,a2,a3⟩:=Bp (σ:=σ) hs hr.m he;exact Bq (S:=S.bind p.length) (KE ho (by simp only[et,hz,a1])) hd (hr.more (ai he) a3) a2 hk
  ·cases h
 ·cases h
def N9(S:Sy)(d:Option Nat)(t:TypeId)(x:Operand):Option (List Nd×Sy):=
 match iO S x with
 |some (p,v,S1)=>(match s7 S1 v with|some cs=>some (p.map .po,(S1.push (.var S1.c t cs)).put d (.p false [.ptr S1.n S1.c 0]))|none=>none)
 |none=>none
theorem J4{t:TypeId}{x:Operand}(ho:o.op=.box t x)(h:N9 S o.dst t x=some (dl,S'))(hd:dB N o.dst=true)(hr:aO S ρ σ s)(hw:WN P dl K ρ):fC P N o s S' K:=by
 unfold N9 at h;split at h
 ·rename_i p v S1 hv;split at h
  ·rename_i cs hc;injection h with h;injection h with e1 e2;subst e1 e2;obtain⟨ρ',he,hk⟩:=bn hw;obtain⟨k1,k2⟩:=aQ hv he hr;obtain⟨ys,y1,y2⟩:=ii k2 hc k1;exact Bq (QH ho y1) hd k2 y2 hk
  ·cases h
 ·cases h
theorem cj.plug{off:Nat}{cs z:List SC}{ys zs:List AC}(h:cj ρ σ cs ys)(k:cj ρ σ z zs):cj ρ σ (plug off cs z) (Go.Proofs.Ytngaddcgmnonbaa.plug off ys zs):=by
 unfold Go.Proofs.Ytngaddcgmnonbaa.plug;rw[<-h.len];exact((k.take off).app h).app (k.drop _)
def A2(P:Program)(t:TypeId):List (Nat×Operand)->List SC->Sy->Option (List PO×List SC×Sy)
 |[],z,S=>some ([],z,S)
 |(i,x)::r,z,S=>match Hc P t i,iO S x with
  |some (off,k,_),some (p,v,S1)=>(match s7 S1 v with
   |some cs=>if cs.length=k/\off+k<=z.length then(match A2 P t r (plug off cs z) S1 with|some (q,z',S2)=>some (p++q,z',S2)|none=>none)else none
   |none=>none)
  |_,_=>none
theorem AY{t:TypeId}:∀{parts:List (Nat×Operand)} {z z':List SC} {S S':Sy} {ps:List PO} {ρ ρ':List DV} {zs:List AC},A2 P t parts z S=some (ps,z',S')->aq ps ρ=some ρ'->aO S ρ σ s->cj ρ σ z zs->
 ∃ys,gt P s t parts zs=some ys/\cj ρ' σ z' ys/\aO S' ρ' σ s
 |[],z,z',S,S',ps,ρ,ρ',zs,h,he,hr,hz=>by
  simp only[A2]at h;injection h with h;injection h with e1 h;injection h with e2 e3;subst e1 e2 e3;simp only[aq]at he;injection he with he;subst he
  exact⟨zs,rfl,hz,hr⟩
 |(i,x)::r,z,z',S,S',ps,ρ,ρ',zs,h,he,hr,hz=>by
  simp only[A2]at h;split at h
  ·rename_i off k ag p v S1 hf hv;split at h
   ·rename_i cs hc;split at h
    ·rename_i hl;split at h
     ·rename_i q z2 S2 hq;injection h with h;injection h with e1 h;injection h with e2 e3;subst e1 e2 e3;obtain⟨ρ1,a1,a2⟩:=ac he;obtain⟨k1,k2⟩:=aQ hv a1 hr;obtain⟨ys,y1,y2⟩:=ii k2 hc k1;have hz1:cj ρ1 σ z zs:=cj.mono (ai a1) (aN.refl _) hz;obtain⟨us,u1,u2,u3⟩:=AY hq a2 k2 (cj.plug (off:=off) y2 hz1);refine⟨us,?_,u2,u3⟩;simp only[gt,hf,y1];rw[if_pos (by rw[<-y2.len,<-hz1.len];exact hl)];exact u1
     ·cases h
    ·cases h
   ·cases h
  ·cases h
def xq(P:Program)(S:Sy)(t:TypeId)(parts:List (Nat×Operand)):Option (List PO×List SC×Sy):=
 if N4 P t then(match ci P t with
  |some vs=>(match sZ vs S.m with|some (p,z)=>(match A2 P t parts z (S.bind p.length)with|some (q,cs,S2)=>some (p++q,cs,S2)|none=>none)|none=>none)
  |none=>none)else none
theorem y6{t:TypeId}{parts:List (Nat×Operand)}{cs:List SC}(h:xq P S t parts=some (ps,cs,S'))(he:aq ps ρ=some ρ')(hr:aO S ρ σ s):N4 P t=true/\∃z ys,et P t=some z/\gt P s t parts z=some ys/\cj ρ' σ cs ys/\aO S' ρ' σ s:=by
 unfold xq at h;split at h
 ·rename_i ht;split at h
  ·rename_i vs hz;split at h
   ·rename_i p z hs;split at h
    ·rename_i q cs' S2 hf;injection h with h;injection h with e1 h;injection h with e2 e3;subst e1 e2 e3;obtain⟨ρ1,a1,a2⟩:=ac he;obtain⟨acs,b1,b2,b3⟩:=Bp (σ:=σ) hs hr.m a1;obtain⟨ys,y1,y2,y3⟩:=AY hf a2 (hr.more (ai a1) b3) b2;exact⟨ht,acs,ys,by simp only[et,hz,b1],y1,y2,y3⟩
    ·cases h
   ·cases h
  ·cases h
 ·cases h
theorem Db{t:TypeId}{parts:Array (Nat×Operand)}{cs:List SC}(ho:o.op=.build t parts)(h:xq P S t parts.toList=some (ps,cs,S'))(hd:dB N o.dst=true)(hr:aO S ρ σ s)(hw:WN P (ps.map .po) K ρ):
 fC P N o s (S'.put o.dst (.p true cs)) K:=by
 obtain⟨ρ',he,hk⟩:=bn hw;obtain⟨ht,z,ys,z1,z2,z3,z4⟩:=y6 h he hr;exact⟨ρ',σ,_,(Fh ho ht z1 z2).toO (eb hd),z4.put ⟨rfl,z3⟩,hk⟩
theorem Ah.flat:∀{xs:List (List SC)} {ys:List (List AC)},Ah ρ σ xs ys->cj ρ σ xs.flatten ys.flatten
 |[],[],_=>trivial
 |x::xs,y::ys,k=>by simp only[List.flatten_cons];exact k.1.app k.2.flat
 |[],_::_,k=>k.elim
 |_::_,[],k=>k.elim
def NA(k:Nat):List (Nat×Operand)->Nat->Sy->Option (List PO×List (List SC)×Sy)
 |[],_,S=>some ([],[],S)
 |(i,x)::r,j,S=>match iO S x with
  |some (p,v,S1)=>(match s7 S1 v with
   |some cs=>if i=j/\cs.length=k then(match NA k r (j+1) S1 with|some (q,es,S2)=>some (p++q,cs::es,S2)|none=>none)else none
   |none=>none)
  |none=>none
theorem ng{k:Nat}:∀{parts:List (Nat×Operand)} {j:Nat} {es:List (List SC)} {S S':Sy} {ps:List PO} {ρ ρ':List DV},NA k parts j S=some (ps,es,S')->aq ps ρ=some ρ'->aO S ρ σ s->
 ∃ys,ut s k parts j=some ys/\Ah ρ' σ es ys/\aO S' ρ' σ s
 |[],j,es,S,S',ps,ρ,ρ',h,he,hr=>by
  simp only[NA]at h;injection h with h;injection h with e1 h;injection h with e2 e3;subst e1 e2 e3;simp only[aq]at he;injection he with he;subst he
  exact⟨[],rfl,trivial,hr⟩
 |(i,x)::r,j,es,S,S',ps,ρ,ρ',h,he,hr=>by
  simp only[NA]at h;split at h
  ·rename_i p v S1 hv;split at h
   ·rename_i cs hc;split at h
    ·rename_i hl;split at h
     ·rename_i q es' S2 hq;injection h with h;injection h with e1 h;injection h with e2 e3;subst e1 e2 e3;obtain⟨ρ1,a1,a2⟩:=ac he;obtain⟨k1,k2⟩:=aQ hv a1 hr;obtain⟨ys,y1,y2⟩:=ii k2 hc k1;obtain⟨us,u1,u2,u3⟩:=ng hq a2 k2;refine⟨ys::us,?_,⟨cj.mono (ai a2) (aN.refl _) y2,u2⟩,u3⟩;simp only[ut,y1,u1];rw[if_pos (by rw[<-y2.len];exact hl)]
     ·cases h
    ·cases h
   ·cases h
  ·cases h
def ym(k:Nat):Nat->List Nat->List (List Nat)
 |0,_=>[]
 |n+1,l=>l.take k::ym k n (l.drop k)
theorem ry{k:Nat}:∀{n:Nat} {xs:List Nat} {ds:List DV},RD ρ xs ds->xs.length=n*k->∃es,AH ρ (ym k n xs)=some es/\es.flatten=ds/\es.length=n/\∀e∈es,e.length=k
 |0,xs,ds,h,hl=>by
  have:xs=[]:=List.length_eq_zero_iff.1 (by simpa using hl);subst this
  cases ds with
  |nil=>exact⟨[],rfl,rfl,rfl,by simp⟩
  |cons=>exact h.elim
 |n+1,xs,ds,h,hl=>by
  have h1:RD ρ (xs.take k) (ds.take k):=RD.take k h;obtain⟨es,e1,e2,e3,e4⟩:=ry (k:=k) (n:=n) (h.drop k) (by rw[List.length_drop,hl,Nat.add_mul];omega);refine⟨ds.take k::es,by simp only[ym,AH,wi h1,e1],by simp[e2],by simp[e3],?_⟩;intro e he;rcases List.mem_cons.1 he with rfl|he
  ·rw[List.length_take,<-h.len,hl,Nat.add_mul];omega
  ·exact e4 e he
def gO(P:Program):Nat->TypeId->List (Option (Nat×Nat))
 |0,_=>[]
 |f+1,t=>match P.underlying t with
  |some (.struct fs)=>fs.toList.flatMap λfd=>gO P f fd.type
  |some (.slice e)=>[(lw P e).map λk=>(e,k)]
  |some _=>[none]
  |none=>[]
def NC(P:Program)(S:Sy)(d:Option Nat)(t:TypeId)(len:Nat)(parts:List (Nat×Operand)):Option (List Nd×Sy):=
 match fh P t with
 |some (el,k)=>if(ci P el).isSome=true/\0<k/\parts.length=len/\len*k<=16777216 then(match NA k parts 0 S with
  |some (p,es,S1)=>(match cK es.flatten ((List.replicate len (gO P 9 el)).flatten) ((S1.push .dead).put d (.p false [.own S1.n S1.c]))with
   |some (q,xs,S2)=>if xs.length=len*k then some ((p++(q++[PO.mk el k (ym k len xs)])).map .po,{ (S2.bind 1)with ob:=(S1.n,.row S1.c el k S2.m)::S2.ob})else none
   |none=>none)
  |none=>none)else none
 |none=>none
theorem Ah.len:∀{xs:List (List SC)} {ys:List (List AC)},Ah ρ σ xs ys->xs.length=ys.length
 |[],[],_=>rfl
 |x::xs,y::ys,k=>by simp[Ah.len k.2]
 |[],_::_,k=>k.elim
 |_::_,[],k=>k.elim
theorem zv{el k:Nat}{rows:List (List Nat)}{es:List (List DV)}(h:AH ρ rows=some es)(hu:∀e∈es,e.length=k):av ρ (.mk el k rows)=some [.sl el k es]:=by
 simp only[av,h];rw[if_pos];rw[List.all_eq_true];intro e he;simpa using hu e he
theorem IP{t:TypeId}{len:Nat}{parts:Array (Nat×Operand)}(ho:o.op=.buildSlice t len parts)(h:NC P S o.dst t len parts.toList=some (dl,S'))(hd:dB N o.dst=true)(hr:aO S ρ σ s)(hw:WN P dl K ρ):fC P N o s S' K:=by
 unfold NC at h;split at h
 ·rename_i el k ht;split at h
  ·rename_i hcnd;obtain⟨hz,hk,hl,hs⟩:=hcnd;split at h
   ·rename_i p es S1 hb;split at h
    ·rename_i q xs S2 hg;split at h
     ·rename_i hxl;injection h with h;injection h with e1 e2;subst e1 e2;obtain⟨ρ',he,hK⟩:=bn hw;obtain⟨ρ1,a1,a2⟩:=ac he;obtain⟨ρ2,b1,b2⟩:=ac a2;obtain⟨ys,y1,y2,y3⟩:=ng hb a1 hr;have hyl:ys.length=len:=by rw[(rS y1).1,hl]
      have hst:=(zC (s:=s) ho ht hz hk hl hs y1).toO (N:=N) (eb hd)
      have hp:aO ((S1.push .dead).put o.dst (.p false [.own S1.n S1.c])) ρ1 (σ++[s.c]) ((s.push (.arr s.c el k ys)).put o.dst (.p false [.own s.n s.c])):=
       (y3.push (so:=.dead) (ob:=.arr s.c el k ys) trivial).put ⟨rfl,⟨y3.n,y3.last _⟩,trivial⟩
      obtain⟨s2,ds,g1,g2,g3,g4⟩:=eh hg b1 hp (cj.mono (aN.refl _) (aN.app _ _) y2.flat);obtain⟨ee,c1,c2,c3,c4⟩:=ry (n:=len) g2 hxl
      have hnone:∀st,Sy.own ((S1.push .dead).put o.dst (.p false [.own S1.n S1.c])) S1.n st=none:=by
       intro st
       have:aG ((S1.push .dead).put o.dst (.p false [.own S1.n S1.c])).ob S1.n=some .dead:=by
        cases o.dst<;>simp[Sy.put,Sy.push,aG]
       unfold Sy.own;rw[this];simp[SO.st]
      have hn1:((s.push (.arr s.c el k ys)).put o.dst (.p false [.own s.n s.c])).n=s.n+1:=by rw[AS.put_n];rfl
      have hob1:((s.push (.arr s.c el k ys)).put o.dst (.p false [.own s.n s.c])).ob s.n=.arr s.c el k ys:=by rw[AS.put_ob];simp[AS.push,ab]
      have hob2:s2.ob s.n=.arr s.c el k ys:=by
       have:=g4 S1.n (λst a t k x=>by rw[hnone st];exact⟨nofun,nofun⟩);rw[<-y3.n]at this;rw[this];exact hob1
      have hn2:s2.n=s.n+1:=by rw[g1.1,hn1]
      have hown1:((s.push (.arr s.c el k ys)).put o.dst (.p false [.own s.n s.c])).own? s.n s.c=some (.arr s.c el k ys):=by
       unfold AS.own?;rw[hn1,if_pos (Nat.lt_succ_self _),hob1];simp[Ob.st]
      have hown2:s2.own? s.n s.c=some (.arr s.c el k ys):=by
       unfold AS.own?;rw[hn2,if_pos (Nat.lt_succ_self _),hob2];simp[Ob.st]
      have hre:Re ((s.push (.arr s.c el k ys)).put o.dst (.p false [.own s.n s.c])) {s2 with ob:=upd s2.ob s.n (.row s.c el k ee true)}:=λw0 N a w E hR=>
       Bw hR hown1 (by rw[c2];exact g1) (by rw[c3,hyl]) c4 hown2
      obtain⟨out,o1,rfl⟩:=au b2;rw[zv c1 c4]at o1;injection o1 with o1;subst o1;refine⟨_,σ++[s.c],_,hst.re hre,?_,hK⟩;have hb2:=g3.bind (out:=[DV.sl el k ee]) (k:=1) rfl;refine hb2.upd (s':={s2 with ob:=upd s2.ob s.n (.row s.c el k ee true)}) (i:=S1.n) (n':=(S2.bind 1).n) (c':=(S2.bind 1).c) (so:=.row S1.c el k S2.m) (aN.refl _) hb2.c hb2.n (Nat.le_refl _) ?_ rfl (λj hj=>?_) ?_
      ·rw[<-hb2.n,hn2,y3.n];exact Nat.lt_succ_self _
      ·simp only;rw[az _ _ (by rw[y3.n];exact hj)]
      ·simp only[y3.n,ab];exact⟨y3.last _,rfl,rfl,rfl,by rw[<-g3.m];simp⟩
     ·cases h
    ·cases h
   ·cases h
  ·cases h
 ·cases h
def Cw(P:Program)(S:Sy)(t:TypeId)(x y:Operand):Option (List Nd×Sy):=
 match iO S x with
 |some (p,v,S1)=>(match iO S1 y with
  |some (q,u,S2)=>(match one v,s7 S2 u with
   |some (.ptr i st off),some xs=>(match S2.own i st with
    |some (.var a t' cs)=>if lw P t=some xs.length/\off+xs.length<=cs.length then some ((p++q).map .po,{S2 with ob:=(i,.var a t' (plug off xs cs))::S2.ob})else none
    |some (.pvr a t' cs)=>if lw P t=some xs.length/\off+xs.length<=cs.length then some ((p++q).map .po,{S2 with ob:=(i,.pvr a t' (plug off xs cs))::S2.ob})else none
    |some (.cur a id t' z)=>(match zo u with
     |some j=>if lw P t=some 1/\0<off then some ((p++(q++[PO.cuS z off j])).map .po,{ (S2.bind 1)with ob:=(i,.cur a id t' S2.m)::S2.ob})else none
     |none=>none)
    |_=>none)
   |some (.elt i st k j off),some xs=>(match S2.own i st,cK xs (gO P 9 t) S2 with
    |some (.row a t' k' z),some (r,vs,S3)=>(match S3.own i st with
     |some (.row a3 t3 k3 z3)=>if k'=k/\lw P t=some xs.length/\off+xs.length<=k/\a3=a/\t3=t'/\k3=k/\z3=z then
      some ((p++(q++(r++[PO.set k z j off vs]))).map .po,{ (S3.bind 1)with ob:=(i,.row a t' k S3.m)::S3.ob})else none
     |_=>none)
    |_,_=>none)
   |_,_=>none)
  |none=>none)
 |none=>none
theorem DT{t:TypeId}{x y:Operand}(ho:o.op=.store t x y)(hdn:o.dst=none)(h:Cw P S t x y=some (dl,S'))(hr:aO S ρ σ s)(hw:WN P dl K ρ):fC P N o s S' K:=by
 unfold Cw at h;split at h
 ·rename_i p v S1 hv;split at h
  ·rename_i q u S2 hu;split at h
   ·rename_i i st off xs hone hcs;split at h
    ·rename_i a t' cs hown;split at h
     ·rename_i hl;injection h with h;injection h with e1 e2;subst e1 e2;obtain⟨ρ',he,hK⟩:=bn hw;obtain⟨ρ1,a1,a2⟩:=ac he;obtain⟨k1,k2⟩:=aQ hv a1 hr;obtain⟨m1,m2⟩:=aQ hu a2 k2;obtain⟨ys,y1,y2⟩:=ii m2 hcs m1;obtain⟨z,z1,z2⟩:=bg hone (k1.mono (ai a2) (aN.refl _));cases z<;>first|exact z2.elim|skip
      rename_i i' st' off';obtain⟨rfl,hst,rfl⟩:=z2;obtain⟨o',n1,n2,n3,n4⟩:=m2.own hown hst;cases o'<;>first|exact n2.elim|skip
      rename_i b ty cs';obtain⟨n5,rfl,n6⟩:=n2;obtain rfl:=aT n1 rfl;refine⟨ρ',σ,_,NL ho hdn z1 n1 y1 (by rw[<-y2.len];exact hl.1) (by rw[<-y2.len,<-n6.len];exact hl.2),?_,hK⟩
      exact m2.upd (s':={s with ob:=upd s.ob i' (.var b ty (plug off' ys cs'))}) (i:=i') (n':=S2.n) (c':=S2.c) (so:=.var a ty (plug off' xs cs)) (aN.refl _) m2.c m2.n (Nat.le_refl _) n4 rfl (λj hj=>az _ _ hj)
       (by simp only[ab];exact⟨n5,rfl,cj.plug y2 n6⟩)
     ·cases h
    ·rename_i a t' cs hown;split at h
     ·rename_i hl;injection h with h;injection h with e1 e2;subst e1 e2;obtain⟨ρ',he,hK⟩:=bn hw;obtain⟨ρ1,a1,a2⟩:=ac he;obtain⟨k1,k2⟩:=aQ hv a1 hr;obtain⟨m1,m2⟩:=aQ hu a2 k2;obtain⟨ys,y1,y2⟩:=ii m2 hcs m1;obtain⟨z,z1,z2⟩:=bg hone (k1.mono (ai a2) (aN.refl _));cases z<;>first|exact z2.elim|skip
      rename_i i' st' off';obtain⟨rfl,hst,rfl⟩:=z2;obtain⟨o',n1,n2,n3,n4⟩:=m2.own hown hst;cases o'<;>first|exact n2.elim|skip
      rename_i b ty cs';obtain⟨n5,rfl,n6⟩:=n2;obtain rfl:=aT n1 rfl;refine⟨ρ',σ,_,PD ho hdn z1 n1 y1 (by rw[<-y2.len];exact hl.1) (by rw[<-y2.len,<-n6.len];exact hl.2),?_,hK⟩
      exact m2.upd (s':={s with ob:=upd s.ob i' (.pvr b ty (plug off' ys cs'))}) (i:=i') (n':=S2.n) (c':=S2.c) (so:=.pvr a ty (plug off' xs cs)) (aN.refl _) m2.c m2.n (Nat.le_refl _) n4 rfl (λj hj=>az _ _ hj)
       (by simp only[ab];exact⟨n5,rfl,cj.plug y2 n6⟩)
     ·cases h
    ·rename_i a id t' z hown;split at h
     ·rename_i j hj;split at h
      ·rename_i hl;injection h with h;injection h with e1 e2;subst e1 e2;obtain⟨ρ',he,hK⟩:=bn hw;obtain⟨ρ1,a1,a2⟩:=ac he;obtain⟨ρ2,b1,b2⟩:=ac a2;obtain⟨k1,k2⟩:=aQ hv a1 hr;obtain⟨m1,m2⟩:=aQ hu b1 k2;obtain⟨zz,z1,z2⟩:=bg hone (k1.mono (ai b1) (aN.refl _));cases zz<;>first|exact z2.elim|skip
       rename_i i' st' off';obtain⟨rfl,hst,rfl⟩:=z2;obtain⟨yv,y1,y2⟩:=cS hj m1;obtain⟨o',n1,n2,n3,n4⟩:=m2.own hown hst;cases o'<;>first|exact n2.elim|skip
       rename_i b id' ty x0 cs0;obtain⟨n5,rfl,rfl,hz⟩:=n2;obtain rfl:=aT n1 rfl;obtain⟨out,o1,rfl⟩:=au b2;simp only[av,hz,y2,ky]at o1
       cases yv with
       |sl=>simp at o1
       |sc uu=>
        simp only at o1;split at o1
        ·rename_i hc;obtain⟨hc1,hc2,hc3⟩:=hc;injection o1 with o1;subst o1;obtain⟨q,rfl⟩:=Nat.exists_eq_succ_of_ne_zero (Nat.pos_iff_ne_zero.1 hc2);have hc3:q<cs0.length:=hc3;refine⟨_,σ,_,Nx ho hdn z1 n1 y1 hl.1 hc3,?_,hK⟩;have hb3:=m2.bind (out:=[DV.sl ty 0 [[x0],cs0.set q (.sc uu)]]) (k:=1) rfl
         exact hb3.upd (s':={s with ob:=upd s.ob i' (.cur b id' ty x0 (cs0.set q (.sc uu)))}) (i:=i') (n':=(S2.bind 1).n) (c':=(S2.bind 1).c) (so:=.cur a id' ty S2.m) (aN.refl _) hb3.c hb3.n (Nat.le_refl _) n4 rfl (λj hj=>az _ _ hj)
          (by simp only[ab];exact⟨n5,rfl,rfl,by rw[<-m2.m];simp[ky]⟩)
        ·cases o1
      ·cases h
     ·cases h
    ·cases h
   ·rename_i i st k j off xs hone hcs;split at h
    ·rename_i a t' k' z r vs S3 hown hgv;split at h
     ·rename_i a3 t3 k3 z3 hown3;split at h
      ·rename_i hl;obtain⟨rfl,hl1,hl2,rfl,rfl,rfl,rfl⟩:=hl;injection h with h;injection h with e1 e2;subst e1 e2;obtain⟨ρ',he,hK⟩:=bn hw;obtain⟨ρ1,a1,a2⟩:=ac he;obtain⟨ρ2,b1,b2⟩:=ac a2;obtain⟨ρ3,c1,c2⟩:=ac b2;obtain⟨k1,k2⟩:=aQ hv a1 hr;obtain⟨m1,m2⟩:=aQ hu b1 k2;obtain⟨ys,y1,y2⟩:=ii m2 hcs m1;obtain⟨zz,z1,z2⟩:=bg hone (k1.mono (ai b1) (aN.refl _));cases zz<;>first|exact z2.elim|skip
       rename_i i' st' kk' j' off';obtain⟨rfl,hst,rfl,⟨kd,zi,hz1,hz2,rfl⟩,rfl⟩:=z2;obtain⟨s2,ds,g1,g2,g3,g4⟩:=eh hgv c1 m2 y2;obtain⟨o',n1,n2,n3,n4⟩:=m2.own hown hst;cases o'<;>first|exact n2.elim|skip
       rename_i b ty kr es dp;obtain⟨n5,rfl,rfl,rfl,n6⟩:=n2;obtain rfl:=aT n1 rfl;obtain⟨o3,q1,q2,q3,q4⟩:=g3.own hown3 hst;cases o3<;>first|exact q2.elim|skip
       rename_i b3 ty3 kr3 es3 dp3;obtain⟨q5,rfl,rfl,rfl,q6⟩:=q2;obtain rfl:=aT q1 rfl;have hp3:=ai c1;rw[hp3.get n6]at q6;injection q6 with q6;injection q6 with _ _ q6;subst q6;obtain⟨out,o1,rfl⟩:=au c2;simp only[av,hp3.get n6,hp3.get hz1,wi g2]at o1;split at o1
       ·rename_i hcn;split at o1
        ·rename_i e hee;injection o1 with o1;subst o1
         have hdl:ds.length=xs.length:=by
          have h1:=g2.len;have h2:vs.length=xs.length:=GK hgv;omega
         refine⟨_,σ,_,OF ho hdn z1 n1 hee y1 (by rw[<-y2.len];exact hl1) (by rw[<-y2.len];exact hl2) g1 q1,?_,hK⟩;have hb3:=g3.bind (out:=[DV.sl ty3 kr3 (es.set zi.toNat (plug off' ds e))]) (k:=1) rfl
         exact hb3.upd (s':={s2 with ob:=upd s2.ob i' (.row b3 ty3 kr3 (es.set zi.toNat (plug off' ds e)) true)}) (i:=i') (n':=(S3.bind 1).n) (c':=(S3.bind 1).c) (so:=.row a3 ty3 kr3 S3.m) (aN.refl _) hb3.c hb3.n (Nat.le_refl _) q4 rfl (λj hj=>az _ _ hj)
          (by simp only[ab];exact⟨q5,rfl,rfl,rfl,by rw[<-g3.m];simp⟩)
        ·cases o1
       ·cases o1
      ·cases h
     ·cases h
    ·cases h
   ·cases h
  ·cases h
 ·cases h
end
end Go.Proofs.Ytngaddcgmnonbaa
namespace Go.Proofs.Ytngaddcgmnonbaa
open Go.RowKit
section
variable {P:Program}{N:Nat}{ρ ρ':List DV}{σ σ':List Nat}{S S':Sy}{s s':AS}{ps:List PO}{v:SV}{o:Oper}{K:List DV->Prop}{dl:List Nd}
def Iw(P:Program)(el:TypeId):Bool:=(gO P 9 el).all (·.isNone)
def PQ(P:Program)(S:Sy)(el k:Nat):SC->Option (List PO×Nat×Sy)
 |.d y=>some ([.flat y],y,S)
 |.nil=>some ([.e el k],S.m,S.bind 1)
 |.own j st=>match S.own j st with
  |some (.row _ _ _ y)=>if Iw P el then some ([.flat y],y,S)else some ([],y,{S with ob:=(j,.dead)::S.ob})
  |some (.frz _ y)=>some ([.flat y],y,S)
  |_=>none
 |.emp=>some ([.e el k],S.m,S.bind 1)
 |.sub j st k0 z m=>match S.own j st with
  |some (.row _ _ k2 x)=>if k2=k0 then some ([.viewD x z m,.flat S.m],S.m,S.bind 1)else none
  |_=>none
 |_=>none
theorem tU{x z m:Nat}(he:aq [.viewD x z m] ρ=some ρ'):∃t k es u v,ρ[x]? =some (.sl t k es)/\ρ[z]? =some (.sc (.int .i64 u))/\ρ[m]? =some (.sc (.int .i64 v))/\ρ'=ρ++[.sl t k ((es.drop u.toNat).take v.toNat)]:=by
 obtain⟨out,o1,rfl⟩:=au he;simp only[av]at o1;split at o1
 ·rename_i t k es u v h1 h2 h3;injection o1 with o1;subst o1;exact⟨t,k,es,u,v,h1,h2,h3,rfl⟩
 ·cases o1
theorem J6{j st k2 x z m a tt t:Nat}{kk:Nat}{yc:AC}{es:List (List DV)}{u v:Int}(hr:aO S ρ σ s)(hc:RC ρ σ (.sub j st k2 z m) yc)(ho:S.ownR j st=some (.row a tt k2 x))(hx:ρ[x]? =some (.sl t kk es))(hz:ρ[z]? =some (.sc (.int .i64 u)))(hm:ρ[m]? =some (.sc (.int .i64 v))):
 xW s yc (.sl t kk ((es.drop u.toNat).take v.toNat)):=by
 cases yc<;>first|exact hc.elim|skip
 rename_i j' st' k' lo n;obtain⟨rfl,hst,rfl,⟨u',e1,e2,rfl⟩,⟨v',e3,e4,rfl⟩⟩:=hc;rw[hz]at e1;injection e1 with e1;injection e1 with e1;injection e1 with _ e1;subst e1;rw[hm]at e3;injection e3 with e3;injection e3 with e3;injection e3 with _ e3;subst e3;obtain⟨o',n1,n2,n3,n4⟩:=hr.ownR ho hst;cases o'<;>first|exact n2.elim|skip
 rename_i b ty kr es' dp;obtain⟨n5,rfl,rfl,-,n6⟩:=n2;obtain rfl:=aT n1 rfl;rw[hx]at n6;injection n6 with n6;injection n6 with g1 g2 g3;subst g1 g2 g3;refine⟨by rw[hr.n];exact n4,?_⟩;rw[n3];exact⟨rfl,rfl,rfl⟩
theorem ig{y:Nat}(he:aq [.flat y] ρ=some ρ'):ρ'=ρ/\∀t k es,ρ[y]? =some (.sl t k es)->jl es.flatten:=by
 obtain⟨out,o1,rfl⟩:=au he;simp only[av]at o1;split at o1
 ·rename_i t k es hy;split at o1
  ·rename_i hf;injection o1 with o1;subst o1;refine⟨by simp,λt' k' es' hy'=>?_⟩;rw[hy]at hy';injection hy' with hy';injection hy' with _ _ hy';subst hy';intro d hd;exact nR (List.all_eq_true.1 hf d hd)
  ·cases o1
 ·cases o1
theorem An{el k y t':Nat}{c:SC}{yc:AC}{es:List (List DV)}(h:PQ P S el k c=some (ps,y,S'))(he:aq ps ρ=some ρ')(hr:aO S ρ σ s)(hc:RC ρ σ c yc)(hy:ρ'[y]? =some (.sl t' k es)):
 ∃s',P5 s s' k yc es/\aO S' ρ' σ s':=by
 unfold PQ at h;split at h
 ·injection h with h;injection h with e1 h;injection h with e2 e3;subst e1 e2 e3;obtain⟨rfl,hf⟩:=ig he;obtain⟨x,rfl,hx⟩:=nk hc;rw[hy]at hx;injection hx with hx;subst hx;exact⟨s,kE (t:=t') rfl (hf _ _ _ hy),hr⟩
 ·injection h with h;injection h with e1 h;injection h with e2 e3;subst e1 e2 e3;cases yc<;>first|exact hc.elim|skip
  obtain⟨out,o1,rfl⟩:=au he;simp only[av]at o1;injection o1 with o1;subst o1;rw[<-hr.m]at hy;simp at hy;obtain⟨rfl,rfl⟩:=hy;exact⟨s,kE (t:=el) ⟨el,k,rfl⟩ (by intro d hd;simp at hd),hr.bind rfl⟩
 ·rename_i j st;cases yc<;>first|exact hc.elim|skip
  rename_i j' st';obtain⟨rfl,hst⟩:=hc;split at h
  ·rename_i a tt kk y' ho;obtain⟨o',n1,n2,n3,n4⟩:=hr.own ho hst;cases o'<;>first|exact n2.elim|skip
   rename_i b ty kr es' dp;obtain⟨n5,rfl,rfl,rfl,n6⟩:=n2;obtain rfl:=aT n1 rfl;split at h
   ·injection h with h;injection h with e1 h;injection h with e2 e3;subst e1 e2 e3;obtain⟨rfl,hf⟩:=ig he;rw[n6]at hy;injection hy with hy;injection hy with y1 y2 y3;subst y1 y2 y3;refine⟨s,kE (t:=ty) ?_ (hf _ _ _ n6),hr⟩;refine⟨by rw[hr.n];exact n4,?_⟩;rw[n3];exact⟨rfl,rfl⟩
   ·injection h with h;injection h with e1 h;injection h with e2 e3;subst e1 e2 e3;simp only[aq]at he;injection he with he;subst he;rw[n6]at hy;injection hy with hy;injection hy with y1 y2 y3;subst y1 y2 y3;refine⟨s.kill j',Mn n1,?_⟩;exact hr.upd (s':=s.kill j') (i:=j') (n':=S.n) (c':=S.c) (so:=.dead) (aN.refl _) hr.c hr.n (Nat.le_refl _) n4 rfl (λi hi=>by simp only[AS.kill,az _ _ hi]) trivial
  ·rename_i a y' ho;injection h with h;injection h with e1 h;injection h with e2 e3;subst e1 e2 e3;obtain⟨rfl,hf⟩:=ig he;obtain⟨o',n1,n2,n3,n4⟩:=hr.own ho hst;cases o'<;>first|exact n2.elim|skip
   rename_i b yy;obtain⟨n5,n6⟩:=n2;obtain rfl:=aT n1 rfl;rw[n6]at hy;injection hy with hy;subst hy;refine⟨s,kE (t:=t') ?_ (hf _ _ _ n6),hr⟩;refine⟨by rw[hr.n];exact n4,?_⟩;rw[n3];exact⟨rfl,rfl⟩
  ·cases h
 ·injection h with h;injection h with e1 h;injection h with e2 e3;subst e1 e2 e3;cases yc<;>first|exact hc.elim|skip
  obtain⟨out,o1,rfl⟩:=au he;simp only[av]at o1;injection o1 with o1;subst o1;rw[<-hr.m]at hy;simp at hy;obtain⟨rfl,rfl⟩:=hy;exact⟨s,kE (t:=el) ⟨el,k,rfl⟩ (by intro d hd;simp at hd),hr.bind rfl⟩
 ·rename_i j st k0 z m;split at h
  ·rename_i a tt k2 x ho;split at h
   ·rename_i hk;subst hk;injection h with h;injection h with e1 h;injection h with e2 e3;subst e1 e2 e3;obtain⟨ρ1,a1,a2⟩:=ac (ps:=[.viewD x z m]) (qs:=[.flat S.m]) he;obtain⟨t,kk,es0,u,v,h1,h2,h3,rfl⟩:=tU a1;obtain⟨rfl,hf⟩:=ig a2;have hy':=hy;rw[<-hr.m]at hy';simp at hy';obtain⟨rfl,rfl,rfl⟩:=hy';exact⟨s,kE (J6 hr hc (by unfold Sy.ownR;rw[ho];rfl) h1 h2 h3) (hf _ _ _ hy),hr.bind rfl⟩
   ·cases h
  ·cases h
 ·cases h
def yE(P:Program)(d:Option Nat)(el k b i st x:Nat)(cy:SC)(pre:List PO)(S:Sy):Option (List Nd×Sy):=
 match PQ P S el k cy with
 |some (q,y,S1)=>(match S1.own i st with
  |some (.row _ t' k' x')=>if t'=el/\k'=k/\x'=x then
   some ((pre++(q++[PO.app el k b x y])).map .po,{ (S1.bind 1)with ob:=(i,.row S1.c el k S1.m)::S1.ob,c:=S1.c+1}.put d (.p false [.own i S1.c]))else none
  |_=>none)
 |none=>none
def Px(P:Program)(S:Sy)(d:Option Nat)(X Y:Operand)(t:TypeId):Option (List Nd×Sy):=
 match fh P t with
 |some (el,k)=>(match ci P el,Cs P el with
  |some zs,some b=>if zs.length=k/\0<k then(match iO S Y with
   |some (q,u,S1)=>(match iO S1 X with
    |some (p,v,S2)=>(match one v,one u with
     |some .nil,some cy=>yE P d el k b S2.n S2.c S2.m cy (q++(p++[PO.e el k])) ((S2.bind 1).push (.row S2.c el k S2.m))
     |some (.own i st),some cy=>(match S2.own i st with|some (.row _ _ _ x)=>yE P d el k b i st x cy (q++p) S2|_=>none)
     |some (.sub i st _ z m),some cy=>(match S2.own i st with|some (.row _ t' k' x)=>if t'=el/\k'=k then yE P d el k b i S2.c S2.m cy (q++(p++[PO.cutP x z m])) { (S2.bind 1)with ob:=(i,.row S2.c el k S2.m)::S2.ob,c:=S2.c+1}else none|_=>none)
     |_,_=>none)
    |none=>none)
   |none=>none)else none
  |_,_=>none)
 |none=>none
theorem kF{el k b x y:Nat}(he:aq [.app el k b x y] ρ=some ρ'):∃es fs t',ρ[x]? =some (.sl el k es)/\ρ[y]? =some (.sl t' k fs)/\es.length+fs.length<=9223372036854775807/\(es.length+fs.length)*b<=140737488355328/\ρ'=ρ++[.sl el k (es++fs)]:=by
 obtain⟨out,o1,rfl⟩:=au he;simp only[av]at o1;split at o1
 ·rename_i t1 k1 es t2 k2 fs h1 h2;split at o1
  ·rename_i hc;obtain⟨rfl,rfl,rfl,hc1,hc2⟩:=hc;injection o1 with o1;subst o1;exact⟨es,fs,t2,h1,h2,hc1,hc2,rfl⟩
  ·cases o1
 ·cases o1
theorem JE{X Y:Operand}{t:TypeId}(ho:o.op=.call ⟨.builtin .append,#[X,Y],#[t,t]⟩)(h:Px P S o.dst X Y t=some (dl,S'))(hd:dB N o.dst=true)(hr:aO S ρ σ s)(hw:WN P dl K ρ):fC P N o s S' K:=by
 unfold Px at h;split at h
 ·rename_i el k ht;split at h
  ·rename_i zs b hz hby
   split at h
   ·rename_i hzk;split at h
    ·rename_i q u S1 hu;split at h
     ·rename_i p v S2 hv;split at h
      ·rename_i cy hone hcy;unfold yE at h;split at h
       ·rename_i qq y S3 hsrc;split at h
        ·rename_i a3 t3 k3 x3 hown;split at h
         ·rename_i hx;obtain⟨rfl,rfl,rfl⟩:=hx;injection h with h;injection h with e1 e2;subst e1 e2;obtain⟨ρ',he,hK⟩:=bn hw;obtain⟨ρ2,a1,a2⟩:=ac he;obtain⟨ρ3,b1,b2⟩:=ac a2;obtain⟨ρ0,c1,c2⟩:=ac a1;obtain⟨ρ1,d1,d2⟩:=ac c2;obtain⟨k1,k2⟩:=aQ hu c1 hr;obtain⟨m1,m2⟩:=aQ hv d1 k2;obtain⟨out,o1,rfl⟩:=au d2;simp only[av]at o1;injection o1 with o1;subst o1;obtain⟨cx,x1,x2⟩:=bg hone m1;cases cx<;>first|exact x2.elim|skip
          obtain⟨cY,y1,y2⟩:=bg hcy k1
          have hps:aO ((S2.bind 1).push (.row S2.c t3 k3 S2.m)) (ρ1++[.sl t3 k3 []]) (σ++[s.c]) (s.push (.row s.c t3 k3 [] true)):=
           (m2.bind (out:=[DV.sl t3 k3 []]) (k:=1) rfl).push (so:=.row S2.c t3 k3 S2.m) (ob:=.row s.c t3 k3 [] true) ⟨m2.last _,rfl,rfl,rfl,by rw[<-m2.m];simp⟩
          obtain⟨es,fs,t',f1,f2,f3,f4,rfl⟩:=kF b2;obtain⟨s2,g1,g2⟩:=An hsrc b1 hps (y2.mono ((ai d1).trans (aN.app _ _)) (aN.app _ _)) f2;obtain⟨o3,q1,q2,q3,q4⟩:=g2.own hown (m2.last s.c);cases o3<;>first|exact q2.elim|skip
          rename_i b3 ty3 kr3 es3 dp3;obtain⟨q5,rfl,rfl,rfl,q6⟩:=q2;obtain rfl:=aT q1 rfl
          have hes:es=[]/\es3=[]:=by
           have h0:ρ3[S2.m]? =some (.sl ty3 kr3 []):=(ai b1).get (by rw[<-m2.m];simp);rw[h0]at f1 q6;injection f1 with f1;injection f1 with _ _ f1;injection q6 with q6;injection q6 with _ _ q6;exact⟨f1.symm,q6.symm⟩
          obtain⟨rfl,rfl⟩:=hes;rw[<-m2.n]at q1 q4;refine⟨_,σ++[s.c]++[s2.c],_,xN ho (eb hd) ht hz hzk.1 hzk.2 hby x1 y1 g1 q1 (by have:=f3;simp only[List.length_nil,Nat.zero_add]at this;exact this) (by simpa using f4),?_,hK⟩;have hb3:=g2.bind (out:=[DV.sl ty3 kr3 ([]++fs)]) (k:=1) rfl;have hl:=g2.last s2.c
          have:=hb3.upd (s':={s2 with ob:=upd s2.ob s.n (.row s2.c ty3 kr3 fs true),c:=s2.c+1}) (i:=S2.n) (n':=(S3.bind 1).n) (c':=S3.c+1) (so:=.row S3.c ty3 kr3 S3.m) (aN.app _ [s2.c]) (by have:=g2.c;simp at this ⊢;omega) hb3.n (Nat.le_refl _) (by rw[m2.n]at q4;exact q4) rfl (λj hj=>by simp only;rw[az _ _ (by rw[m2.n];exact hj)])
           (by simp only[m2.n,ab];exact⟨hl,rfl,rfl,rfl,by rw[<-g2.m];simp⟩)
          exact this.put ⟨rfl,⟨m2.n,hl⟩,trivial⟩
         ·cases h
        ·cases h
       ·cases h
      ·rename_i i st cy hone hcy;split at h
       ·rename_i a0 t0 k0 x0 hown0;unfold yE at h;split at h
        ·rename_i qq y S3 hsrc;split at h
         ·rename_i a3 t3 k3 x3 hown;split at h
          ·rename_i hx;obtain⟨rfl,rfl,rfl⟩:=hx;injection h with h;injection h with e1 e2;subst e1 e2;obtain⟨ρ',he,hK⟩:=bn hw;obtain⟨ρ1,a1,a2⟩:=ac he;obtain⟨ρ3,b1,b2⟩:=ac a2;obtain⟨ρ0,c1,d1⟩:=ac a1;obtain⟨k1,k2⟩:=aQ hu c1 hr;obtain⟨m1,m2⟩:=aQ hv d1 k2;obtain⟨cx,x1,x2⟩:=bg hone m1;cases cx<;>first|exact x2.elim|skip
           rename_i i' st';obtain⟨rfl,hst⟩:=x2;obtain⟨cY,y1,y2⟩:=bg hcy k1;obtain⟨es,fs,t',f1,f2,f3,f4,rfl⟩:=kF b2;obtain⟨s2,g1,g2⟩:=An hsrc b1 m2 (y2.mono (ai d1) (aN.refl _)) f2;obtain⟨o3,q1,q2,q3,q4⟩:=g2.own hown hst;cases o3<;>first|exact q2.elim|skip
           rename_i b3 ty3 kr3 es3 dp3;obtain⟨q5,rfl,rfl,rfl,q6⟩:=q2;obtain rfl:=aT q1 rfl;rw[f1]at q6;injection q6 with q6;injection q6 with _ _ q6;subst q6;refine⟨_,σ++[s2.c],_,FR ho (eb hd) ht hz hzk.1 hby x1 y1 g1 q1 f3 f4,?_,hK⟩;have hb3:=g2.bind (out:=[DV.sl ty3 kr3 (es++fs)]) (k:=1) rfl;have hl:=g2.last s2.c
           have:=hb3.upd (s':={s2 with ob:=upd s2.ob i' (.row s2.c ty3 kr3 (es++fs) true),c:=s2.c+1}) (i:=i') (n':=(S3.bind 1).n) (c':=S3.c+1) (so:=.row S3.c ty3 kr3 S3.m) (aN.app _ [s2.c]) (by have:=g2.c;simp at this ⊢;omega) hb3.n (Nat.le_refl _) q4 rfl (λj hj=>az _ _ hj)
            (by simp only[ab];exact⟨hl,rfl,rfl,rfl,by rw[<-g2.m];simp⟩)
           exact this.put ⟨rfl,⟨rfl,hl⟩,trivial⟩
          ·cases h
         ·cases h
        ·cases h
       ·cases h
      ·rename_i i st kq z m cy hone hcy;split at h
       ·rename_i a0 t0 k0 x0 hown0;split at h
        ·rename_i htk;obtain⟨rfl,rfl⟩:=htk;unfold yE at h;split at h
         ·rename_i qq y S3 hsrc;split at h
          ·rename_i a3 t3 k3 x3 hown;split at h
           ·rename_i hx;obtain⟨rfl,rfl,rfl⟩:=hx;injection h with h;injection h with e1 e2;subst e1 e2;obtain⟨ρ',he,hK⟩:=bn hw;obtain⟨ρ2,a1,a2⟩:=ac he;obtain⟨ρ3,b1,b2⟩:=ac a2;obtain⟨ρ0,c1,c2⟩:=ac a1;obtain⟨ρ1,d1,d2⟩:=ac c2;obtain⟨k1,k2⟩:=aQ hu c1 hr;obtain⟨m1,m2⟩:=aQ hv d1 k2;obtain⟨cx,x1,x2⟩:=bg hone m1;cases cx<;>first|exact x2.elim|skip
            rename_i i' st' kx lo n;obtain⟨rfl,hst,rfl,⟨u',e1,e2,rfl⟩,⟨v',e3,e4,rfl⟩⟩:=x2;obtain⟨cY,y1,y2⟩:=bg hcy k1;obtain⟨o0,r1,r2,r3,r4⟩:=m2.own hown0 hst;cases o0<;>first|exact r2.elim|skip
            rename_i b0 ty0 kr0 es0 dp0;obtain⟨r5,rfl,rfl,rfl,r6⟩:=r2;obtain rfl:=aT r1 rfl;obtain⟨out,o1,rfl⟩:=au d2;simp only[av,r6,e1,e3]at o1;split at o1
            ·rename_i dD;obtain⟨hu0,hle⟩:=dD;subst hu0;injection o1 with o1;subst o1
             have hps:aO { (S2.bind 1)with ob:=(i',.row S2.c ty0 kr0 S2.m)::S2.ob,c:=S2.c+1} (ρ1++[.sl ty0 kr0 (es0.take v'.toNat)]) (σ++[s.c]) (s.cut i' ty0 kr0 v'.toNat es0):=by
              have hb:=m2.bind (out:=[DV.sl ty0 kr0 (es0.take v'.toNat)]) (k:=1) rfl
              exact hb.upd (s':=s.cut i' ty0 kr0 v'.toNat es0) (i:=i') (n':=S2.n) (c':=S2.c+1) (so:=.row S2.c ty0 kr0 S2.m) (aN.app _ [s.c]) (by have:=m2.c;simp at this ⊢;omega) hb.n (Nat.le_refl _) r4 rfl (λj hj=>az _ _ hj)
               (by simp only[AS.cut,ab];exact⟨m2.last _,rfl,rfl,rfl,by rw[<-m2.m];simp⟩)
             obtain⟨es,fs,t',f1,f2,f3,f4,rfl⟩:=kF b2;obtain⟨s2,g1,g2⟩:=An hsrc b1 hps (y2.mono ((ai d1).trans (aN.app _ _)) (aN.app _ _)) f2;obtain⟨o3,q1,q2,q3,q4⟩:=g2.own hown (m2.last s.c);cases o3<;>first|exact q2.elim|skip
             rename_i b3 ty3 kr3 es3 dp3;obtain⟨q5,rfl,rfl,rfl,q6⟩:=q2;obtain rfl:=aT q1 rfl
             have hes:es=es0.take v'.toNat/\es3=es0.take v'.toNat:=by
              have h0:ρ3[S2.m]? =some (.sl ty3 kr3 (es0.take v'.toNat)):=(ai b1).get (by rw[<-m2.m];simp);rw[h0]at f1 q6;injection f1 with f1;injection f1 with _ _ f1;injection q6 with q6;injection q6 with _ _ q6;exact⟨f1.symm,q6.symm⟩
             obtain⟨rfl,rfl⟩:=hes;refine⟨_,σ++[s.c]++[s2.c],_,xY ho (eb hd) ht hz hzk.1 hby x1 r1 hle y1 g1 q1 f3 f4,?_,hK⟩;have hb3:=g2.bind (out:=[DV.sl ty3 kr3 (es0.take v'.toNat++fs)]) (k:=1) rfl;have hl:=g2.last s2.c
             have:=hb3.upd (s':={s2 with ob:=upd s2.ob i' (.row s2.c ty3 kr3 (es0.take v'.toNat++fs) true),c:=s2.c+1}) (i:=i') (n':=(S3.bind 1).n) (c':=S3.c+1) (so:=.row S3.c ty3 kr3 S3.m) (aN.app _ [s2.c]) (by have:=g2.c;simp at this ⊢;omega) hb3.n (Nat.le_refl _) q4 rfl (λj hj=>az _ _ hj)
              (by simp only[ab];exact⟨hl,rfl,rfl,rfl,by rw[<-g2.m];simp⟩)
             exact this.put ⟨rfl,⟨rfl,hl⟩,trivial⟩
            ·cases o1
           ·cases h
          ·cases h
         ·cases h
        ·cases h
       ·cases h
      ·cases h
     ·cases h
    ·cases h
   ·cases h
  ·cases h
 ·cases h
def ID(P:Program)(S:Sy)(d:Option Nat)(X Y:Operand)(t:TypeId):Option (List Nd×Sy):=none
theorem GH{X Y:Operand}{t:TypeId}(ho:o.op=.call ⟨.builtin .copy,#[X,Y],#[t,t]⟩)(h:ID P S o.dst X Y t=some (dl,S'))(hd:dB N o.dst=true)(hr:aO S ρ σ s)(hw:WN P dl K ρ):fC P N o s S' K:=by
 unfold ID at h;cases h
def sameO:Operand->Operand->Bool
 |.tmp a,.tmp b=>decide (a=b)
 |.const (.int .i64 n),.const (.int .i64 m)=>decide (n=m)
 |_,_=>false
def Ka(P:Program)(S:Sy)(d:Option Nat)(t:TypeId)(x y:Operand):Option (List Nd×Sy):=none
theorem GQ{x y:Operand}{t:TypeId}(ho:o.op=.makeSlice t x y)(h:Ka P S o.dst t x y=some (dl,S'))(hd:dB N o.dst=true)(hr:aO S ρ σ s)(hw:WN P dl K ρ):fC P N o s S' K:=by
 unfold Ka at h;cases h
end
end Go.Proofs.Ytngaddcgmnonbaa
namespace Go.Proofs.Ytngaddcgmnonbaa
open Go.RowKit
section
variable {P:Program}{N:Nat}{ρ ρ':List DV}{σ σ':List Nat}{S S':Sy}{s s':AS}{ps:List PO}{v:SV}{o:Oper}{K:List DV->Prop}{dl:List Nd}
def t9(F:Bool):List SC->List (Option (Nat×Nat))->Sy->Option (List PO×List Nat×Sy)
 |[],_,S=>some ([],[],S)
 |.d i::cs,ty,S=>(match t9 F cs ty.tail S with|some (p,xs,S')=>some (p,i::xs,S')|none=>none)
 |.nil::cs,ty,S=>(match ty.headD none with
  |some (t,k)=>(match t9 F cs ty.tail (S.bind 1)with|some (p,xs,S')=>some (PO.e t k::p,S.m::xs,S')|none=>none)
  |none=>none)
 |.own i st::cs,ty,S=>(match S.ownR i st with
  |some (.row _ _ _ x)=>if F then none else(match t9 F cs ty.tail S with|some (p,xs,S')=>some (p,x::xs,S')|none=>none)
  |some (.frz _ x)=>(match t9 F cs ty.tail S with|some (p,xs,S')=>some (p,x::xs,S')|none=>none)
  |some (.dx _ x)=>if F then none else(match t9 F cs ty.tail S with|some (p,xs,S')=>some (p,x::xs,S')|none=>none)
  |_=>none)
 |.emp::cs,ty,S=>(match ty.headD none with
  |some (t,k)=>(match t9 F cs ty.tail (S.bind 1)with|some (p,xs,S')=>some (PO.e t k::p,S.m::xs,S')|none=>none)
  |none=>none)
 |.sub i st k z m::cs,ty,S=>(match S.ownR i st with
  |some (.row _ _ k2 x)=>if F|| !(k2==k)then none else(match t9 F cs ty.tail (S.bind 1)with|some (p,xs,S')=>some (PO.viewD x z m::p,S.m::xs,S')|none=>none)
  |_=>none)
 |_::_,_,_=>none
theorem eT{F:Bool}:∀{cs:List SC} {ty:List (Option (Nat×Nat))} {S S':Sy} {ps:List PO} {xs:List Nat} {ρ ρ':List DV} {ys:List AC},t9 F cs ty S=some (ps,xs,S')->aq ps ρ=some ρ'->aO S ρ σ s->cj ρ σ cs ys->
 ∃ds,RD ρ' xs ds/\(F=false->G3 s ys ds)/\(F=true->z6 s ys ds)/\aO S' ρ' σ s
 |[],ty,S,S',ps,xs,ρ,ρ',ys,h,he,hr,hc=>by
  simp only[t9]at h;injection h with h;injection h with e1 h;injection h with e2 e3;subst e1 e2 e3;simp only[aq]at he;injection he with he;subst he
  cases ys with
  |nil=>exact⟨[],trivial,λ_=>trivial,λ_=>trivial,hr⟩
  |cons=>exact hc.elim
 |c::cs,ty,S,S',ps,xs,ρ,ρ',[],h,he,hr,hc=>hc.elim
 |.d i::cs,ty,S,S',ps,xs,ρ,ρ',y::ys,h,he,hr,hc=>by
  simp only[t9]at h;split at h
  ·rename_i p xs' S1 hg;injection h with h;injection h with e1 h;injection h with e2 e3;subst e1 e2 e3;obtain⟨x,rfl,hx⟩:=nk hc.1;obtain⟨ds,g1,g2,g3,g4⟩:=eT hg he hr hc.2;exact⟨x::ds,⟨(ai he).get hx,g1⟩,λhF=>⟨rfl,g2 hF⟩,λhF=>⟨rfl,g3 hF⟩,g4⟩
  ·cases h
 |.nil::cs,ty,S,S',ps,xs,ρ,ρ',y::ys,h,he,hr,hc=>by
  simp only[t9]at h;cases y<;>first|exact hc.1.elim|skip
  split at h
  ·rename_i t k ht;split at h
   ·rename_i p xs' S1 hg;injection h with h;injection h with e1 h;injection h with e2 e3;subst e1 e2 e3;simp only[aq,av]at he;obtain⟨ds,g1,g2,g3,g4⟩:=eT hg he (hr.bind rfl) (cj.mono (aN.app _ _) (aN.refl _) hc.2);exact⟨.sl t k []::ds,⟨(ai he).get (by simp[<-hr.m]),g1⟩,λhF=>⟨⟨t,k,rfl⟩,g2 hF⟩,λhF=>⟨⟨t,k,rfl⟩,g3 hF⟩,g4⟩
   ·cases h
  ·cases h
 |.own i st::cs,ty,S,S',ps,xs,ρ,ρ',y::ys,h,he,hr,hc=>by
  simp only[t9]at h;cases y<;>first|exact hc.1.elim|skip
  rename_i i' st';obtain⟨⟨rfl,hst⟩,hc2⟩:=hc;split at h
  ·rename_i a t k x ho;split at h
   ·cases h
   ·rename_i hF0;split at h
    ·rename_i p xs' S1 hg;injection h with h;injection h with e1 h;injection h with e2 e3;subst e1 e2 e3;obtain⟨o',k1,k2,k3,k4⟩:=hr.ownR ho hst;cases o'<;>first|exact k2.elim|skip
     rename_i b ty' kk es' dp;obtain⟨k5,rfl,rfl,-,hx⟩:=k2;obtain rfl:=aT k1 rfl;obtain⟨ds,g1,g2,g3,g4⟩:=eT hg he hr hc2;exact⟨.sl ty' kk es'::ds,⟨(ai he).get hx,g1⟩,λhF=>⟨⟨by rw[hr.n];exact k4,by rw[k3];exact⟨rfl,rfl⟩⟩,g2 hF⟩,λhF=>absurd hF hF0,g4⟩
    ·cases h
  ·rename_i a x ho;split at h
   ·rename_i p xs' S1 hg;injection h with h;injection h with e1 h;injection h with e2 e3;subst e1 e2 e3;obtain⟨o',k1,k2,k3,k4⟩:=hr.ownR ho hst;cases o'<;>first|exact k2.elim|skip
    rename_i b yy;obtain⟨k5,hx⟩:=k2;obtain rfl:=aT k1 rfl;obtain⟨ds,g1,g2,g3,g4⟩:=eT hg he hr hc2;exact⟨yy::ds,⟨(ai he).get hx,g1⟩,λhF=>⟨⟨by rw[hr.n];exact k4,by rw[k3];exact⟨rfl,rfl⟩⟩,g2 hF⟩,λhF=>⟨⟨by rw[hr.n];exact k4,by rw[k3];exact⟨rfl,rfl⟩⟩,g3 hF⟩,g4⟩
   ·cases h
  ·rename_i a x ho;split at h
   ·cases h
   ·rename_i hF0;split at h
    ·rename_i p xs' S1 hg;injection h with h;injection h with e1 h;injection h with e2 e3;subst e1 e2 e3;obtain⟨o',k1,k2,k3,k4⟩:=hr.ownR ho hst;cases o'<;>first|exact k2.elim|skip
     rename_i b yy;obtain⟨k5,hx⟩:=k2;obtain rfl:=aT k1 rfl;obtain⟨ds,g1,g2,g3,g4⟩:=eT hg he hr hc2;exact⟨yy::ds,⟨(ai he).get hx,g1⟩,λhF=>⟨⟨by rw[hr.n];exact k4,by rw[k3];exact⟨rfl,rfl⟩⟩,g2 hF⟩,λhF=>absurd hF hF0,g4⟩
    ·cases h
  ·cases h
 |.ptr _ _ _::cs,ty,S,S',ps,xs,ρ,ρ',y::ys,h,he,hr,hc=>by simp[t9]at h
 |.elt _ _ _ _ _::cs,ty,S,S',ps,xs,ρ,ρ',y::ys,h,he,hr,hc=>by simp[t9]at h
 |.emp::cs,ty,S,S',ps,xs,ρ,ρ',y::ys,h,he,hr,hc=>by
  simp only[t9]at h;cases y<;>first|exact hc.1.elim|skip
  split at h
  ·rename_i t k ht;split at h
   ·rename_i p xs' S1 hg;injection h with h;injection h with e1 h;injection h with e2 e3;subst e1 e2 e3;simp only[aq,av]at he;obtain⟨ds,g1,g2,g3,g4⟩:=eT hg he (hr.bind rfl) (cj.mono (aN.app _ _) (aN.refl _) hc.2);exact⟨.sl t k []::ds,⟨(ai he).get (by simp[<-hr.m]),g1⟩,λhF=>⟨⟨t,k,rfl⟩,g2 hF⟩,λhF=>⟨⟨t,k,rfl⟩,g3 hF⟩,g4⟩
   ·cases h
  ·cases h
 |.sub i st k z m::cs,ty,S,S',ps,xs,ρ,ρ',y::ys,h,he,hr,hc=>by
  simp only[t9]at h;split at h
  ·rename_i a t k2 x ho;split at h
   ·cases h
   ·rename_i hF0;simp only[Bool.or_eq_true,Bool.not_eq_true',beq_eq_false_iff_ne,ne_eq,not_or,Bool.not_eq_true,Classical.not_not]at hF0;obtain⟨hF0,rfl⟩:=hF0;split at h
    ·rename_i p xs' S1 hg;injection h with h;injection h with e1 h;injection h with e2 e3;subst e1 e2 e3;obtain⟨ρ1,a1,a2⟩:=ac (ps:=[.viewD x z m]) (qs:=p) he;obtain⟨t',kk,es0,u,v,h1,h2,h3,rfl⟩:=tU a1;obtain⟨ds,g1,g2,g3,g4⟩:=eT hg a2 (hr.bind rfl) (cj.mono (aN.app _ _) (aN.refl _) hc.2);exact⟨_::ds,⟨(ai a2).get (by simp[<-hr.m]),g1⟩,λhF=>⟨J6 hr hc.1 ho h1 h2 h3,g2 hF⟩,λhF=>(by rw[hF0]at hF;cases hF),g4⟩
    ·cases h
  ·cases h
 |.rd _::cs,ty,S,S',ps,xs,ρ,ρ',y::ys,h,he,hr,hc=>by simp[t9]at h
def o7(F:Bool)(P:Program):List Operand->List TypeId->Sy->Option (List PO×List (Bool×List Nat)×Sy)
 |[],_,S=>some ([],[],S)
 |x::xs,ts,S=>match iO S x with
  |some (p,.p b cs,S1)=>(match t9 F cs (gO P 9 (ts.headD 0)) S1 with
   |some (q,is,S2)=>(match o7 F P xs ts.tail S2 with|some (r,as0,S3)=>some (p++(q++r),(b,is)::as0,S3)|none=>none)
   |none=>none)
  |_=>none
theorem RD.app_pre{xs:List Nat}{ds:List DV}(h:RD ρ xs ds)(hp:aN ρ ρ'):gL ρ' xs=some ds:=wi (h.mono hp)
theorem io{F:Bool}:∀{xs:List Operand} {ts:List TypeId} {S S':Sy} {ps:List PO} {as0:List (Bool×List Nat)} {ρ ρ':List DV},o7 F P xs ts S=some (ps,as0,S')->aq ps ρ=some ρ'->aO S ρ σ s->
 ∃ys,cV ρ' as0=some ys/\(F=false->fF s xs ys)/\(F=true->fb s xs ys)/\aO S' ρ' σ s
 |[],ts,S,S',ps,as0,ρ,ρ',h,he,hr=>by
  simp only[o7]at h;injection h with h;injection h with e1 h;injection h with e2 e3;subst e1 e2 e3;simp only[aq]at he;injection he with he;subst he
  exact⟨[],rfl,λ_=>trivial,λ_=>trivial,hr⟩
 |x::xs,ts,S,S',ps,as0,ρ,ρ',h,he,hr=>by
  simp only[o7]at h;split at h
  ·rename_i p b cs S1 hv;split at h
   ·rename_i q is S2 hq;split at h
    ·rename_i r as' S3 hr';injection h with h;injection h with e1 h;injection h with e2 e3;subst e1 e2 e3;obtain⟨ρ1,a1,a2⟩:=ac he;obtain⟨ρ2,b1,b2⟩:=ac a2;obtain⟨k1,k2⟩:=aQ hv a1 hr
     cases hx:s.ev x with
     |p b' ys0=>
      rw[hx]at k1;obtain⟨rfl,hc⟩:=k1;obtain⟨ds,g1,g2,g3,g4⟩:=eT hq b1 k2 hc;obtain⟨ys,y1,y2,y3,y4⟩:=io hr' b2 g4;refine⟨(b',ds)::ys,by simp only[cV,g1.app_pre (ai b2),y1],λhF=>⟨?_,y2 hF⟩,λhF=>⟨?_,y3 hF⟩,y4⟩
      ·rw[hx];exact⟨rfl,g2 hF⟩
      ·rw[hx];exact⟨rfl,g3 hF⟩
     |tup=>rw[hx]at k1;exact k1.elim
     |und=>rw[hx]at k1;exact k1.elim
    ·cases h
   ·cases h
  ·cases h
def LX(X:Bool)(c t k m:Nat):SO:=if X then .dx c m else .row c t k m
theorem Lt{X:Bool}{c c' t k m:Nat}{es:List (List DV)}(h1:σ[c]? =some c')(h2:ρ[m]? =some (.sl t k es)):RO ρ σ (LX X c t k m) (xM X c' t k es):=by
 cases X
 ·exact⟨h1,rfl,rfl,rfl,h2⟩
 ·exact⟨h1,h2⟩
def K1(X:Bool):List (Option (Nat×Nat))->Nat->Sy->List SC×Sy
 |[],m,S=>([],S)
 |none::r,m,S=>(.d m::(K1 X r (m+1) S).1,(K1 X r (m+1) S).2)
 |some (t,k)::r,m,S=>(.own S.n S.c::(K1 X r (m+1) (S.push (LX X S.c t k m))).1,(K1 X r (m+1) (S.push (LX X S.c t k m))).2)
theorem C1{X:Bool}:∀{ds:List DV} {ss:List (Option (Nat×Nat))} {m:Nat} {S:Sy} {s:AS} {σ:List Nat},mU ss ds=true->RD ρ (cR m ds.length) ds->aO S ρ σ s->
 ∃σ',aN σ σ'/\aO (K1 X ss m S).2 ρ σ' (s.pushL (jA X ds s.c))/\cj ρ σ' (K1 X ss m S).1 (Lu ds s.n s.c)
 |[],ss,m,S,s,σ,h,hd,hr=>by
  cases ss with
  |nil=>exact⟨σ,aN.refl _,hr,trivial⟩
  |cons x r=>cases x<;>simp[mU]at h
 |.sc u::ds,ss,m,S,s,σ,h,hd,hr=>by
  match ss,h with
  |none::r,h=>
   simp only[mU]at h;obtain⟨σ',p1,p2,p3⟩:=C1 (ds:=ds) h hd.2 hr
   exact⟨σ',p1,p2,hd.1,p3⟩
 |.sl t k es::ds,ss,m,S,s,σ,h,hd,hr=>by
  match ss,h with
  |some (t',k')::r,h=>
   simp only[mU,Bool.and_eq_true,decide_eq_true_eq]at h;obtain⟨⟨rfl,rfl⟩,h⟩:=h;have hp:=hr.push (so:=LX X S.c t k m) (ob:=xM X s.c t k es) (Lt (hr.last _) hd.1);obtain⟨σ',p1,p2,p3⟩:=C1 (ds:=ds) h hd.2 hp;refine⟨σ',(aN.app _ _).trans p1,?_,⟨hr.n,p1.get (hr.last _)⟩,p3⟩;exact p2
def mr(X:Bool):Sh->Nat->Sy->List (Bool×List SC)×Sy
 |[],m,S=>([],S)
 |(b,ss,true)::r,m,S=>((b,(K1 X ss m S).1)::(mr X r (m+ss.length) (K1 X ss m S).2).1,(mr X r (m+ss.length) (K1 X ss m S).2).2)
 |(b,ss,false)::r,m,S=>((b,(cR m ss.length).map .d)::(mr X r (m+ss.length) S).1,(mr X r (m+ss.length) S).2)
theorem m0:∀{xs ys:List DV} {m:Nat},RD ρ (cR m (xs++ys).length) (xs++ys)->RD ρ (cR m xs.length) xs/\RD ρ (cR (m+xs.length) ys.length) ys
 |[],ys,m,h=>⟨trivial,by simpa using h⟩
 |x::xs,ys,m,h=>by
  obtain⟨h1,h2⟩:=m0 (xs:=xs) (ys:=ys) (m:=m+1) h.2;refine⟨⟨h.1,h1⟩,?_⟩;have:m+1+xs.length=m+(x::xs).length:=by simp;omega
  rw[<-this];exact h2
theorem gX:∀{ss:List (Option (Nat×Nat))} {ds:List DV},mU ss ds=true->ds.length=ss.length
 |[],[],_=>rfl
 |none::ss,.sc _::ds,h=>by simp only[mU]at h;simp[gX h]
 |some (t,k)::ss,.sl t' k' _::ds,h=>by simp only[mU,Bool.and_eq_true]at h;simp[gX h.2]
 |[],_::_,h=>by simp[mU]at h
 |none::_,[],h=>by simp[mU]at h
 |some _::_,[],h=>by simp[mU]at h
 |none::_,.sl _ _ _::_,h=>by simp[mU]at h
 |some _::_,.sc _::_,h=>by simp[mU]at h
theorem nA{X:Bool}:∀{rs:List Rs} {sh:Sh} {m:Nat} {S:Sy} {s:AS} {σ:List Nat},cM sh rs=true->RD ρ (cR m (bP rs).length) (bP rs)->aO S ρ σ s->
 ∃σ',aN σ σ'/\aO (mr X sh m S).2 ρ σ' (s.pushL (dy X rs s.c))/\RT ρ σ' (mr X sh m S).1 (mX rs s.n s.c)
 |[],sh,m,S,s,σ,h,hd,hr=>by
  cases sh with
  |nil=>exact⟨σ,aN.refl _,hr,trivial⟩
  |cons x r=>obtain⟨b,ss,ow⟩:=x;simp[cM]at h
 |(b,ds,ow)::rs,sh,m,S,s,σ,h,hd,hr=>by
  match sh,h with
  |(b',ss,ow')::r,h=>
   simp only[cM,Bool.and_eq_true,decide_eq_true_eq]at h;obtain⟨⟨rfl,rfl⟩,h1,h2⟩:=h;obtain⟨d1,d2⟩:=m0 hd;rw[gX h1]at d2
   cases ow with
   |true=>
    obtain⟨σ1,p1,p2,p3⟩:=C1 h1 d1 hr;obtain⟨σ2,q1,q2,q3⟩:=nA h2 d2 p2;obtain⟨n1,n2,-,-⟩:=eP (jA X ds s.c) s;rw[q9 X]at n1;refine⟨σ2,p1.trans q1,?_,⟨rfl,cj.mono (aN.refl _) q1 p3⟩,?_⟩
    ·have:s.pushL (dy X ((b,ds,true)::rs) s.c)=(s.pushL (jA X ds s.c)).pushL (dy X rs (s.pushL (jA X ds s.c)).c):=by rw[n2,dy,yr]
     rw[this];exact q2
    ·rw[n1,n2,q9 X]at q3;exact q3
   |false=>
    obtain⟨σ2,q1,q2,q3⟩:=nA h2 d2 hr;refine⟨σ2,q1,q2,⟨rfl,?_⟩,q3⟩;rw[<-gX h1];exact RD.toC d1
def mj(l:List (Bool×List SC)):SV:=match l with|[(b,cs)]=>.p b cs|l=>.tup l
theorem xr{l:List (Bool×List SC)}{rs:List Rs}{n c:Nat}(h:RT ρ σ l (mX rs n c)):RV ρ σ (mj l) (nY rs n c):=by
 unfold mj nY;generalize mX rs n c=l' at h
 match l,l',h with
 |[],[],h=>exact h
 |[(b,cs)],[(b',cs')],h=>exact h.1
 |x::y::l,x'::y'::l',h=>exact h
 |[x],_::_::_,h=>exact h.2.elim
 |_::_::_,[x],h=>exact h.2.elim
def dJ:Sh->Nat
 |[]=>0
 |(_,ss,_)::r=>ss.length+dJ r
theorem iJ:∀{sh:Sh} {rs:List Rs},cM sh rs=true->(bP rs).length=dJ sh
 |[],[],_=>rfl
 |(b,ss,ow)::sh,(b',ds,ow')::rs,h=>by
  simp only[cM,Bool.and_eq_true]at h
  simp[bP,dJ,gX h.2.1,iJ h.2.2]
 |[],_::_,h=>by simp[cM]at h
 |(_,_,_)::_,[],h=>by simp[cM]at h
theorem wz:∀{sh:Sh} {rs:List Rs},cM sh rs=true->(∀x∈sh,x.2.2=true)->∀r∈rs,r.2.2=true
 |[],[],_,_=>by simp
 |(b,ss,ow)::sh,(b',ds,ow')::rs,h,hx=>by
  simp only[cM,Bool.and_eq_true,decide_eq_true_eq]at h;intro r hr;rcases List.mem_cons.1 hr with rfl|hr
  ·rw[h.1.2];exact hx _ (List.mem_cons_self ..)
  ·exact wz h.2.2 (λx hx'=>hx x (List.mem_cons_of_mem _ hx')) r hr
 |[],_::_,h,_=>by simp[cM]at h
 |(_,_,_)::_,[],h,_=>by simp[cM]at h
def JY(P:Program)(ow:eK)(f:FuncId):Option Sh:=match P.funcs[f]? with|some fn=>some (fn.resultTypes.toList.map λt=>((pI P t).getD false,gO P 9 t,ow f))|none=>none
def DX(P:Program)(ow:eK)(S:Sy)(d:Option Nat)(f:FuncId)(args:List Operand)(ts:List TypeId):Option (List Nd×Sy):=
 match JY P ow f,o7 (!ow f) P args ts S with
 |some sh,some (p,as0,S1)=>if sh.all (λx=>x.2.2==ow f)&&decide (f<1000000)then some (p.map .po++[.call f as0 sh],(mr ow.dx sh S1.m (S1.bind (dJ sh))).2.put d (mj (mr ow.dx sh S1.m (S1.bind (dJ sh))).1))else none
 |_,_=>none
theorem xf{ow:eK}{f:FuncId}{args:Array Operand}{ts:Array TypeId}(ho:o.op=.call ⟨.value (.func f),args,ts⟩)(h:DX P ow S o.dst f args.toList ts.toList=some (dl,S'))(hd:dB N o.dst=true)(hr:aO S ρ σ s)(hw:WN P dl K ρ):fC P N o s S' K:=by
 unfold DX at h;split at h
 ·rename_i sh p as0 S1 hsh has;split at h
  ·rename_i hall;rw[Bool.and_eq_true,decide_eq_true_eq]at hall;obtain⟨hall,hf6⟩:=hall;injection h with h;injection h with e1 e2;subst e1 e2;obtain⟨ρ1,he,hw2⟩:=bn (kw hw);simp only[WN]at hw2;obtain⟨ys,res,w1,w2,w3,w4⟩:=hw2;have w2:=w2.plain hf6;obtain⟨ys',y1,y2,y3,y4⟩:=io has he hr;rw[w1]at y1;injection y1 with y1;subst y1;have hlen:=iJ w3
   have har:(fF s args.toList ys/\∀r∈res,r.2.2=true)\/fb s args.toList ys:=by
    cases hf:ow f with
    |true=>
     refine .inl ⟨y2 (by rw[hf];rfl),wz w3 λx hx=>?_⟩;have:=List.all_eq_true.1 hall x hx
     rw[hf]at this;simpa using this
    |false=>exact .inr (y3 (by rw[hf];rfl))
   have hb:=y4.bind (out:=bP res) hlen;obtain⟨σ',p1,p2,p3⟩:=nA (m:=S1.m) w3 (fa y4.m rfl) hb;exact⟨_,σ',_,(Pu (s:=s) ow.dx ho w2 har).toO (eb hd),p2.put (xr p3),w4⟩
  ·cases h
 ·cases h
def Fz(s s':AS):Prop:=∀w0 N a w E,aD w0 N s a w E->∃E',aD w0 N s' a w E'
theorem Fz.trans{s1:AS}(h:Fz s s1)(k:Fz s1 s'):Fz s s':=λw0 N a w E hr=>by
 obtain⟨E1,h1⟩:=h w0 N a w E hr;exact k w0 N a w E1 h1
def Ro(S:Sy):SC->Sy
 |.own i st=>(match S.own i st with|some (.row _ _ _ x)=>{S with ob:=(i,.frz st x)::S.ob}|_=>S)
 |_=>S
def SZ(S:Sy):Operand->Sy
 |.tmp t=>(match aG S.sl t with|some (.p _ cs)=>cs.foldl Ro S|_=>S)
 |_=>S
def SM(S:Sy)(xs:List Operand):Sy:=xs.foldl SZ S
theorem PS{c:SC}{y:AC}(hr:aO S ρ σ s)(hc:RC ρ σ c y):∃s',Fz s s'/\aO (Ro S c) ρ σ s':=by
 cases c<;>first|exact⟨s,λ_ _ _ _ E h=>⟨E,h⟩,hr⟩|skip
 rename_i i st;cases y<;>first|exact hc.elim|skip
 rename_i i' st';obtain⟨rfl,hst⟩:=hc;simp only[Ro];split
 ·rename_i a t k x ho;obtain⟨o',k1,k2,k3,k4⟩:=hr.own ho hst;cases o'<;>first|exact k2.elim|skip
  rename_i b ty' kk es' dp;obtain⟨k5,rfl,rfl,rfl,hx⟩:=k2;obtain rfl:=aT k1 rfl
  exact⟨s.frz i' b (.sl ty' kk es'),λw0 N a w E h=>by obtain⟨q1,q2,-⟩:=Be k1 w0 N a w E h;obtain⟨E',h1,-⟩:=xa h k1 q1 q2 rfl;exact⟨E',h1⟩,
   hr.upd (s':=s.frz i' b (.sl ty' kk es')) (i:=i') (n':=S.n) (c':=S.c) (so:=.frz st x) (aN.refl _) hr.c hr.n (Nat.le_refl _) k4 rfl (λj hj=>by simp only[AS.frz,az _ _ hj]) (by simp only[AS.frz,ab];exact⟨hst,hx⟩)⟩
 ·exact⟨s,λ_ _ _ _ E h=>⟨E,h⟩,hr⟩
theorem Dv:∀{cs:List SC} {ys:List AC} {S:Sy} {s:AS},aO S ρ σ s->cj ρ σ cs ys->∃s',Fz s s'/\aO (cs.foldl Ro S) ρ σ s'
 |[],_,S,s,hr,_=>⟨s,λ_ _ _ _ E h=>⟨E,h⟩,hr⟩
 |c::cs,[],S,s,hr,hc=>hc.elim
 |c::cs,y::ys,S,s,hr,hc=>by
  obtain⟨s1,f1,r1⟩:=PS hr hc.1;obtain⟨s2,f2,r2⟩:=Dv (cs:=cs) r1 hc.2;exact⟨s2,f1.trans f2,r2⟩
theorem IH{x:Operand}(hr:aO S ρ σ s):∃s',Fz s s'/\aO (SZ S x) ρ σ s':=by
 cases x<;>first|exact⟨s,λ_ _ _ _ E h=>⟨E,h⟩,hr⟩|skip
 rename_i t;simp only[SZ];split
 ·rename_i b cs hl;have h1:=hr.sl _ _ hl
  cases hx:s.sl t with
  |p b' ys=>
   rw[hx]at h1
   exact Dv hr h1.2
  |tup=>rw[hx]at h1;exact h1.elim
  |und=>rw[hx]at h1;exact h1.elim
 ·exact⟨s,λ_ _ _ _ E h=>⟨E,h⟩,hr⟩
theorem Dn:∀{xs:List Operand} {S:Sy} {s:AS},aO S ρ σ s->∃s',Fz s s'/\aO (SM S xs) ρ σ s'
 |[],S,s,hr=>⟨s,λ_ _ _ _ E h=>⟨E,h⟩,hr⟩
 |x::xs,S,s,hr=>by
  obtain⟨s1,f1,r1⟩:=IH (x:=x) hr;obtain⟨s2,f2,r2⟩:=Dn (xs:=xs) r1;exact⟨s2,f1.trans f2,r2⟩
theorem l6{s1:AS}(h:Fz s s1)(g:fC P N o s1 S' K):fC P N o s S' K:=by
 obtain⟨ρ',σ',s',h1,h2,h3⟩:=g;exact⟨ρ',σ',s',λw0 a w E hr=>by obtain⟨E1,hr1⟩:=h w0 N a w E hr;exact h1 w0 a w E1 hr1,h2,h3⟩
def Hy(P:Program)(ow:eK)(S:Sy)(d:Option Nat)(f:FuncId)(args:List Operand)(ts:List TypeId):Option (List Nd×Sy):=
 DX P ow (if ow f then S else SM S args) d f args ts
theorem Gx{ow:eK}{f:FuncId}{args:Array Operand}{ts:Array TypeId}(ho:o.op=.call ⟨.value (.func f),args,ts⟩)(h:Hy P ow S o.dst f args.toList ts.toList=some (dl,S'))(hd:dB N o.dst=true)(hr:aO S ρ σ s)(hw:WN P dl K ρ):fC P N o s S' K:=by
 unfold Hy at h
 cases hf:ow f with
 |true=>
  rw[hf,if_pos rfl]at h
  exact xf ho h hd hr hw
 |false=>
  rw[hf,if_neg (by decide)]at h;obtain⟨s1,f1,r1⟩:=Dn (xs:=args.toList) hr;exact l6 f1 (xf ho h hd r1 hw)
def D1(P:Program)(ow:eK)(S:Sy)(d:Option Nat)(f:FuncId)(args:List Operand)(ts:List TypeId):Option (List Nd×Sy):=none
theorem DS{ow:eK}{f:Nat}{args:Array Operand}{ts:Array TypeId}(ho:o.op=.call ⟨.value (.func f),args,ts⟩)(h:D1 P ow S o.dst f args.toList ts.toList=some (dl,S'))(hd:dB N o.dst=true)(hr:aO S ρ σ s)(hw:WN P dl K ρ):fC P N o s S' K:=by
 unfold D1 at h;cases h
theorem wI{b ow:Bool}{d:DV}:∀{rs:List Rs},bP (rs++[(b,[d],ow)])=bP rs++[d]
 |[]=>rfl
 |(_,ds,_)::rs=>by simp only[List.cons_append,bP,wI (rs:=rs),List.append_assoc]
theorem yM{q:Bool×List (Option (Nat×Nat))×Bool}:∀{sh:Sh} {R:List Rs},cM (sh++[q]) R=true->∃rs r,R=rs++[r]/\cM sh rs=true/\cM [q] [r]=true
 |[],[],h=>by simp[cM]at h
 |[],[r],h=>⟨[],r,rfl,rfl,h⟩
 |[],r::r'::R,h=>by
  obtain⟨a,b,c⟩:=q;obtain⟨a',b',c'⟩:=r
  simp[cM]at h
 |x::sh,[],h=>by obtain⟨a,b,c⟩:=x;simp[cM]at h
 |(a,b,c)::sh,(a',b',c')::R,h=>by
  simp only[List.cons_append,cM,Bool.and_eq_true]at h;obtain⟨rs,r,rfl,h1,h2⟩:=yM h.2.2;exact⟨(a',b',c')::rs,r,rfl,by simp only[cM,Bool.and_eq_true];exact⟨h.1,h.2.1,h1⟩,h2⟩
def CJ(P:Program)(ow:eK)(S:Sy)(d:Option Nat)(f:FuncId)(args:List Operand)(ts:List TypeId):Option (List Nd×Sy):=
 match args with
 |.tmp x::xs=>(match aG S.sl x with
  |some (.p false [.own i st])=>(match S.own i st with
   |some (.cur _ id t z)=>(match JY P ow f,o7 false P xs ts.tail {S with ob:=(i,.dead)::S.ob}with
    |some sh,some (p,as0,S1)=>if sh.all (λx=>x.2.2)&&decide (P.funcs.size<=1000000/\f<1000000)then
     some (p.map .po++[.call (2000000+f) ((false,[z])::as0) (sh++[(false,[some (t,0)],true)])],
      (mr ow.dx sh S1.m { (S1.bind (dJ sh+1))with ob:=(i,.cur st id t (S1.m+dJ sh))::S1.ob}).2.put d (mj (mr ow.dx sh S1.m { (S1.bind (dJ sh+1))with ob:=(i,.cur st id t (S1.m+dJ sh))::S1.ob}).1))else none
    |_,_=>none)
   |_=>none)
  |_=>none)
 |_=>none
theorem Do{ow:eK}{f:Nat}{args:Array Operand}{ts:Array TypeId}(ho:o.op=.call ⟨.value (.func f),args,ts⟩)(h:CJ P ow S o.dst f args.toList ts.toList=some (dl,S'))(hd:dB N o.dst=true)(hr:aO S ρ σ s)(hw:WN P dl K ρ):fC P N o s S' K:=by
 unfold CJ at h;split at h
 ·rename_i x xs hargs;split at h
  ·rename_i i st hx;split at h
   ·rename_i a0 id t z hown;split at h
    ·rename_i sh p as0 S1 hsh has;split at h
     ·rename_i hall;rw[Bool.and_eq_true,decide_eq_true_eq]at hall;obtain⟨hall,hsz,hf6⟩:=hall;have hf6:f<1000000:=hf6;injection h with h;injection h with e1 e2;subst e1 e2;obtain⟨ρ1,he,hw2⟩:=bn (kw hw);simp only[WN]at hw2;obtain⟨ys,res,w1,w2,w3,w4⟩:=hw2;have hv:=hr.sl _ _ hx
      cases hsx:s.sl x with
      |tup=>rw[hsx]at hv;exact hv.elim
      |und=>rw[hsx]at hv;exact hv.elim
      |p b cs=>
       rw[hsx]at hv;obtain⟨rfl,hv⟩:=hv
       match cs,hv with
       |[c],hv=>
        cases c<;>first|exact hv.1.elim|skip
        rename_i i' st';obtain⟨⟨rfl,hst⟩,-⟩:=hv;obtain⟨o',k1,k2,k3,k4⟩:=hr.own hown hst;cases o'<;>first|exact k2.elim|skip
        rename_i b id' ty' x0 cs0;obtain⟨k5,rfl,rfl,hz⟩:=k2;obtain rfl:=aT k1 rfl
        have hrk:aO {S with ob:=(i',.dead)::S.ob} ρ σ (s.kill i'):=
         hr.upd (s':=s.kill i') (i:=i') (n':=S.n) (c':=S.c) (so:=.dead) (aN.refl _) hr.c hr.n (Nat.le_refl _) k4 rfl (λj hj=>by simp only[AS.kill,az _ _ hj]) trivial
        obtain⟨zs,y1,y2,y3,y4⟩:=io has he hrk;have hpre:=ai he;simp only[cV,gL,hpre.get hz,y1]at w1;injection w1 with w1;obtain⟨rs,r,er,s1,s2⟩:=yM w3
        have hm:∃cs',r=(false,[ky ty' x0 cs'],true)/\cr P f ty' x0 cs0 zs rs cs':=by
         generalize hf:2000000+f=f' at w2
         cases w2 with
         |n h=>
          have hc:=h.1;rw[<-hf]at hc;unfold bf at hc;rw[Array.getElem?_eq_none (Nat.le_trans hsz (by omega))]at hc
          cases hc
         |p h=>
          have hc:=h.1;unfold bf at hc;rw[Array.getElem?_eq_none (Nat.le_trans hsz (by omega))]at hc
          cases hc
         |c h=>
          have e:=Nat.add_left_cancel hf;injection w1 with w1 w2;injection w1 with _ w1;injection w1 with w1 _;unfold ky at w1;injection w1 with q1 q2 q3;injection q3 with q3 q4;injection q3 with q3 _;injection q4 with q4 _;obtain⟨e1,e2⟩:=List.append_inj' er rfl;injection e2 with e2 _;subst q1 q3 q4 w2 e1;rw[e]
          exact⟨_,e2.symm,h⟩
         |w h=>omega
         |g _ h=>omega
         |v _ h=>omega
        obtain⟨cs',er',hm⟩:=hm;subst er';subst er;have hlen:=iJ s1;rw[wI]at w4;have hb:=y4.bind (out:=bP rs++[ky ty' x0 cs']) (k:=dJ sh+1) (by simp[hlen])
        have hu:=hb.upd (s':={s with ob:=upd s.ob i' (.cur b id' ty' x0 cs')}) (i:=i') (n':=S1.n) (c':=S1.c) (so:=.cur st id' ty' (S1.m+dJ sh)) (aN.refl _) y4.c (by rw[<-y4.n];rfl) (Nat.le_refl _) (by have h1:=y4.n;have h2:=hr.n;have:(s.kill i').n=s.n:=rfl;omega) rfl (λj hj=>by simp only[AS.kill,az _ _ hj]) (by
         simp only[ab]
         exact⟨hst,rfl,rfl,by rw[<-y4.m,<-hlen];simp⟩)
        rw[<-List.append_assoc]at hu w4;obtain⟨σ',p1,p2,p3⟩:=nA (X:=ow.dx) (m:=S1.m) s1 (RD.mono (aN.app (ρ1++bP rs) [ky ty' x0 cs']) (fa y4.m rfl)) hu;refine⟨_,σ',_,Jh ho hargs hd hm ?_ k1 (y2 rfl),p2.put (xr p3),w4⟩;simp only[AS.ev,hsx]
     ·cases h
    ·cases h
   ·cases h
  ·cases h
 ·cases h
def Dq(P:Program)(ow:eK)(S:Sy)(d:Option Nat)(f t:Nat)(args:List Operand)(ts:List TypeId):Option (List Nd×Sy):=
 match o7 true P args ts S with
 |some (p,as0,S1)=>if decide (P.funcs.size<=1000000/\f<1000000)then
  some (p.map .po++[.call (3000000+f) as0 [(false,[some (t,0)],true)]],((S1.bind 1).push (.cur S1.c false t S1.m)).put d (.p false [.own S1.n S1.c]))else none
 |none=>none
theorem Dz{ow:eK}{f:Nat}{t:Nat}{args:Array Operand}{ts:Array TypeId}(ho:o.op=.call ⟨.value (.func f),args,ts⟩)(h:Dq P ow S o.dst f t args.toList ts.toList=some (dl,S'))(hd:dB N o.dst=true)(hr:aO S ρ σ s)(hw:WN P dl K ρ):fC P N o s S' K:=by
 unfold Dq at h;split at h
 ·rename_i p as0 S1 has;split at h
  ·rename_i hall;rw[decide_eq_true_eq]at hall;obtain⟨hsz,hf6⟩:=hall;have hf6:f<1000000:=hf6;injection h with h;injection h with e1 e2;subst e1 e2;obtain⟨ρ1,he,hw2⟩:=bn (kw hw);simp only[WN]at hw2;obtain⟨ys,res,w1,w2,w3,w4⟩:=hw2;obtain⟨zs,y1,y2,y3,y4⟩:=io has he hr;rw[w1]at y1;injection y1 with y1;subst y1
   have hm:∃x cs',res=[(false,[ky t x cs'],true)]/\nj P f ys t x cs':=by
    generalize hf:3000000+f=f' at w2
    cases w2 with
    |n h=>
     have hc:=h.1;rw[<-hf]at hc;unfold bf at hc;rw[Array.getElem?_eq_none (Nat.le_trans hsz (by omega))]at hc
     cases hc
    |p h=>
     have hc:=h.1;unfold bf at hc;rw[Array.getElem?_eq_none (Nat.le_trans hsz (by omega))]at hc
     cases hc
    |c h=>
     have hc:=h.1;unfold bf at hc;rw[Array.getElem?_eq_none (Nat.le_trans hsz (by omega))]at hc
     cases hc
    |w h=>
     have e:=Nat.add_left_cancel hf;rename_i t' x cs'
     have ht:t'=t:=by
      simp[cM,mU,ky]at w3;exact w3
     subst ht;rw[e]
     exact⟨_,_,rfl,h⟩
    |g _ h=>omega
    |v _ h=>omega
   obtain⟨x,cs',rfl,hm⟩:=hm;have hb:=y4.bind (out:=[ky t x cs']) (k:=1) rfl;have hp:=hb.push (so:=.cur S1.c false t S1.m) (ob:=.cur s.c false t x cs') ⟨hb.last _,rfl,rfl,by rw[<-y4.m];simp⟩;exact⟨_,_,_,Jq ho hd hm (y3 rfl),hp.put ⟨rfl,⟨hb.n,hb.last _⟩,trivial⟩,w4⟩
  ·cases h
 ·cases h
def Sy.del(S:Sy)(d:Option Nat):Sy:=match d with|some t=>{S with sl:=S.sl.filter λp=>!(p.1==t)}|none=>S
theorem lN{α:Type}{t t':Nat}:∀{l:List (Nat×α)} {x:α},aG (l.filter λp=>!(p.1==t)) t'=some x->t'≠t/\aG l t'=some x
 |[],x,h=>by simp[aG]at h
 |(j,y)::r,x,h=>by
  by_cases e:j=t
  ·subst e;simp only[List.filter_cons,beq_self_eq_true,Bool.not_true,Bool.false_eq_true,if_false]at h;obtain⟨h1,h2⟩:=lN h;exact⟨h1,by simp only[aG,if_neg (λe:j=t'=>h1 e.symm)];exact h2⟩
  ·have hb:(!(j==t))=true:=by simp[e]
   simp only[List.filter_cons,hb,if_true,aG]at h ⊢;split at h
   ·rename_i e2;subst e2;rw[if_pos rfl];exact⟨e,h⟩
   ·rename_i e2;rw[if_neg e2];exact lN h
theorem aO.del(hr:aO S ρ σ s){d:Option Nat}{x:AV}:aO (S.del d) ρ σ (s.put d x):=by
 cases d with
 |none=>exact hr
 |some t=>
  refine⟨hr.n,hr.c,hr.m,λt' v hv=>?_,hr.ob,hr.kn⟩;obtain⟨h1,h2⟩:=lN hv;simp only[AS.put];rw[az _ _ h1];exact hr.sl t' v h2
def CB(P:Program)(ow:eK)(S:Sy)(d:Option Nat)(f:Nat)(bits:Nat)(args:List Operand)(ts:List TypeId):Option (List Nd×Sy):=none
theorem Cz{ow:eK}{f bits:Nat}{args:Array Operand}{ts:Array TypeId}(ho:o.op=.call ⟨.value (.func f),args,ts⟩)(h:CB P ow S o.dst f bits args.toList ts.toList=some (dl,S'))(hd:dB N o.dst=true)(hr:aO S ρ σ s)(hw:WN P dl K ρ):fC P N o s S' K:=by
 unfold CB at h;cases h
end
end Go.Proofs.Ytngaddcgmnonbaa
namespace Go.Proofs.Ytngaddcgmnonbaa
open Go.RowKit
section
variable {P:Program}{N:Nat}{ρ ρ':List DV}{σ σ':List Nat}{S S':Sy}{s s':AS}{ps:List PO}{v:SV}{o:Oper}{K:List DV->Prop}{dl:List Nd}
def NU(S:Sy)(el k:Nat):SC->Option (List PO×Nat×Nat×Nat×Sy)
 |.nil=>some ([.e el k],S.n,S.c,S.m,(S.bind 1).push (.shr S.c el k S.m))
 |.own i st=>(match S.ownR i st with|some (.row _ t k' x)=>if t=el/\k'=k then some ([],i,st,x,{S with ob:=(i,.shr st el k x)::S.ob})else none|_=>none)
 |.sub i st k0 z m=>(match S.ownR i st with|some (.row _ t k' x)=>if t=el/\k'=k then some ([.cutP x z m],i,S.c,S.m,{ (S.bind 1)with ob:=(i,.shr S.c el k S.m)::S.ob,c:=S.c+1})else none|_=>none)
 |_=>none
theorem Ku{el k i st x:Nat}{c:SC}{y:AC}{X:Operand}(h:NU S el k c=some (ps,i,st,x,S'))(he:aq ps ρ=some ρ')(hr:aO S ρ σ s)(hc:RC ρ σ c y)(hX:s.ev X=.p false [y])(hk:0<k):
 ∃s' σ' st' es,aN σ σ'/\aO S' ρ' σ' s'/\s'.sl=s.sl/\σ'[st]? =some st'/\i<S'.n/\s'.own? i st'=some (.row st' el k es false)/\ρ'[x]? =some (.sl el k es)/\∀w0 N a w E,aD w0 N s a w E->∃E',aD w0 N s' a w E'/\a.eval X=E'.v i:=by
 unfold NU at h;split at h
 ·cases y<;>first|exact hc.elim|skip
  injection h with h;injection h with e1 h;injection h with e2 h;injection h with e3 h;injection h with e4 e5;subst e1 e2 e3 e4 e5;obtain⟨out,o1,rfl⟩:=au he;simp only[av]at o1;injection o1 with o1;subst o1;refine⟨s.push (.row s.c el k [] false),σ++[s.c],s.c,[],aN.app _ _,(hr.bind (out:=[DV.sl el k []]) (k:=1) rfl).push (so:=.shr S.c el k S.m) (ob:=.row s.c el k [] false) ⟨hr.last _,rfl,rfl,rfl,by rw[<-hr.m];simp⟩,rfl,hr.last _,Nat.lt_succ_self _,?_,by rw[<-hr.m];simp,λw0 N a w E h=>?_⟩
  ·rw[<-hr.n];unfold AS.own? AS.push;simp[ab,Ob.st]
  ·obtain⟨E',h1,h2⟩:=yx (el:=el) h hk;have e1:=aJ h X;rw[hX]at e1;have:a.eval X=.slice none 0 0:=aA e1;exact⟨E',h1,by rw[<-hr.n,h2,this]⟩
 ·rename_i i0 st0;cases y<;>first|exact hc.elim|skip
  rename_i i' st';obtain⟨rfl,hst⟩:=hc;split at h
  ·rename_i a t k' x' ho;split at h
   ·rename_i hh;obtain⟨rfl,rfl⟩:=hh;injection h with h;injection h with e1 h;injection h with e2 h;injection h with e3 h;injection h with e4 e5;subst e1 e2 e3 e4 e5;simp only[aq]at he;injection he with he;subst he;obtain⟨o',k1,k2,k3,k4⟩:=hr.ownR ho hst;cases o'<;>first|exact k2.elim|skip
    rename_i b ty kr es dp;obtain⟨k5,rfl,rfl,-,hx⟩:=k2;obtain rfl:=aT k1 rfl;refine⟨s.shal i' b ty kr es,σ,b,es,aN.refl _,?_,rfl,hst,k4,J1 k1,hx,λw0 N a w E h=>?_⟩
    ·exact hr.upd (s':=s.shal i' b ty kr es) (i:=i') (n':=S.n) (c':=S.c) (so:=.shr st0 ty kr x') (aN.refl _) hr.c hr.n (Nat.le_refl _) k4 rfl (λj hj=>by simp only[AS.shal,az _ _ hj]) (by simp only[AS.shal,ab];exact⟨hst,rfl,rfl,rfl,hx⟩)
    ·obtain⟨E',h1,h2⟩:=K5 h k1;have e1:=aJ h X;rw[hX]at e1;exact⟨E',h1,by rw[h2];exact(aA e1).2 (af k1).2.2⟩
   ·cases h
  ·cases h
 ·rename_i i0 st0 k0 z m;cases y<;>first|exact hc.elim|skip
  rename_i i' st' kx lo n;obtain⟨rfl,hst,rfl,⟨u',e1,e2,rfl⟩,⟨v',e3,e4,rfl⟩⟩:=hc;split at h
  ·rename_i a t k' x' ho;split at h
   ·rename_i hh;obtain⟨rfl,rfl⟩:=hh;injection h with h;injection h with h1 h;injection h with h2 h;injection h with h3 h;injection h with h4 h5;subst h1 h2 h3 h4 h5;obtain⟨o',k1,k2,k3,k4⟩:=hr.ownR ho hst;cases o'<;>first|exact k2.elim|skip
    rename_i b ty kr es dp;obtain⟨k5,rfl,rfl,-,hx⟩:=k2;obtain rfl:=aT k1 rfl;obtain⟨out,o1,rfl⟩:=au he;simp only[av,hx,e1,e3]at o1;split at o1
    ·rename_i dD;obtain⟨hu0,hle⟩:=dD;subst hu0;injection o1 with o1;subst o1;refine⟨s.cutS i' ty kr v'.toNat es,σ++[s.c],s.c,_,aN.app _ _,?_,rfl,hr.last _,k4,Im (by rw[hr.n];exact k4),by rw[<-hr.m];simp,λw0 N a w E h=>?_⟩
     ·have hb:=hr.bind (out:=[DV.sl ty kr (es.take v'.toNat)]) (k:=1) rfl
      exact hb.upd (s':=s.cutS i' ty kr v'.toNat es) (i:=i') (n':=S.n) (c':=S.c+1) (so:=.shr S.c ty kr S.m) (aN.app _ [s.c]) (by have:=hr.c;simp at this ⊢;omega) hb.n (Nat.le_refl _) k4 rfl (λj hj=>az _ _ hj)
       (by simp only[AS.cutS,ab];exact⟨hr.last _,rfl,rfl,rfl,by rw[<-hr.m];simp⟩)
     ·have e5:=aJ h X;rw[hX]at e5;obtain⟨A,M,cp,B,q2,q3,q4,q5,q6⟩:=(aA e5).2 (af k1).2.2;obtain rfl:=q5 rfl;obtain⟨E',h1,h2,-⟩:=Eg h k1 q2 hle;exact⟨E',h1,by rw[h2,q4];rfl⟩
    ·cases o1
   ·cases h
  ·cases h
 ·cases h
def Fc(P:Program)(S:Sy)(el k:Nat):SC->Option (List PO×Nat×Sy)
 |.d y=>some ([],y,S)
 |.nil=>some ([.e el k],S.m,S.bind 1)
 |.emp=>some ([.e el k],S.m,S.bind 1)
 |.own j st=>(match S.ownR j st with
  |some (.row _ _ _ y)=>some ([],y,S)
  |some (.frz _ y)=>some ([],y,S)
  |some (.arr _ t k0 es)=>if k0=k then(match t9 true es.flatten (List.replicate es.length (gO P 9 t)).flatten S with
   |some (p,xs,S1)=>if xs.length=es.length*k then some (p++[.mk t k (ym k es.length xs)],S1.m,S1.bind 1)else none
   |none=>none)else none
  |_=>none)
 |.sub j st k0 z m=>(match S.ownR j st with
  |some (.row _ _ k2 x)=>if k2=k0 then some ([.viewD x z m],S.m,S.bind 1)else none
  |_=>none)
 |_=>none
theorem HU{i st t k:Nat}{es:List (List AC)}{news:List (List DV)}(hi:s.own? i st=some (.arr st t k es))(hl:es.length=news.length)(hu:∀e∈news,e.length=k)(hf:z6 s es.flatten news.flatten):xZ s k (.own i st) news:=by
 intro w0 N a w E v h hc;obtain⟨hin,hob,hlv⟩:=af hi;obtain rfl:v=E.v i:=hc.2 hlv;have hO:=h.obj i hin;rw[hob]at hO;obtain⟨g,vals,_,e1,em,eo,hge,hmx,hB,hk,hun,hcs⟩:=hO;refine⟨some ⟨g,0,none⟩,es.length,vals,λ_=>True,by rw[e1,hl],⟨by rw[<-hcs.1,eI hun,hl],by omega,hmx,λ_=>⟨_,rfl,trivial,λq u hq=>?_⟩⟩,zF h hcs hf,hu⟩;rw[wh,hB.cell];simpa using hq
theorem AP{F:Bool}:∀{cs:List SC} {ty:List (Option (Nat×Nat))} {S S':Sy} {ps:List PO} {xs:List Nat},t9 F cs ty S=some (ps,xs,S')->S'.ob=S.ob/\S'.n=S.n/\S'.c=S.c
 |[],ty,S,S',ps,xs,h=>by simp only[t9]at h;injection h with h;injection h with _ h;injection h with _ h;subst h;exact⟨rfl,rfl,rfl⟩
 |c::cs,ty,S,S',ps,xs,h=>by
  cases c<;>simp only[t9]at h<;>(try cases h)
  all_goals repeat' split at h
  all_goals first
   |(cases h;done)
   |(rename_i h1;injection h with h;injection h with _ h;injection h with _ h;subst h;have h2:=AP h1;exact h2)
theorem Cn{el k y t':Nat}{c:SC}{yc:AC}{es:List (List DV)}(h:Fc P S el k c=some (ps,y,S'))(he:aq ps ρ=some ρ')(hr:aO S ρ σ s)(hc:RC ρ σ c yc)(hy:ρ'[y]? =some (.sl t' k es)):
 xZ s k yc es/\aO S' ρ' σ s/\S'.ob=S.ob/\S'.n=S.n/\S'.c=S.c:=by
 unfold Fc at h;split at h
 ·injection h with h;injection h with e1 h;injection h with e2 e3;subst e1 e2 e3;simp only[aq]at he;injection he with he;subst he;obtain⟨x,rfl,hx⟩:=nk hc;rw[hy]at hx;injection hx with hx;subst hx;exact⟨Pz,hr,rfl,rfl,rfl⟩
 ·injection h with h;injection h with e1 h;injection h with e2 e3;subst e1 e2 e3;cases yc<;>first|exact hc.elim|skip
  obtain⟨out,o1,rfl⟩:=au he;simp only[av]at o1;injection o1 with o1;subst o1;rw[<-hr.m]at hy;simp at hy;obtain⟨rfl,rfl⟩:=hy;exact⟨yz (.inl rfl),hr.bind rfl,rfl,rfl,rfl⟩
 ·injection h with h;injection h with e1 h;injection h with e2 e3;subst e1 e2 e3;cases yc<;>first|exact hc.elim|skip
  obtain⟨out,o1,rfl⟩:=au he;simp only[av]at o1;injection o1 with o1;subst o1;rw[<-hr.m]at hy;simp at hy;obtain⟨rfl,rfl⟩:=hy;exact⟨yz (.inr rfl),hr.bind rfl,rfl,rfl,rfl⟩
 ·rename_i j st;cases yc<;>first|exact hc.elim|skip
  rename_i j' st';obtain⟨rfl,hst⟩:=hc;split at h
  ·rename_i a tt kk y' ho;injection h with h;injection h with e1 h;injection h with e2 e3;subst e1 e2 e3;simp only[aq]at he;injection he with he;subst he;obtain⟨o',n1,n2,n3,n4⟩:=hr.ownR ho hst;cases o'<;>first|exact n2.elim|skip
   rename_i b ty kr es' dp;obtain⟨n5,rfl,rfl,-,n6⟩:=n2;obtain rfl:=aT n1 rfl;rw[n6]at hy;injection hy with hy;injection hy with y1 y2 y3;subst y1 y2 y3;exact⟨HV n1,hr,rfl,rfl,rfl⟩
  ·rename_i a y' ho;injection h with h;injection h with e1 h;injection h with e2 e3;subst e1 e2 e3;simp only[aq]at he;injection he with he;subst he;obtain⟨o',n1,n2,n3,n4⟩:=hr.ownR ho hst;cases o'<;>first|exact n2.elim|skip
   rename_i b yy;obtain⟨n5,n6⟩:=n2;obtain rfl:=aT n1 rfl;rw[n6]at hy;injection hy with hy;subst hy;exact⟨Hz n1,hr,rfl,rfl,rfl⟩
  ·rename_i a tt k0 es0 ho;split at h
   ·rename_i hk;subst hk;split at h
    ·rename_i p xs S1 hrd;split at h
     ·rename_i hlen;injection h with h;injection h with e1 h;injection h with e2 e3;subst e1 e2 e3;obtain⟨ρ1,a1,a2⟩:=ac he;obtain⟨o',n1,n2,n3,n4⟩:=hr.ownR ho hst;cases o'<;>first|exact n2.elim|skip
      rename_i b ty kr es';obtain⟨n5,rfl,rfl,n6⟩:=n2;obtain rfl:=aT n1 rfl;obtain⟨ds,d1,-,d3,d4⟩:=eT hrd a1 hr n6.flat;obtain⟨rows,r1,r2,r3,r4⟩:=ry (n:=es0.length) d1 hlen;obtain⟨out,o1,rfl⟩:=au a2;rw[zv r1 r4]at o1;injection o1 with o1;subst o1;have hy':=hy;rw[<-d4.m]at hy';simp at hy';obtain⟨rfl,rfl⟩:=hy';obtain⟨q1,q2,q3⟩:S1.ob=S.ob/\S1.n=S.n/\S1.c=S.c:=AP hrd;exact⟨HU n1 (by rw[r3];exact(Ah.len n6).symm) r4 (by rw[r2];exact d3 rfl),d4.bind rfl,q1,q2,q3⟩
     ·cases h
    ·cases h
   ·cases h
  ·cases h
 ·rename_i j st k0 z m;split at h
  ·rename_i a tt k2 x ho;split at h
   ·rename_i hk;subst hk;injection h with h;injection h with e1 h;injection h with e2 e3;subst e1 e2 e3;obtain⟨t,kk,es0,u,v,h1,h2,h3,rfl⟩:=tU he;have hy':=hy;rw[<-hr.m]at hy';simp at hy';obtain⟨rfl,rfl,rfl⟩:=hy';cases yc<;>first|exact hc.elim|skip
    rename_i j' st' k' lo n;obtain⟨rfl,hst,rfl,⟨u',e1,e2,rfl⟩,⟨v',e3,e4,rfl⟩⟩:=hc;rw[h2]at e1;injection e1 with e1;injection e1 with e1;injection e1 with _ e1;subst e1;rw[h3]at e3;injection e3 with e3;injection e3 with e3;injection e3 with _ e3;subst e3;obtain⟨o',n1,n2,n3,n4⟩:=hr.ownR ho hst;cases o'<;>first|exact n2.elim|skip
    rename_i b ty kr es' dp;obtain⟨n5,rfl,rfl,-,n6⟩:=n2;obtain rfl:=aT n1 rfl;rw[h1]at n6;injection n6 with n6;injection n6 with g1 g2 g3;subst g1 g2 g3;exact⟨Ia n1,hr.bind rfl,rfl,rfl,rfl⟩
   ·cases h
  ·cases h
 ·cases h
def Il(P:Program)(S:Sy)(d:Option Nat)(X Y:Operand)(t:TypeId):Option (List Nd×Sy):=
 match fh P t with
 |some (el,k)=>(match ci P el,Cs P el with
  |some zs,some b=>if zs.length=k/\0<k then(match iO S Y with
   |some (q,u,S1)=>(match iO S1 X with
    |some (p,v,S2)=>(match one v,one u with
     |some cx,some cy=>(match NU S2 el k cx with
      |some (r,i,st,x,S3)=>(match Fc P S3 el k cy with
       |some (qq,y,S4)=>some ((q++(p++(r++(qq++[PO.app el k b x y])))).map .po,{ (S4.bind 1)with ob:=(i,.shr S4.c el k S4.m)::S4.ob,c:=S4.c+1}.put d (.p false [.own i S4.c]))
       |none=>none)
      |none=>none)
     |_,_=>none)
    |none=>none)
   |none=>none)else none
  |_,_=>none)
 |none=>none
def Ur(P:Program)(S:Sy)(X Y:Operand)(t:TypeId):Bool:=match fh P t with
 |some (el,_)=>!(Iw P el)&&((match X with
  |.tmp x=>(match aG S.sl x with
   |some (.p false [.own i st])=>(match S.own i st with|some (.shr _ _ _ _)=>true|_=>false)
   |some (.p false [.sub i st _ _ _])=>(match S.own i st with|some (.shr _ _ _ _)=>true|_=>false)
   |_=>false)
  |_=>false)||(match Y with
  |.tmp y=>(match aG S.sl y with
   |some (.p false [.d _])=>true
   |some (.p false [.sub _ _ _ _ _])=>true
   |some (.p false [.own i st])=>(match S.own i st with|some (.row _ _ _ _)=>false|some (.dx _ _)=>false|_=>true)
   |_=>false)
  |_=>false))
 |none=>false
theorem FY{X Y:Operand}{t:TypeId}(ho:o.op=.call ⟨.builtin .append,#[X,Y],#[t,t]⟩)(h:Il P S o.dst X Y t=some (dl,S'))(hd:dB N o.dst=true)(hr:aO S ρ σ s)(hw:WN P dl K ρ):fC P N o s S' K:=by
 unfold Il at h;split at h
 ·rename_i el k ht;split at h
  ·rename_i zs b hz hby
   split at h
   ·rename_i hzk;split at h
    ·rename_i q u S1 hu;split at h
     ·rename_i p v S2 hv;split at h
      ·rename_i cx cy hone hcy;split at h
       ·rename_i r i st x S3 htg;split at h
        ·rename_i qq y S4 hsrc;injection h with h;injection h with e1 e2;subst e1 e2;obtain⟨ρ',he,hK⟩:=bn hw;obtain⟨ρ1,c1,c2⟩:=ac he;obtain⟨ρ2,d1,d2⟩:=ac c2;obtain⟨ρ3,f1,f2⟩:=ac d2;obtain⟨ρ4,g1,g2⟩:=ac f2;obtain⟨k1,k2⟩:=aQ hu c1 hr;obtain⟨m1,m2⟩:=aQ hv d1 k2;obtain⟨acx,x1,x2⟩:=bg hone m1;obtain⟨acy,y1,y2⟩:=bg hcy k1;obtain⟨s3,σ3,st3,es,t1,t2,t3,t4,t5,t6,t7,t8⟩:=Ku htg f1 m2 x2 x1 hzk.2;obtain⟨es0,fs,t',a1,a2,a3,a4,rfl⟩:=kF g2
         have hes:es0=es:=by
          have:=(ai g1).get t7;rw[a1]at this;injection this with this;injection this
         subst hes;obtain⟨b1,b2,b3,b4,b5⟩:=Cn hsrc g1 t2 (y2.mono ((ai d1).trans (ai f1)) t1) a2
         have hY:s3.ev Y=.p false [acy]:=by
          rw[<-y1];cases Y<;>simp only[AS.ev,t3]
         refine⟨_,σ3++[s3.c],_,Me ho (eb hd) ht hz hzk.1 hby t8 hY b1 t6 a3 a4,?_,hK⟩;have hb3:=b2.bind (out:=[DV.sl el k (es0++fs)]) (k:=1) rfl;have hl:=b2.last s3.c
         have:=hb3.upd (s':={s3 with ob:=upd s3.ob i (.row s3.c el k (es0++fs) false),c:=s3.c+1}) (i:=i) (n':=(S4.bind 1).n) (c':=S4.c+1) (so:=.shr S4.c el k S4.m) (aN.app _ [s3.c]) (by have:=b2.c;simp at this ⊢;omega) hb3.n (Nat.le_refl _) (by show i<S4.n;rw[b4];exact t5) rfl (λj hj=>az _ _ hj)
          (by simp only[ab];exact⟨hl,rfl,rfl,rfl,by rw[<-b2.m];simp⟩)
         exact this.put ⟨rfl,⟨rfl,hl⟩,trivial⟩
        ·cases h
       ·cases h
      ·cases h
     ·cases h
    ·cases h
   ·cases h
  ·cases h
 ·cases h
def I6(pv:Bool)(st:Nat)(T:TypeId)(cs:List SC):SO:=if pv then .pvr st T cs else .var st T cs
def sV(S:Sy)(i st:Nat):Option (Bool×TypeId×List SC):=match S.own i st with
 |some (.var _ T cs)=>some (false,T,cs)
 |some (.pvr _ T cs)=>some (true,T,cs)
 |_=>none
theorem Ag{pv:Bool}{st st':Nat}{T:TypeId}{cs:List SC}{acs:List AC}(h1:σ[st]? =some st')(h2:cj ρ σ cs acs):RO ρ σ (I6 pv st T cs) (kz pv st' T acs):=by
 cases pv
 ·exact⟨h1,rfl,h2⟩
 ·exact⟨h1,rfl,h2⟩
theorem BG{i st st':Nat}{pv:Bool}{T:TypeId}{cs:List SC}(h:sV S i st=some (pv,T,cs))(hr:aO S ρ σ s)(hs:σ[st]? =some st'):∃acs,s.own? i st'=some (kz pv st' T acs)/\cj ρ σ cs acs/\i<S.n:=by
 unfold sV at h;split at h
 ·rename_i a T' cs' ho;injection h with h;injection h with e1 h;injection h with e2 e3;subst e1 e2 e3;obtain⟨o',k1,k2,k3,k4⟩:=hr.own ho hs;cases o'<;>first|exact k2.elim|skip
  obtain⟨k5,rfl,k6⟩:=k2;obtain rfl:=aT k1 rfl;exact⟨_,k1,k6,k4⟩
 ·rename_i a T' cs' ho;injection h with h;injection h with e1 h;injection h with e2 e3;subst e1 e2 e3;obtain⟨o',k1,k2,k3,k4⟩:=hr.own ho hs;cases o'<;>first|exact k2.elim|skip
  obtain⟨k5,rfl,k6⟩:=k2;obtain rfl:=aT k1 rfl;exact⟨_,k1,k6,k4⟩
 ·cases h
def wH(i st:Nat)(pv:Bool)(T:TypeId)(cs:List SC)(j:Nat)(S:Sy):Option (List PO×List SC×Sy):=match cs[j]? with
 |some (.sub r sr k z m)=>(match S.ownR r sr with
  |some (.row _ t k' x)=>if k'=k/\r≠i then some ([.cutP x z m],cs.set j (.own r S.c),{ (S.bind 1)with ob:=(i,I6 pv st T (cs.set j (.own r S.c)))::(r,.shr S.c t k S.m)::S.ob,c:=S.c+1})else none
  |_=>none)
 |_=>none
theorem cj.setV{x:SC}{y:AC}(hx:RC ρ σ x y):∀{cs:List SC} {ys:List AC} {j:Nat},cj ρ σ cs ys->cj ρ σ (cs.set j x) (ys.set j y)
 |[],[],_,_=>trivial
 |[],_::_,_,h=>h.elim
 |_::_,[],_,h=>h.elim
 |c::cs,y0::ys,0,h=>⟨hx,h.2⟩
 |c::cs,y0::ys,j+1,h=>⟨h.1,cj.setV hx h.2⟩
theorem BD{i st st' j:Nat}{pv:Bool}{T:TypeId}{cs cs':List SC}{acs:List AC}(h:wH i st pv T cs j S=some (ps,cs',S'))(he:aq ps ρ=some ρ')(hr:aO S ρ σ s)(hs:σ[st]? =some st')(hi:s.own? i st'=some (kz pv st' T acs))(hc:cj ρ σ cs acs):
 ∃s' σ' acs',Fz s s'/\aN σ σ'/\aO S' ρ' σ' s'/\s'.own? i st'=some (kz pv st' T acs')/\cj ρ' σ' cs' acs'/\s'.sl=s.sl:=by
 unfold wH at h;split at h
 ·rename_i r sr k z m hj;split at h
  ·rename_i a t k' x ho;split at h
   ·rename_i hk;obtain⟨rfl,hne⟩:=hk;simp only[Option.some.injEq,Prod.mk.injEq]at h;obtain⟨rfl,rfl,rfl⟩:=h;obtain⟨y,hy,hyc⟩:=hc.get hj;cases y<;>first|exact hyc.elim|skip
    rename_i r' sr' kx lo n;obtain⟨rfl,hst,rfl,⟨u',e1,e2,rfl⟩,⟨v',e3,e4,rfl⟩⟩:=hyc;obtain⟨o',k1,k2,k3,k4⟩:=hr.ownR ho hst;cases o'<;>first|exact k2.elim|skip
    rename_i b ty kr es dp;obtain⟨k5,rfl,rfl,-,hx⟩:=k2;obtain rfl:=aT k1 rfl;obtain⟨out,o1,rfl⟩:=au he;simp only[av,hx,e1,e3]at o1;split at o1
    ·rename_i dD;obtain⟨hu0,hle⟩:=dD;subst hu0;injection o1 with o1;subst o1;obtain⟨hin,hob,hlv⟩:=af hi;have hb:=hr.bind (out:=[DV.sl ty kr (es.take v'.toNat)]) (k:=1) rfl
     have h1:=hb.upd (s':=s.cutS r' ty kr v'.toNat es) (i:=r') (n':=S.n) (c':=S.c+1) (so:=.shr S.c ty kr S.m) (aN.app _ [s.c]) (by have:=hr.c;simp at this ⊢;omega) hb.n (Nat.le_refl _) k4 rfl (λj hj=>az _ _ hj)
      (by simp only[AS.cutS,ab];exact⟨hr.last _,rfl,rfl,rfl,by rw[<-hr.m];simp⟩)
     have hcs:cj (ρ++[DV.sl ty kr (es.take v'.toNat)]) (σ++[s.c]) (cs.set j (.own r' S.c)) (acs.set j (.own r' s.c)):=cj.setV (x:=.own r' S.c) (y:=.own r' s.c) ⟨rfl,hr.last _⟩ (hc.mono (aN.app _ _) (aN.app _ _));have hst':(σ++[s.c])[st]? =some st':=(aN.app σ [s.c]).get hs;have hu:=h1.upd (s':=s.cutC i st' j pv T acs r' ty kr v'.toNat es) (i:=i) (n':=S.n) (c':=S.c+1) (so:=I6 pv st T (cs.set j (.own r' S.c))) (aN.refl _) h1.c h1.n (Nat.le_refl _) (by have:=hr.n;omega) rfl (λq hq=>az _ _ hq) (by simp only[AS.cutC,ab];exact Ag hst' hcs);refine⟨s.cutC i st' j pv T acs r' ty kr v'.toNat es,σ++[s.c],_,λw0 N a w E h=>LY h hi hy k1 hle,aN.app _ _,hu,?_,hcs,rfl⟩;unfold AS.own? AS.cutC;simp only[ab,fO];rw[if_pos (by exact hin)];simp
    ·cases o1
   ·cases h
  ·cases h
 ·cases h
def dV(i st:Nat)(pv:Bool)(T:TypeId):List (Bool×Option (Nat×Nat))->Nat->List SC->Sy->List PO×List SC×Sy
 |(true,some (el,k))::r,j,cs,S=>if cs[j]? =some .nil/\0<k then
  (match dV i st pv T r (j+1) (cs.set j (.own S.n S.c)) { ((S.bind 1).push (.shr S.c el k S.m))with ob:=(i,I6 pv st T (cs.set j (.own S.n S.c)))::((S.bind 1).push (.shr S.c el k S.m)).ob}with
  |(p,cs',S')=>(.e el k::p,cs',S'))else(match wH i st pv T cs j S with
  |some (q,cs1,S1)=>(match dV i st pv T r (j+1) cs1 S1 with|(p,cs',S')=>(q++p,cs',S'))
  |none=>dV i st pv T r (j+1) cs S)
 |_::r,j,cs,S=>dV i st pv T r (j+1) cs S
 |[],_,cs,S=>([],cs,S)
theorem im{i st:Nat}{pv:Bool}{T:TypeId}:∀{bs:List (Bool×Option (Nat×Nat))} {j:Nat} {cs cs':List SC} {S S':Sy} {ps:List PO} {ρ ρ':List DV} {σ:List Nat} {s:AS} {st':Nat} {acs:List AC},dV i st pv T bs j cs S=(ps,cs',S')->aq ps ρ=some ρ'->aO S ρ σ s->σ[st]? =some st'->s.own? i st'=some (kz pv st' T acs)->cj ρ σ cs acs->
 ∃s' σ' acs',Fz s s'/\aN σ σ'/\aO S' ρ' σ' s'/\s'.own? i st'=some (kz pv st' T acs')/\cj ρ' σ' cs' acs'/\s'.sl=s.sl
 |[],j,cs,cs',S,S',ps,ρ,ρ',σ,s,st',acs,h,he,hr,hs,hi,hc=>by
  simp only[dV,Prod.mk.injEq]at h;obtain⟨rfl,rfl,rfl⟩:=h;simp only[aq]at he;injection he with he;subst he
  exact⟨s,σ,acs,λ_ _ _ _ E h=>⟨E,h⟩,aN.refl _,hr,hi,hc,rfl⟩
 |(true,some (el,k))::r,j,cs,cs',S,S',ps,ρ,ρ',σ,s,st',acs,h,he,hr,hs,hi,hc=>by
  simp only[dV]at h;split at h
  ·rename_i hj;obtain⟨hj,hk⟩:=hj;generalize hn:dV i st pv T r (j+1) (cs.set j (.own S.n S.c)) { ((S.bind 1).push (.shr S.c el k S.m))with ob:=(i,I6 pv st T (cs.set j (.own S.n S.c)))::((S.bind 1).push (.shr S.c el k S.m)).ob}=q at h;obtain⟨p,cs1,S1⟩:=q;simp only[Prod.mk.injEq]at h;obtain⟨rfl,rfl,rfl⟩:=h;obtain⟨ρ1,a1,a2⟩:=ac (ps:=[.e el k]) (qs:=p) he;obtain⟨out,o1,rfl⟩:=au a1;simp only[av]at o1;injection o1 with o1;subst o1;obtain⟨y,hy,hyc⟩:=hc.get hj;cases y<;>first|exact hyc.elim|skip
   obtain⟨hin,hob,hlv⟩:=af hi;have hp:=(hr.bind (out:=[DV.sl el k []]) (k:=1) rfl).push (so:=.shr S.c el k S.m) (ob:=.row s.c el k [] false) ⟨hr.last _,rfl,rfl,rfl,by rw[<-hr.m];simp⟩;have hcs:cj (ρ++[DV.sl el k []]) (σ++[s.c]) (cs.set j (.own S.n S.c)) (acs.set j (.own s.n s.c)):=cj.setV (x:=.own S.n S.c) (y:=.own s.n s.c) ⟨hr.n,hr.last _⟩ (hc.mono (aN.app _ _) (aN.app _ _));have hst:(σ++[s.c])[st]? =some st':=(aN.app σ [s.c]).get hs;have hu:=hp.upd (s':=s.nilV i st' el k j pv T acs) (i:=i) (n':=S.n+1) (c':=S.c+1) (so:=I6 pv st T (cs.set j (.own S.n S.c))) (aN.refl _) hp.c hp.n (Nat.le_refl _) (by have:=hr.n;omega) rfl (λq hq=>az _ _ hq) (by simp only[AS.nilV,ab];exact Ag hst hcs)
   have hi':(s.nilV i st' el k j pv T acs).own? i st'=some (kz pv st' T (acs.set j (.own s.n s.c))):=by
    unfold AS.own? AS.nilV;simp only[ab,fO];rw[if_pos (by simp only[AS.push];omega)];simp
   obtain⟨s',σ',acs',k1,k2,k3,k4,k5,k6⟩:=im hn a2 hu hst hi' hcs;exact⟨s',σ',acs',Fz.trans (λw0 N a w E h=>L9 h hk hi hy) k1,(aN.app _ _).trans k2,k3,k4,k5,k6⟩
  ·split at h
   ·rename_i q cs1 S1 dD;generalize hn:dV i st pv T r (j+1) cs1 S1=x at h;obtain⟨p,cs2,S2⟩:=x;simp only[Prod.mk.injEq]at h;obtain⟨rfl,rfl,rfl⟩:=h;obtain⟨ρ1,a1,a2⟩:=ac he;obtain⟨s1,σ1,acs1,f1,f2,f3,f4,f5,f6⟩:=BD dD a1 hr hs hi hc;obtain⟨s',σ',acs',k1,k2,k3,k4,k5,k6⟩:=im hn a2 f3 (f2.get hs) f4 f5;exact⟨s',σ',acs',f1.trans k1,f2.trans k2,k3,k4,k5,k6.trans f6⟩
   ·exact im h he hr hs hi hc
 |(true,none)::r,j,cs,cs',S,S',ps,ρ,ρ',σ,s,st',acs,h,he,hr,hs,hi,hc=>by
  simp only[dV]at h
  exact im h he hr hs hi hc
 |(false,_)::r,j,cs,cs',S,S',ps,ρ,ρ',σ,s,st',acs,h,he,hr,hs,hi,hc=>by
  simp only[dV]at h;exact im h he hr hs hi hc
def A6:List Bool->List SC->List (Option (Nat×Nat))->Sy->Option (List PO×List Nat×List Nat×Sy)
 |[],[],_,S=>some ([],[],[],S)
 |false::bs,c::cs,ty,S=>(match t9 true [c] [ty.headD none] S with
  |some (p,[x],S1)=>(match A6 bs cs ty.tail S1 with|some (q,xs,R,S2)=>some (p++q,x::xs,R,S2)|none=>none)
  |_=>none)
 |true::bs,.own j st::cs,ty,S=>(match S.ownR j st with
  |some (.row _ _ _ x)=>(match A6 bs cs ty.tail S with|some (q,xs,R,S2)=>some (q,x::xs,j::R,S2)|none=>none)
  |_=>none)
 |_,_,_,_=>none
theorem D2:∀{bs:List Bool} {cs:List SC} {ty:List (Option (Nat×Nat))} {S S':Sy} {ps:List PO} {xs R:List Nat} {ρ ρ':List DV} {acs:List AC},A6 bs cs ty S=some (ps,xs,R,S')->aq ps ρ=some ρ'->aO S ρ σ s->cj ρ σ cs acs->
 ∃ds,RD ρ' xs ds/\ds.length=bs.length/\ol s acs (bs.zip ds)/\aM acs (bs.zip ds)=R/\aO S' ρ' σ s
 |[],[],ty,S,S',ps,xs,R,ρ,ρ',acs,h,he,hr,hc=>by
  simp only[A6,Option.some.injEq,Prod.mk.injEq]at h;obtain⟨rfl,rfl,rfl,rfl⟩:=h;simp only[aq]at he;injection he with he;subst he
  cases acs with
  |nil=>exact⟨[],trivial,rfl,trivial,rfl,hr⟩
  |cons=>exact hc.elim
 |false::bs,c::cs,ty,S,S',ps,xs,R,ρ,ρ',acs,h,he,hr,hc=>by
  simp only[A6]at h;split at h
  ·rename_i p x S1 h1;split at h
   ·rename_i q xs' R' S2 h2;simp only[Option.some.injEq,Prod.mk.injEq]at h;obtain⟨rfl,rfl,rfl,rfl⟩:=h
    cases acs with
    |nil=>exact hc.elim
    |cons y acs=>
     obtain⟨ρ1,a1,a2⟩:=ac he;obtain⟨ds,d1,-,d3,d4⟩:=eT h1 a1 hr (ys:=[y]) ⟨hc.1,trivial⟩;obtain⟨ds2,e1,e2,e3,e4,e5⟩:=D2 h2 a2 d4 (hc.2.mono (ai a1) (aN.refl _))
     match ds,d1,d3 rfl with
     |[d],d1,d3=>
      refine⟨d::ds2,⟨(ai a2).get d1.1,e1⟩,by simp[e2],⟨?_,e3⟩,?_,e5⟩
      ·have:=d3.1;cases y<;>exact this
      ·have:aM (y::acs) ((false,d)::bs.zip ds2)=aM acs (bs.zip ds2):=by cases y<;>rfl
       show aM (y::acs) ((false,d)::bs.zip ds2)=_
       rw[this,e4]
     |[],d1,d3=>exact d3.elim
     |_::_::_,d1,d3=>exact d3.2.elim
   ·cases h
  ·cases h
 |true::bs,.own j st::cs,ty,S,S',ps,xs,R,ρ,ρ',acs,h,he,hr,hc=>by
  simp only[A6]at h;split at h
  ·rename_i a t k x ho;split at h
   ·rename_i q xs' R' S2 h2;simp only[Option.some.injEq,Prod.mk.injEq]at h;obtain⟨rfl,rfl,rfl,rfl⟩:=h
    cases acs with
    |nil=>exact hc.elim
    |cons y acs=>
     obtain⟨hc1,hc2⟩:=hc;cases y<;>first|exact hc1.elim|skip
     rename_i j' st';obtain⟨rfl,hst⟩:=hc1;obtain⟨o',k1,k2,k3,k4⟩:=hr.ownR ho hst;cases o'<;>first|exact k2.elim|skip
     rename_i b ty' kr es dp;obtain⟨k5,rfl,rfl,-,hx⟩:=k2;obtain rfl:=aT k1 rfl;obtain⟨ds2,e1,e2,e3,e4,e5⟩:=D2 h2 he hr hc2;refine⟨.sl ty' kr es::ds2,⟨(ai he).get hx,e1⟩,by simp[e2],⟨⟨ty',kr,es,dp,rfl,k1⟩,e3⟩,?_,e5⟩;show j'::aM acs (bs.zip ds2)=_;rw[e4]
   ·cases h
  ·cases h
 |[],_::_,_,_,_,_,_,_,_,_,_,h,_,_,_=>by simp[A6]at h
 |false::_,[],_,_,_,_,_,_,_,_,_,h,_,_,_=>by simp[A6]at h
 |true::_,[],_,_,_,_,_,_,_,_,_,h,_,_,_=>by simp[A6]at h
 |true::_,.d _::_,_,_,_,_,_,_,_,_,_,h,_,_,_=>by simp[A6]at h
 |true::_,.nil::_,_,_,_,_,_,_,_,_,_,h,_,_,_=>by simp[A6]at h
 |true::_,.emp::_,_,_,_,_,_,_,_,_,_,h,_,_,_=>by simp[A6]at h
 |true::_,.ptr _ _ _::_,_,_,_,_,_,_,_,_,_,h,_,_,_=>by simp[A6]at h
 |true::_,.elt _ _ _ _ _::_,_,_,_,_,_,_,_,_,_,h,_,_,_=>by simp[A6]at h
 |true::_,.sub _ _ _ _ _::_,_,_,_,_,_,_,_,_,_,h,_,_,_=>by simp[A6]at h
 |true::_,.rd _::_,_,_,_,_,_,_,_,_,_,h,_,_,_=>by simp[A6]at h
def xX:List Bool->List (Option (Nat×Nat))->Nat->Sy->List SC×Sy
 |true::bs,some (t,k)::ty,m,S=>let r:=xX bs ty (m+1) (S.push (.shr S.c t k m));(.own S.n S.c::r.1,r.2)
 |_::bs,_::ty,m,S=>let r:=xX bs ty (m+1) S;(.d m::r.1,r.2)
 |_,_,_,S=>([],S)
def AT:List Bool->List (Option (Nat×Nat))->Bool
 |true::bs,some _::ty=>AT bs ty
 |false::bs,_::ty=>AT bs ty
 |[],[]=>true
 |_,_=>false
theorem vW:∀{bs:List Bool} {ty:List (Option (Nat×Nat))} {ds:List DV} {m:Nat} {S:Sy} {s:AS} {σ:List Nat},AT bs ty=true->mU ty ds=true->RD ρ (cR m ds.length) ds->aO S ρ σ s->
 ∃σ',aN σ σ'/\aO (xX bs ty m S).2 ρ σ' (s.pushL (oY (bs.zip ds) s.c))/\cj ρ σ' (xX bs ty m S).1 (Cr (bs.zip ds) s.n s.c)
 |[],[],ds,m,S,s,σ,hk,hs,hd,hr=>⟨σ,aN.refl _,hr,trivial⟩
 |true::bs,some (t,k)::ty,d::ds,m,S,s,σ,hk,hs,hd,hr=>by
  cases d with
  |sc v=>simp[mU]at hs
  |sl t' k' es=>
   simp only[mU,Bool.and_eq_true,decide_eq_true_eq]at hs;obtain⟨⟨rfl,rfl⟩,hs⟩:=hs;have hp:=hr.push (so:=.shr S.c t' k' m) (ob:=.row s.c t' k' es false) ⟨hr.last _,rfl,rfl,rfl,hd.1⟩;obtain⟨σ',p1,p2,p3⟩:=vW (bs:=bs) (ty:=ty) (m:=m+1) hk hs hd.2 hp
   exact⟨σ',(aN.app _ _).trans p1,p2,⟨hr.n,p1.get (hr.last _)⟩,p3⟩
 |false::bs,x::ty,d::ds,m,S,s,σ,hk,hs,hd,hr=>by
  have hs':mU ty ds=true:=by
   cases x with
   |none=>cases d with
    |sc=>simpa[mU]using hs
    |sl=>simp[mU]at hs
   |some q=>cases d with
    |sc=>simp[mU]at hs
    |sl=>obtain⟨q1,q2⟩:=q;simp only[mU,Bool.and_eq_true]at hs;exact hs.2
  obtain⟨σ',p1,p2,p3⟩:=vW (bs:=bs) (ty:=ty) (m:=m+1) (by simpa[AT]using hk) hs' hd.2 hr;have e1:oY ((false,d)::bs.zip ds) s.c=oY (bs.zip ds) s.c:=by cases d<;>rfl
  have e2:Cr ((false,d)::bs.zip ds) s.n s.c=.d d::Cr (bs.zip ds) s.n s.c:=by cases d<;>rfl
  simp only[List.zip_cons_cons,e1,e2]
  exact⟨σ',p1,p2,hd.1,p3⟩
 |true::_,none::_,_,_,_,_,_,hk,_,_,_=>by simp[AT]at hk
 |[],_::_,_,_,_,_,_,hk,_,_,_=>by simp[AT]at hk
 |true::_,[],_,_,_,_,_,hk,_,_,_=>by simp[AT]at hk
 |false::_,[],_,_,_,_,_,hk,_,_,_=>by simp[AT]at hk
 |true::_,some (_,_)::_,[],_,_,_,_,_,hs,_,_=>by simp[mU]at hs
 |false::_,x::_,[],_,_,_,_,_,hs,_,_=>by cases x<;>simp[mU]at hs
def JJ:Sh->Nat->List (Bool×List SC)
 |[],_=>[]
 |(b,ss,_)::sh,m=>(b,(cR m ss.length).map .d)::JJ sh (m+ss.length)
theorem Bj:∀{rs:List (Bool×List DV)} {sh:Sh} {m:Nat},cM sh (rs.map λr=>(r.1,r.2,true))=true->RD ρ (cR m (bP (rs.map λr=>(r.1,r.2,true))).length) (bP (rs.map λr=>(r.1,r.2,true)))->RT ρ σ (JJ sh m) (rs.map λr=>(r.1,r.2.map .d))
 |[],[],m,h,hd=>trivial
 |[],_::_,m,h,hd=>by rename_i x _;obtain⟨a,b,c⟩:=x;simp[cM]at h
 |_::_,[],m,h,hd=>by simp[cM]at h
 |(b,ds)::rs,(b',ss,o)::sh,m,h,hd=>by
  simp only[List.map_cons,cM,Bool.and_eq_true,decide_eq_true_eq]at h;obtain⟨⟨rfl,rfl⟩,h1,h2⟩:=h;simp only[List.map_cons,bP]at hd;obtain⟨q1,q2⟩:=m0 hd;rw[gX h1]at q1 q2;exact⟨⟨rfl,RD.toC q1⟩,Bj h2 q2⟩
def w8(S:Sy)(R:List Nat):Sy:={S with ob:=(R.reverse.map λj=>(j,SO.dead))++S.ob}
theorem BQ:∀{R:List Nat} {S:Sy} {s:AS},aO S ρ σ s->(∀j∈R,j<S.n)->aO (w8 S R) ρ σ (s.killL R)
 |[],S,s,hr,_=>hr
 |j::R,S,s,hr,hR=>by
  have h1:aO {S with ob:=(j,.dead)::S.ob} ρ σ (s.kill j):=
   hr.upd (s':=s.kill j) (i:=j) (n':=S.n) (c':=S.c) (so:=.dead) (aN.refl _) hr.c hr.n (Nat.le_refl _) (hR j (List.mem_cons_self ..)) rfl (λi hi=>by simp only[AS.kill,az _ _ hi]) trivial
  have h2:=BQ (R:=R) h1 (λi hi=>hR i (List.mem_cons_of_mem _ hi));have:w8 {S with ob:=(j,.dead)::S.ob} R=w8 S (j::R):=by simp[w8]
  rw[this]at h2;exact h2
def AE:List Bool->List SC->List SC
 |false::bs,c::cs=>c::AE bs cs
 |true::bs,_::cs=>AE bs cs
 |_,_=>[]
theorem tP:∀{bs:List Bool} {cs:List SC} {ys:List AC},cj ρ σ cs ys->∃zs,cj ρ σ (AE bs cs) zs
 |[],_,_,_=>⟨[],trivial⟩
 |_::_,[],_,_=>⟨[],by rename_i b _ _ _;cases b<;>trivial⟩
 |_::_,_::_,[],h=>h.elim
 |true::bs,c::cs,y::ys,h=>tP (bs:=bs) h.2
 |false::bs,c::cs,y::ys,h=>by
  obtain⟨zs,k⟩:=tP (bs:=bs) h.2;exact⟨y::zs,h.1,k⟩
def HM(bs:List Bool)(S:Sy)(i st:Nat):Sy:=match sV S i st with|some (_,_,cs)=>(AE bs cs).foldl Ro S|none=>S
theorem CG{bs:List Bool}{i st st':Nat}(hr:aO S ρ σ s)(hs:σ[st]? =some st'):∃s',Fz s s'/\aO (HM bs S i st) ρ σ s':=by
 unfold HM;split
 ·rename_i pv T cs h;obtain⟨acs,h1,h2,-⟩:=BG h hr hs;obtain⟨zs,h3⟩:=tP (bs:=bs) h2;exact Dv hr h3
 ·exact⟨s,λ_ _ _ _ E h=>⟨E,h⟩,hr⟩
def CX(i st:Nat):Option SV->Bool
 |some (.p false [.ptr i' st' 0])=>i'==i&&st'==st
 |_=>false
theorem FT{i st:Nat}{x:Option SV}(h:CX i st x=true):x=some (.p false [.ptr i st 0]):=by
 unfold CX at h;split at h
 ·simp only[Bool.and_eq_true,beq_iff_eq]at h;obtain⟨rfl,rfl⟩:=h;rfl
 ·cases h
theorem ot:∀{n b:Nat},(bN n b).length=n
 |0,_=>rfl
 |n+1,b=>by simp[bN,ot]
theorem ze:∀{bs:List Bool} {ty:List (Option (Nat×Nat))},AT bs ty=true->bs.length=ty.length
 |[],[],_=>rfl
 |true::bs,some _::ty,h=>by simp[ze (bs:=bs) (ty:=ty) h]
 |false::bs,_::ty,h=>by simp[ze (bs:=bs) (ty:=ty) (by simpa[AT]using h)]
 |true::_,none::_,h=>by simp[AT]at h
 |[],_::_,h=>by simp[AT]at h
 |true::_,[],h=>by simp[AT]at h
 |false::_,[],h=>by simp[AT]at h
theorem Gb{i st j:Nat}{pv:Bool}{T:TypeId}{cs cs':List SC}(h:wH i st pv T cs j S=some (ps,cs',S')):cs'.length=cs.length:=by
 unfold wH at h
 repeat' split at h
 all_goals first
  |(cases h;done)
  |(simp only[Option.some.injEq,Prod.mk.injEq]at h;obtain⟨_,rfl,_⟩:=h;simp)
theorem ic{i st:Nat}{pv:Bool}{T:TypeId}:∀{bs:List (Bool×Option (Nat×Nat))} {j:Nat} {cs cs':List SC} {S S':Sy} {ps:List PO},dV i st pv T bs j cs S=(ps,cs',S')->cs'.length=cs.length
 |[],j,cs,cs',S,S',ps,h=>by simp only[dV,Prod.mk.injEq]at h;obtain⟨_,rfl,_⟩:=h;rfl
 |(true,some (el,k))::r,j,cs,cs',S,S',ps,h=>by
  simp only[dV]at h;split at h
  ·generalize hn:dV i st pv T r (j+1) (cs.set j (.own S.n S.c)) { ((S.bind 1).push (.shr S.c el k S.m))with ob:=(i,I6 pv st T (cs.set j (.own S.n S.c)))::((S.bind 1).push (.shr S.c el k S.m)).ob}=q at h;obtain⟨p,cs1,S1⟩:=q;simp only[Prod.mk.injEq]at h;obtain⟨_,rfl,_⟩:=h;rw[ic hn,List.length_set]
  ·split at h
   ·rename_i q cs1 S1 dD;generalize hn:dV i st pv T r (j+1) cs1 S1=x at h;obtain⟨p,cs2,S2⟩:=x;simp only[Prod.mk.injEq]at h;obtain⟨_,rfl,_⟩:=h;rw[ic hn,Gb dD]
   ·exact ic h
 |(true,none)::r,j,cs,cs',S,S',ps,h=>by simp only[dV]at h;exact ic h
 |(false,_)::r,j,cs,cs',S,S',ps,h=>by simp only[dV]at h;exact ic h
theorem HJ{l:List (Bool×List SC)}{rs:List (Bool×List DV)}(h:RT ρ σ l (rs.map λr=>(r.1,r.2.map .d))):RV ρ σ (mj l) (wm rs):=by
 unfold mj wm
 match l,rs,h with
 |[],[],h=>exact h
 |[(b,cs)],[(b',cs')],h=>exact h.1
 |x::y::l,x'::y'::l',h=>exact h
 |[x],_::_::_,h=>exact h.2.elim
 |_::_::_,[x],h=>exact h.2.elim
def ux(T bits f:Nat):Nat:=(1000000+(T*64+bits))*1000000+f
theorem GZ{T b f T2 b2 f2:Nat}(h:ux T b f=(1000000+(T2*64+b2))*1000000+f2)(h1:f<1000000)(h2:f2<1000000)(h3:b<64)(h4:b2<64):T=T2/\b=b2/\f=f2:=by
 unfold ux at h;have e1:T*64+b=T2*64+b2:=by omega
 refine⟨by omega,by omega,by omega⟩
def DL(P:Program)(S:Sy)(d:Option Nat)(f bits:Nat)(args:List Operand)(ts:List TypeId):Option (List Nd×Sy):=
 match args with
 |.tmp x::xs=>(match aG S.sl x with
  |some (.p false [.ptr i st 0])=>(match sV (SM (HM (bN 6 bits) S i st) xs) i st with
   |some (pv,T,cs)=>(match dV i st pv T ((bN cs.length bits).zip (gO P 9 T)) 0 cs (SM (HM (bN 6 bits) S i st) xs)with
    |(p1,cs1,S2)=>(match A6 (bN cs.length bits) cs1 (gO P 9 T) S2 with
     |some (p2,ids,R,S3)=>(match JY P ⟨λ_=>true,false,[],[],[],[],[],[]⟩ f,o7 true P xs ts.tail S3 with
      |some sh,some (p3,as0,S4)=>if P.funcs.size<=1000000/\f<1000000/\bits<64/\i<S4.n/\R.Nodup/\(∀j∈R,j<S4.n)/\AT (bN cs.length bits) (gO P 9 T)=true/\CX i st (aG S4.sl x)=true then
       (match xX (bN cs.length bits) (gO P 9 T) S4.m (w8 (S4.bind (cs.length+dJ sh)) R)with
       |(cs',S5)=>some ((p1++(p2++p3)).map .po++[.call (ux T bits f) ((true,ids)::as0) ((true,gO P 9 T,true)::sh)],{S5 with ob:=(i,I6 pv st T cs')::S5.ob}.put d (mj (JJ sh (S4.m+cs.length)))))else none
      |_,_=>none)
     |none=>none))
   |none=>none)
  |_=>none)
 |_=>none
theorem Eb{f bits:Nat}{args:Array Operand}{ts:Array TypeId}(ho:o.op=.call ⟨.value (.func f),args,ts⟩)(h:DL P S o.dst f bits args.toList ts.toList=some (dl,S'))(hd:dB N o.dst=true)(hr:aO S ρ σ s)(hw:WN P dl K ρ):fC P N o s S' K:=by
 unfold DL at h;split at h
 ·rename_i x xs hargs;split at h
  ·rename_i i st hx;split at h
   ·rename_i pv T cs hV;split at h;rename_i p1 cs1 S2 hN;split at h
    ·rename_i p2 ids R S3 hC;split at h
     ·rename_i sh p3 as0 S4 hsh has;split at h
      ·rename_i hall;obtain⟨hsz,hf6,hb6,hi4,hnd,hR,hok,hx4⟩:=hall;have hf6:f<1000000:=hf6;split at h;rename_i cs' S5 hA;injection h with h;injection h with e1 e2;subst e1 e2;obtain⟨ρ3,he,hw2⟩:=bn (kw hw);simp only[WN]at hw2;obtain⟨ys,res,w1,w2,w3,w4⟩:=hw2;obtain⟨ρ1,a1,a2⟩:=ac he;obtain⟨ρ2,b1,b2⟩:=ac a2;have hv:=hr.sl _ _ hx
       have hst:∃st',σ[st]? =some st':=by
        cases hsx:s.sl x with
        |tup=>rw[hsx]at hv;exact hv.elim
        |und=>rw[hsx]at hv;exact hv.elim
        |p b cs0=>
         rw[hsx]at hv;obtain⟨rfl,hv⟩:=hv
         match cs0,hv with
         |[c],hv=>
          cases c<;>first|exact hv.1.elim|skip
          exact⟨_,hv.1.2.1⟩
       obtain⟨st',hst⟩:=hst;obtain⟨s1,f1,r1⟩:=CG (bs:=bN 6 bits) (i:=i) hr hst;obtain⟨s2,f2,r2⟩:=Dn (xs:=xs) r1;obtain⟨acs,v1,v2,v3⟩:=BG hV r2 hst;obtain⟨s3,σ3,acs3,n1,n2,n3,n4,n5,n6⟩:=im hN a1 r2 hst v1 v2;obtain⟨ds,c1,c2,c3,c4,c5⟩:=D2 hC b1 n3 n5;obtain⟨zs,y1,-,y3,y4⟩:=io has b2 c5;have hst3:σ3[st]? =some st':=n2.get hst;refine l6 f1 (l6 f2 (l6 n1 ?_));simp only[cV,c1.app_pre (ai b2),y1]at w1;injection w1 with w1;subst w1
       have hm:∃cs2 rs,res=(true,cs2,true)::rs.map (λr=>(r.1,r.2,true))/\zL P f T ((bN ds.length bits).zip ds) zs ((bN ds.length bits).zip cs2) rs:=by
        generalize hf:ux T bits f=f' at w2;have hge:1000000000000<=f':=by rw[<-hf];unfold ux;omega
        generalize hz:(true,ds)::zs=q at w2;clear w4 a1 a2 b1 b2 he hw hA hR has hN hC hV
        cases w2 with
        |n h=>
         have hc:=h.1;unfold bf at hc;rw[Array.getElem?_eq_none (Nat.le_trans hsz (by omega))]at hc
         cases hc
        |p h=>
         have hc:=h.1;unfold bf at hc;rw[Array.getElem?_eq_none (Nat.le_trans hsz (by omega))]at hc
         cases hc
        |c h=>cases hz
        |w h=>
         have hc:=h.1;unfold bf at hc;rw[Array.getElem?_eq_none (Nat.le_trans hsz (by omega))]at hc
         cases hc
        |@g f2 bits2 ys2 res2 hb2 h=>
         have hc:=h.1;unfold bf at hc;rw[Array.getElem?_eq_none (Nat.le_trans hsz (by omega))]at hc
         cases hc
        |@v f2 bits2 T2 cs2 ys2 cs3 res2 hb2 h=>
         injection hz with z1 z2;injection z1 with _ z1;subst z1 z2;rcases Nat.lt_or_ge f2 1000000 with hf2|hf2
         ·obtain⟨e3,e2,e1⟩:=GZ hf hf6 hf2 hb6 hb2;subst e1 e2 e3;exact⟨_,_,rfl,h⟩
         ·have hc:=h.1;unfold bf at hc;rw[Array.getElem?_eq_none (Nat.le_trans hsz (by omega))]at hc;cases hc
       obtain⟨cs2,rs,rfl,hm⟩:=hm;simp only[cM,Bool.and_eq_true,decide_eq_true_eq]at w3;obtain⟨-,w3,w5⟩:=w3;have hcl:acs3.length=cs.length:=by have:=n5.len;rw[<-this];exact ic hN
       have hdl:ds.length=cs.length:=by rw[c2,ot]
       have hl2:cs2.length=cs.length:=by rw[gX w3];have:=ze hok;rw[ot]at this;exact this.symm
       rw[hdl]at hm;have hlr:=iJ w5;simp only[bP]at w4;have hb:=y4.bind (out:=cs2++bP (rs.map λr=>(r.1,r.2,true))) (k:=cs.length+dJ sh) (by simp[hlr,hl2]);have hkk:=BQ (R:=R) hb hR;have hrd:=fa (e:=cs2++bP (rs.map λr=>(r.1,r.2,true))) y4.m rfl;obtain⟨q1,q2⟩:=m0 hrd;have hA1:(xX (bN cs.length bits) (gO P 9 T) S4.m (w8 (S4.bind (cs.length+dJ sh)) R)).1=cs':=by rw[hA]
       have hA2:(xX (bN cs.length bits) (gO P 9 T) S4.m (w8 (S4.bind (cs.length+dJ sh)) R)).2=S5:=by rw[hA]
       obtain⟨σ5,g1,g2,g3⟩:=vW (bs:=bN cs.length bits) (ty:=gO P 9 T) (m:=S4.m) hok w3 q1 hkk;rw[hA2]at g2;rw[hA1]at g3;have hst5:σ5[st]? =some st':=g1.get hst3;obtain⟨t1,t2,t3,t4⟩:=eP (oY ((bN cs.length bits).zip cs2) (s3.killL R).c) (s3.killL R);obtain⟨m1,m2,m3,m4,m5⟩:=pn (R:=R) (s:=s3)
       have hu:=g2.upd (s':=s3.aftV i st' pv T R ((bN cs.length bits).zip cs2)) (i:=i) (n':=S5.n) (c':=S5.c) (so:=I6 pv st T cs') (aN.refl _) g2.c (by have:=g2.n;rw[m2]at this;exact this) (Nat.le_refl _) (by have h1:=g2.n;rw[t1,m1,y4.n]at h1;omega) (by rw[m2];rfl) (λj hj=>by rw[m2];exact az _ _ hj) (by
        unfold AS.aftV;simp only[ab];rw[m1,m2]at g3
        exact Ag hst5 g3)
       have hev:s3.ev (.tmp x)=.p false [.ptr i st' 0]:=by
        have h4:=y4.sl _ _ (FT hx4);simp only[AS.ev]
        cases hsx:s3.sl x with
        |tup=>rw[hsx]at h4;exact h4.elim
        |und=>rw[hsx]at h4;exact h4.elim
        |p b cs0=>
         rw[hsx]at h4;obtain⟨rfl,h4⟩:=h4
         match cs0,h4 with
         |[c],h4=>
          cases c<;>first|exact h4.1.elim|skip
          obtain⟨⟨rfl,h5,rfl⟩,-⟩:=h4;rw[hst3]at h5;injection h5 with h5;rw[h5]
       rw[hl2]at q2;have hst:=JW ho hargs hd hm hev n4 c3 (by rw[c4];exact hnd) (by rw[List.map_fst_zip,List.map_fst_zip]<;>simp[ot,hl2,hdl]) (y3 rfl);rw[c4]at hst;exact⟨_,σ5,_,hst,hu.put (HJ (Bj w5 q2)),w4⟩
      ·cases h
     ·cases h
    ·cases h
   ·cases h
  ·cases h
 ·cases h
end
end Go.Proofs.Ytngaddcgmnonbaa
namespace Go.Proofs.Ytngaddcgmnonbaa
open Go.RowKit
section
variable {P:Program}{N:Nat}{ρ ρ':List DV}{σ σ':List Nat}{S S':Sy}{s s':AS}{ps:List PO}{v:SV}{o:Oper}{K:List DV->Prop}{dl:List Nd}
def AA(P:Program)(ow:eK)(S:Sy)(d:Option Nat)(f:FuncId)(args:List Operand)(ts:List TypeId):Option (List Nd×Sy):=
 if ow.pf.contains f then D1 P ow S d f args ts else if ow.cf.contains f then CJ P ow S d f args ts else match aG ow.nf f with
 |some t=>Dq P ow S d f t args ts
 |none=>match aG ow.gf f with
  |some b=>CB P ow S d f b args ts
  |none=>match aG ow.vf f with
   |some b=>DL P S d f b args ts
   |none=>Hy P ow S d f args ts
theorem v8{ow:eK}{f:FuncId}{args:Array Operand}{ts:Array TypeId}(ho:o.op=.call ⟨.value (.func f),args,ts⟩)(h:AA P ow S o.dst f args.toList ts.toList=some (dl,S'))(hd:dB N o.dst=true)(hr:aO S ρ σ s)(hw:WN P dl K ρ):fC P N o s S' K:=by
 unfold AA at h;split at h
 ·exact DS ho h hd hr hw
 ·split at h
  ·exact Do ho h hd hr hw
  ·split at h
   ·exact Dz (ow:=ow) ho h hd hr hw
   ·split at h
    ·exact Cz ho h hd hr hw
    ·split at h
     ·exact Eb ho h hd hr hw
     ·exact Gx ho h hd hr hw
def Ib(P:Program)(S:Sy)(d:Option Nat)(f:FuncId)(X Y:Operand)(ts:List TypeId):Option (List Nd×Sy):=none
theorem Gi{f:FuncId}{X Y:Operand}{ts:Array TypeId}(ho:o.op=.call ⟨.value (.func f),#[X,Y],ts⟩)(h:Ib P S o.dst f X Y ts.toList=some (dl,S'))(hd:dB N o.dst=true)(hr:aO S ρ σ s)(hw:WN P dl K ρ):fC P N o s S' K:=by
 unfold Ib at h;cases h
def SJ(P:Program)(ow:eK)(S:Sy)(o:Oper):Option (List Nd×Sy):=
 match o.op with
 |.assign (.const (.pointer none))=>some ([],S.del o.dst)
 |.alloc t=>CH P S o.dst t
 |.box t x=>N9 S o.dst t x
 |.build t parts=>(match xq P S t parts.toList with|some (ps,cs,S')=>some (ps.map .po,S'.put o.dst (.p true cs))|none=>none)
 |.buildSlice t len parts=>NC P S o.dst t len parts.toList
 |.store t x y=>(match o.dst with|none=>Cw P S t x y|some _=>none)
 |.makeSlice t x y=>Ka P S o.dst t x y
 |.call ⟨.builtin .append,⟨[X,Y]⟩,⟨[t,t']⟩⟩=>if t'=t then(if Ur P S X Y t then Il P S o.dst X Y t else Px P S o.dst X Y t)else none
 |.call ⟨.builtin .copy,⟨[X,Y]⟩,⟨[t,t']⟩⟩=>if t'=t then ID P S o.dst X Y t else none
 |.call ⟨.value (.func f),⟨[X,Y]⟩,ts⟩=>if ow.mks.contains f then Ib P S o.dst f X Y ts.toList else AA P ow S o.dst f [X,Y] ts.toList
 |.call ⟨.value (.func f),args,ts⟩=>AA P ow S o.dst f args.toList ts.toList
 |op=>(match R9 P S op with|some (ps,v,S')=>some (ps.map .po,S'.put o.dst v)|none=>none)
theorem I8{ow:eK}(h:SJ P ow S o=some (dl,S'))(hd:dB N o.dst=true)(hr:aO S ρ σ s)(hw:WN P dl K ρ):fC P N o s S' K:=by
 unfold SJ at h;split at h
 ·rename_i ho;injection h with h;injection h with e1 e2;subst e1 e2;exact⟨ρ,σ,_,(Ji (x:=s.ev (.const (.pointer none))) (by rw[ho];rfl)).toO (eb hd),hr.del,hw⟩
 ·rename_i t ho;exact C5 ho h hd hr hw
 ·rename_i t x ho;exact J4 ho h hd hr hw
 ·rename_i t parts ho;split at h
  ·rename_i ps cs S1 hb;injection h with h;injection h with e1 e2;subst e1 e2;exact Db ho hb hd hr hw
  ·cases h
 ·rename_i t len parts ho;exact IP ho h hd hr hw
 ·rename_i t x y ho;split at h
  ·rename_i hdn;exact DT ho hdn h hr hw
  ·cases h
 ·rename_i t x y ho;exact GQ ho h hd hr hw
 ·rename_i X Y t t' ho;split at h
  ·rename_i e;subst e;split at h
   ·exact FY ho h hd hr hw
   ·exact JE ho h hd hr hw
  ·cases h
 ·rename_i X Y t t' ho;split at h
  ·rename_i e;subst e;exact GH ho h hd hr hw
  ·cases h
 ·rename_i f X Y ts ho;split at h
  ·exact Gi ho h hd hr hw
  ·exact v8 ho h hd hr hw
 ·rename_i f args ts _ ho;exact v8 ho h hd hr hw
 ·rename_i op _ _ _ _ _ _ _ _ _ _;split at h
  ·rename_i ps v S1 hb;injection h with h;injection h with e1 e2;subst e1 e2;exact GV hb hd hr hw
  ·cases h
end
end Go.Proofs.Ytngaddcgmnonbaa
