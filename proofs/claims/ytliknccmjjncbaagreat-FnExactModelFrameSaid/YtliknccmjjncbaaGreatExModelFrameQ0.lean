/- Proved: for every input the law 'FnExactModelFrame' returns true and its arguments read behind the call as before: part 0 of its proof. No condition. -/
import Derived.WalkKit
import Derived.Lib.Hide
import Derived.WalkSpells
import Derived.Laws.OwnMore
import Derived.Deep.AppendLies
import Derived.Deep.Draws
import Derived.Maps.AppendAt
import Derived.RegionTactic
import Derived.OwnWalk
import Derived.Below
import Derived.Laws.AppendOwnNone
import Derived.Deep.QuietTactic
import Derived.BigQuiet
import Derived.StillTailTactics
import Derived.Laws.Cells
import Derived.Laws.IdiomCopy
import Derived.ChangeKeysEq
import Derived.Laws.BytesArg
import Derived.Laws.StructEq
import Derived.Laws.Tables
import Derived.Great.BuildSlice
import Derived.StillTail
import Derived.ArgAppend
import Derived.OrdersHeld
set_option linter.unusedVariables false
set_option linter.unusedSimpArgs false
namespace Go.Proofs.YtliknccmjjncbaaGreat
open Go.RowKit
theorem tU{k:IntKind}{a b:Int}(h:a=b):Ending.returned (.int k a)=.returned (.int k b):=by rw[h]
theorem ME(a:Addr)(i j:Nat):(a.add i).add j=a.add (i+j):=by
 unfold Addr.add;by_cases hi:i=0<;>by_cases hj:j=0<;>simp[hi,hj,Nat.add_assoc]
theorem me(g j:Nat):(⟨g,0,none⟩:Addr).add j=⟨g,j,none⟩:=by
 unfold Addr.add;grind
def Rd(w:World)(S:Nat->Prop)(size:Nat)(A:Option Addr)(n c:Nat)(xs:List Value):Prop:=
 xs.length=n*size/\n<=c/\c<=maxLen/\(0<n->∃ad,A=some ad/\S ad.block/\∀j u,xs[j]? =some u->w.cell? (ad.add j)=some u)
section
variable {w w':World}{S S':Nat->Prop}{size n c:Nat}{A:Option Addr}{xs:List Value}
theorem Rd.mono(h:Rd w S size A n c xs)(hS:∀b,S b->S' b):Rd w S' size A n c xs:=
 ⟨h.1,h.2.1,h.2.2.1,λhn=>by
  obtain⟨ad,e,hb,hc⟩:=h.2.2.2 hn
  grind⟩
theorem ba{base:Nat}{e:TypeId}{v:Value}(h:w.ownsRow base e size v n xs):∃A c,v=.slice A n c/\n<=c/\c<=maxLen:=by
 rcases h.2 with⟨rfl,rfl⟩|⟨g,cap,cur,rfl,_,_,h1,h2,_⟩
 ·grind
 grind
theorem Rd.of_own{base:Nat}{e:TypeId}(h:w.ownsRow base e size (.slice A n c) n xs):Rd w (λb=>base<=b/\b<w.heap.size/\(Value.slice A n c).ownBlock=some b) size A n c xs:=by
 obtain⟨A',c',hv,h1,h2⟩:=ba h;injection hv with e1 e2 e3;subst e1 e3;refine⟨h.1,h1,h2,λhn=>?_⟩;obtain⟨g,cap,hv,hb,hlt⟩:=h.form hn;injection hv with e1 e2 e3;subst e1;exact⟨_,rfl,⟨hb,hlt,rfl⟩,h.cells (g:=g) rfl⟩
theorem C6{base B:Nat}{e:TypeId}{v:Value}(h:w.ownsRow base e size v n xs)(hb:Below B w w')(hB:w.heap.size<=B):w'.ownsRow base e size v n xs:=by
 refine h.kept (row:=none) ⟨hb.os,hb.tape,hb.output,hb.size,λk hk _=>hb.block k (by omega)⟩ ?_;cases hv:v.ownBlock<;>simp
theorem oC{base base':Nat}{e:TypeId}{v:Value}(h:w.ownsRow base e size v n xs)(hb:base'<=base):w.ownsRow base' e size v n xs:=by
 refine⟨h.1,?_⟩;rcases h.2 with h1|⟨g,cap,cur,h1,h2,h3⟩
 ·grind
 ·exact .inr ⟨g,cap,cur,h1,by omega,h3⟩
theorem DX{base:Nat}{e:TypeId}{k:Nat}(h:w.ownsRow base e size (.slice A n c) n xs)(hk:k<=n):w.ownsRow base e size (.slice A k c) k (xs.take (k*size)):=by
 have hx:(xs.take (k*size)).length=k*size:=by rw[List.length_take,h.1];simp_all
 refine⟨hx,?_⟩;rcases h.2 with⟨h1,h2⟩|⟨g,cap,cur,h1,h2,h3,h4,h5,h6,h7⟩
 ·grind
 ·injection h1 with e1 e2 e3;subst e1 e3;refine .inr ⟨g,c,cur,rfl,h2,h3,by omega,h5,h6,?_⟩;rw[<-h7,List.take_take,Nat.min_eq_left (Nat.mul_le_mul_right _ hk)]
theorem fZ{base:Nat}{e:TypeId}{v:Value}(h:w.ownsRow base e size v n xs){g:Nat}(hg:v.ownBlock=some g):base<=g/\g<w.heap.size:=by
 rcases h.2 with⟨rfl,_⟩|⟨g',cap,cur,rfl,h2,h3,_⟩
 ·simp[Value.ownBlock]at hg
 ·have:g'=g:=by simpa[Value.ownBlock]using hg
  grind
theorem Vt(w:World)(m k:Nat):∃j,(w.drewN m).drewN k=w.drewN j:=⟨m+k,by rw[World.drewN_drewN]⟩
theorem Jt{W w1:World}(hb:Below W.heap.size W w1):(∀b o,b<W.heap.size->w1.cell? ⟨b,o,none⟩=W.cell? ⟨b,o,none⟩)/\(∀b o,b<W.heap.size->w1.frozen? ⟨b,o,none⟩=W.frozen? ⟨b,o,none⟩):=
 ⟨λb o h=>hb.cell (p:=⟨b,o,none⟩) h,λb o h=>hb.frozen (p:=⟨b,o,none⟩) h⟩
theorem cQ{B:Nat}{a w:World}(h:Below B a w)(n:Nat):Below B a (w.drewN n):=⟨h.os,h.tape,h.output,h.size,h.block⟩
end
section
variable {P:Program}(w:World)
theorem wb(base:Nat)(t ty e:TypeId)(i:TypeInfo)(size:Nat)(ht:P.underlying t=some (.slice e))(hi:P.info? e=some i)
 (v:Value) (n:Nat) (xs:List Value) (hown:w.ownsRow base e size v n xs) (c:Nat):(Builtin.append_ #[t,t] ty #[v,.slice none 0 c]).run P w=.ok v w:=by
 rcases hown.2 with⟨rfl,rfl⟩|⟨g,cap,cur,rfl,_,_,hnc,_⟩
 ·simp[Builtin.append_,run_underlying ht,sizeOf,typeInfo,hi,Builtin.lenOf,Builtin.firstCells]
 ·simp[Builtin.append_,run_underlying ht,sizeOf,typeInfo,hi,Builtin.lenOf,Builtin.firstCells,hnc,storeCells]
theorem jH(base:Nat)(t ty e:TypeId)(i:TypeInfo)(z:Value)(size bytes:Nat)(ht:P.underlying t=some (.slice e))(hi:P.info? e=some i)(hz:i.zero=some z)
 (hsize:i.size=size) (hby:i.bytes=bytes) (hzs:z.cells.size=size) (hsz:0<size)
 (v:Value) (n:Nat) (xs:List Value) (hown:w.ownsRow base e size v n xs)
 (S:Nat->Prop) (A:Option Addr) (m c:Nat) (news:List Value) (hr:Rd w S size A m c news) (h1:∀u∈news,u.oneCell'=true)
 (h63:n+m<=maxLen) (hbytes:(n+m)*bytes<=140737488355328) (hbase:base<=w.heap.size):
 ∃v' w',(Builtin.append_ #[t,t] ty #[v,.slice A m c]).run P w=.ok v' w'/\w'.ownsRow base e size v' (n+m) (xs++news)/\w.grownBy w' v.ownBlock/\
  (v'.ownBlock=v.ownBlock\/v'.ownBlock=some w.heap.size):=by
 rcases A with _|ad
 ·have hm:m=0:=by
   rcases Nat.eq_zero_or_pos m with h0|h0
   ·exact h0
   ·obtain⟨ad,h,_⟩:=hr.2.2.2 h0;cases h
  subst hm;have hn:news=[]:=List.eq_nil_of_length_eq_zero (by simpa using hr.1);subst hn;exact⟨v,w,wb w base t ty e i size ht hi v n xs hown c,by grind,World.grownBy.refl w _,.inl rfl⟩
 ·have hcells:∀j u,news[j]? =some u->w.cell? (ad.add j)=some u:=by
   intro j u hu;rcases Nat.eq_zero_or_pos m with h0|h0
   ·subst h0;have hn:news=[]:=List.eq_nil_of_length_eq_zero (by simpa using hr.1)
    grind
   ·obtain⟨ad',h,_,hc⟩:=hr.2.2.2 h0
    grind
  obtain⟨v',w',bD,h2,h3,_,h5⟩:=run_append_own_at (P:=P) w base t ty e i z size bytes ht hi hz hsize hby hzs hsz v n xs hown ad m c news hr.1 hcells h1 h63 hbytes hbase
  grind
end
def mG(w:World)(g:Nat)(t:TypeId)(cs:Array Value):Prop:=w.heap[g]? =some (.cells cs t (0,0))
section
variable {w w':World}{g:Nat}{t:TypeId}{cs:Array Value}
theorem mG.lt(h:mG w g t cs):g<w.heap.size:=by
 rcases Nat.lt_or_ge g w.heap.size with hlt|hge
 ·omega
 ·unfold mG at h;rw[Array.getElem?_eq_none hge]at h;cases h
theorem mG.cell(h:mG w g t cs)(i:Nat):w.cell? ⟨g,i,none⟩=cs[i]?:=cell_of_row w g i cs t (0,0) h
theorem mG.frozen(h:mG w g t cs)(i:Nat):w.frozen? ⟨g,i,none⟩=false:=by
 unfold mG at h;simp[World.frozen?,h]
theorem mG.new(w:World)(t:TypeId)(cs:Array Value):mG (w.alloc (.cells cs t)) w.heap.size t cs:=heap_alloc_new w _
theorem mG.set_(h:mG w g t cs)(i:Nat)(u:Value):mG (w.setCell ⟨g,i,none⟩ u) g t (cs.setIfInBounds i u):=by
 unfold mG at h ⊢;simp[World.setCell,Array.getElem?_modify,h]
theorem mG.below{B:Nat}(h:mG w g t cs)(hb:Below B w w')(hg:g<B):mG w' g t cs:=(hb.block g hg).trans h
theorem mG.keep(h:mG w g t cs)(hb:Below w.heap.size w w'):mG w' g t cs:=h.below hb h.lt
end
end Go.Proofs.YtliknccmjjncbaaGreat
namespace Go.Proofs.YtliknccmjjncbaaGreat
open Go.RowKit
def YO(f:List Nat)(w w':World):Prop:=∀b∈f,w'.heap[b]? =w.heap[b]?
structure O7(α:Type) where
 x:α
 f:List Nat
 c:List Value
structure Zf(α:Type) where
 size:Nat
 R:World->List Nat->α->List Value->Prop
 fg:0<size
 len:∀{w f x c},R w f x c->c.length=size
 one:∀{w f x c},R w f x c->∀u∈c,u.oneCell'=true
 keep:∀{w w' f x c},R w f x c->YO f w w'->R w' f x c
 lt:∀{w f x c},R w f x c->∀b∈f,b<w.heap.size
def BU(x:Int):Prop:=-9223372036854775808<=x/\x<=9223372036854775807
section
variable {α:Type}{L:Zf α}{w w':World}{A:Option Addr}{n c:Nat}{fp:List Nat}{xs:List α}
theorem LO{es:List (O7 α)}{size:Nat}(hl:∀e∈es,e.c.length=size):(es.flatMap O7.c).length=es.length*size:=by
 induction es with
 |nil=>simp
 |cons a es ih=>
  rw[List.flatMap_cons,List.length_append,ih (λe he=>hl e (List.mem_cons_of_mem _ he)),hl a (List.mem_cons_self ..),List.length_cons,Nat.succ_mul];omega
end
section
variable {α:Type}{L:Zf α}{w w':World}
theorem Cz(z:Array Value)(n:Nat)(hz:0<z.size):(madeCells z (n*z.size)).toList=(List.replicate n z.toList).flatten:=by
 apply List.ext_getElem?;intro i
 have hl:((List.replicate n z.toList).flatten).length=n*z.size:=by
  simp_all
 by_cases hi:i<n*z.size
 ·have e1:(madeCells z (n*z.size)).toList[i]? =some (z[i % z.size]'(Nat.mod_lt _ hz)):=by
   simp[madeCells,hi,Nat.mod_lt _ hz]
  rw[e1]
  symm
  clear hl e1
  induction n generalizing i with
  |zero=>omega
  |succ n ih=>
   rw[List.replicate_succ,List.flatten_cons]
   grind[List.getElem?_append_left,Nat.mod_eq_of_lt,List.getElem?_append_right,Nat.succ_mul,Array.length_toList,Nat.mod_eq_sub_mod]
 ·rw[List.getElem?_eq_none (by rw[Array.length_toList,size_madeCells];omega),List.getElem?_eq_none (by rw[hl];omega)]
end
def tS:List Value->Nat->List Value->List Value
 |ys,_,[]=>ys
 |ys,o,u::r=>tS (ys.set o u) (o+1) r
theorem jS(cs:List Value):∀(ys:List Value) (o:Nat),o+cs.length<=ys.length->tS ys o cs=ys.take o++cs++ys.drop (o+cs.length):=by
 induction cs with
 |nil=>simp_all[tS]
 |cons u r ih=>
  intro ys o h;rw[List.length_cons]at h;rw[tS,ih _ _ (by rw[List.length_set];omega)]
  have h1:(ys.set o u).take (o+1)=ys.take o++[u]:=by
   rw[List.take_succ_eq_append_getElem (by rw[List.length_set];omega),List.getElem_set_self,List.take_set_of_le (Nat.le_refl _)]
  rw[h1,List.drop_set_of_lt (by omega)]
  grind
theorem OD{α:Type}{size:Nat}(e':O7 α):∀(es:List (O7 α)) (i:Nat),(∀e∈es,e.c.length=size)->e'.c.length=size->i<es.length->
 (es.set i e').flatMap O7.c=(es.flatMap O7.c).take (i*size)++e'.c++(es.flatMap O7.c).drop (i*size+size):=by
 intro es
 induction es with
 |nil=>grind
 |cons a es ih=>
  intro i hl he hi;have hla:a.c.length=size:=hl a (List.mem_cons_self ..)
  cases i with
  |zero=>
   rw[List.set_cons_zero,List.flatMap_cons,List.flatMap_cons,Nat.zero_mul,List.take_zero,List.nil_append,Nat.zero_add,List.drop_append_of_le_length (by omega),List.drop_of_length_le (by omega),List.nil_append]
  |succ i=>
   rw[List.set_cons_succ,List.flatMap_cons,List.flatMap_cons,ih i (λe h=>hl e (List.mem_cons_of_mem _ h)) he (by grind),Nat.succ_mul];rw[show i*size+size=a.c.length+i*size from by rw[hla];omega,List.take_length_add_append,show a.c.length+i*size+size=a.c.length+(i*size+size)from by omega,List.drop_length_add_append]
   grind
theorem nh{base:Nat}{t:TypeId}{size g n cap:Nat}(cs:List Value):∀(w:World) (ys:List Value) (o:Nat),w.ownsRow base t size (.slice (some ⟨g,0,none⟩) n cap) n ys->
 (w.setCells g o cs).ownsRow base t size (.slice (some ⟨g,0,none⟩) n cap) n (tS ys o cs)/\w.grownBy (w.setCells g o cs) (some g):=by
 induction cs with
 |nil=>intro w ys o h;exact⟨h,World.grownBy.refl w _⟩
 |cons u r ih=>
  intro w ys o h;have h1:=h.stored o u;have h2:=ih _ _ (o+1) h1.1;exact⟨h2.1,h1.2.trans h2.2⟩
end Go.Proofs.YtliknccmjjncbaaGreat
namespace Go.Proofs.YtliknccmjjncbaaGreat
open Go.RowKit
inductive DV where
 |sc (v:Value)
 |sl (t:TypeId) (k:Nat) (es:List (List DV))
def Sc:Value->Prop
 |.bool _=>True
 |.int _ _=>True
 |.string _=>True
 |_=>False
def At(w:World)(b off:Nat)(vals:List Value):Prop:=∀j u,vals[j]? =some u->w.cell? ⟨b,off+j,none⟩=some u
inductive aL(w:World)(A:Nat->Prop):List Value->List DV->Prop
 |nil:aL w A [] []
 |sc {v vs ds}:Sc v->aL w A vs ds->aL w A (v::vs) (.sc v::ds)
 |sl0 {a c t k vs ds}:c<=maxLen->aL w A vs ds->aL w A (.slice a 0 c::vs) (.sl t k []::ds)
 |sl {b off n c t k es cells vs ds}:A b->n=es.length->0<n->n<=c->c<=maxLen->0<k->(∀e∈es,e.length=k)->aL w A cells es.flatten->At w b off cells->aL w A vs ds->
  aL w A (.slice (some ⟨b,off,none⟩) n c::vs) (.sl t k es::ds)
section
variable {w w':World}{A B:Nat->Prop}{vs us:List Value}{ds xs:List DV}
theorem At.keep{b off:Nat}{vals:List Value}(h:At w b off vals)(hk:w'.heap[b]? =w.heap[b]?):At w' b off vals:=
 λj u hu=>(World.cell?_of_block hk).trans (h j u hu)
theorem aL.keep(h:aL w A vs ds)(hk:∀b,A b->w'.heap[b]? =w.heap[b]?):aL w' A vs ds:=by
 induction h with
 |nil=>exact .nil
 |sc h1 _ ih=>exact .sc h1 ih
 |sl0 h1 _ ih=>exact .sl0 h1 ih
 |sl h1 h2 h3 h4 h5 h6 h7 _ h9 _ ih1 ih2=>exact .sl h1 h2 h3 h4 h5 h6 h7 ih1 (h9.keep (hk _ h1)) ih2
theorem aL.mono(h:aL w A vs ds)(hA:∀b,A b->B b):aL w B vs ds:=by
 induction h with
 |nil=>exact .nil
 |sc h1 _ ih=>exact .sc h1 ih
 |sl0 h1 _ ih=>exact .sl0 h1 ih
 |sl h1 h2 h3 h4 h5 h6 h7 _ h9 _ ih1 ih2=>exact .sl (hA _ h1) h2 h3 h4 h5 h6 h7 ih1 h9 ih2
theorem aL.len(h:aL w A vs ds):vs.length=ds.length:=by
 induction h with
 |nil=>rfl
 |sc _ _ ih=>grind
 |sl0 _ _ ih=>grind
 |sl _ _ _ _ _ _ _ _ _ _ _ ih=>grind
theorem aL.one(h:aL w A vs ds):∀u∈vs,u.oneCell'=true:=by
 induction h with
 |nil=>simp
 |@sc v vs ds h1 _ ih=>
  intro u hu;rcases List.mem_cons.1 hu with rfl|hu
  ·cases u<;>simp[Sc]at h1<;>rfl
  grind
 |sl0 _ _ ih=>
  intro u hu;rcases List.mem_cons.1 hu with rfl|hu
  ·rfl
  grind
 |sl _ _ _ _ _ _ _ _ _ _ _ ih=>
  intro u hu;rcases List.mem_cons.1 hu with rfl|hu
  ·rfl
  grind
theorem aL.app(h:aL w A vs ds)(k:aL w A us xs):aL w A (vs++us) (ds++xs):=by
 induction h with
 |nil=>exact k
 |sc h1 _ ih=>exact .sc h1 ih
 |sl0 h1 _ ih=>exact .sl0 h1 ih
 |sl h1 h2 h3 h4 h5 h6 h7 h8 h9 _ ih1 ih2=>exact .sl h1 h2 h3 h4 h5 h6 h7 h8 h9 ih2
theorem aL.tail{v:Value}{d:DV}(h:aL w A (v::vs) (d::ds)):aL w A vs ds:=by
 cases h with
 |sc _ h=>exact h
 |sl0 _ h=>exact h
 |sl _ _ _ _ _ _ _ _ _ h=>exact h
theorem aL.head{v:Value}{d:DV}(h:aL w A (v::vs) (d::ds)):aL w A [v] [d]:=by
 cases h with
 |sc h1 _=>exact .sc h1 .nil
 |sl0 h1 _=>exact .sl0 h1 .nil
 |sl h1 h2 h3 h4 h5 h6 h7 h8 h9 _=>exact .sl h1 h2 h3 h4 h5 h6 h7 h8 h9 .nil
theorem aL.cons{v:Value}{d:DV}(h:aL w A [v] [d])(k:aL w A vs ds):aL w A (v::vs) (d::ds):=h.app k
theorem aL.drop(h:aL w A vs ds)(n:Nat):aL w A (vs.drop n) (ds.drop n):=by
 induction n generalizing vs ds with
 |zero=>simpa using h
 |succ n ih=>
  cases vs with
  |nil=>have:=h.len;grind
  |cons v vs=>cases ds with
   |nil=>have:=h.len;grind
   |cons d ds=>exact ih h.tail
theorem aL.take(h:aL w A vs ds)(n:Nat):aL w A (vs.take n) (ds.take n):=by
 induction n generalizing vs ds with
 |zero=>simpa using aL.nil
 |succ n ih=>
  cases vs with
  |nil=>have:=h.len;grind
  |cons v vs=>cases ds with
   |nil=>have:=h.len;grind
   |cons d ds=>exact h.head.cons (ih h.tail)
theorem aL.get(h:aL w A vs ds){j:Nat}{v:Value}{d:DV}(hv:vs[j]? =some v)(hd:ds[j]? =some d):aL w A [v] [d]:=by
 induction j generalizing vs ds with
 |zero=>cases vs with
  |nil=>grind
  |cons=>cases ds with
   |nil=>grind
   |cons=>simp at hv hd;subst hv hd;exact h.head
 |succ j ih=>cases vs with
  |nil=>grind
  |cons=>cases ds with
   |nil=>grind
   |cons=>exact ih h.tail (by assumption) (by assumption)
theorem aL.set(h:aL w A vs ds){j:Nat}{v:Value}{d:DV}(hv:aL w A [v] [d]):aL w A (vs.set j v) (ds.set j d):=by
 induction j generalizing vs ds with
 |zero=>cases vs with
  |nil=>cases ds with
   |nil=>exact h
   |cons=>have:=h.len;grind
  |cons=>cases ds with
   |nil=>have:=h.len;grind
   |cons=>exact hv.cons h.tail
 |succ j ih=>cases vs with
  |nil=>cases ds with
   |nil=>exact h
   |cons=>have:=h.len;grind
  |cons=>cases ds with
   |nil=>have:=h.len;grind
   |cons=>exact h.head.cons (ih h.tail)
theorem aL.scOf{v u:Value}(h:aL w A [v] [.sc u]):v=u/\Sc u:=by
 cases h with
 |sc h _=>grind
theorem tO{α:Type}{es:List (List α)}{k i:Nat}{e:List α}(hk:∀e∈es,e.length=k)(h:es[i]? =some e):(es.flatten.drop (i*k)).take k=e:=by
 induction es generalizing i with
 |nil=>grind
 |cons a es ih=>
  have ha:a.length=k:=hk a (List.mem_cons_self ..)
  cases i with
  |zero=>
   grind
  |succ i=>
   rw[List.flatten_cons,Nat.succ_mul,Nat.add_comm,<-List.drop_drop,<-ha,List.drop_left,ha]
   grind
theorem cO{α:Type}{es:List (List α)}{k:Nat}(hk:∀e∈es,e.length=k):es.flatten.length=es.length*k:=by
 induction es with
 |nil=>simp
 |cons a es ih=>rw[List.flatten_cons,List.length_append,ih (λe he=>hk e (List.mem_cons_of_mem _ he)),hk a (List.mem_cons_self ..),List.length_cons,Nat.succ_mul];omega
theorem rS{b off i k:Nat}{cells:List Value}(h:At w b off cells):At w b (off+i) ((cells.drop i).take k):=by
 intro j u hu;rw[List.getElem?_take]at hu;split at hu
 ·rw[List.getElem?_drop]at hu;rw[Nat.add_assoc];exact h _ u hu
 grind
theorem aL.elem{v:Value}{t k:Nat}{es:List (List DV)}(h:aL w A [v] [.sl t k es]){i:Nat}{e:List DV}(he:es[i]? =some e):
 ∃b off c vals,v=.slice (some ⟨b,off,none⟩) es.length c/\i<es.length/\A b/\0<k/\e.length=k/\aL w A vals e/\At w b (off+i*k) vals:=by
 cases h with
 |sl0=>grind
 |@sl b off n c t k es cells vs ds h1 h2 h3 h4 h5 h6 h7 h8 h9 _=>
  subst h2;have hi:i<es.length:=(List.getElem?_eq_some_iff.1 he).1;refine⟨b,off,c,(cells.drop (i*k)).take k,rfl,hi,h1,h6,h7 e (List.mem_of_getElem? he),?_,rS h9⟩;have:=(h8.drop (i*k)).take k
  rwa [tO h7 he]at this
theorem aL.slShape{v:Value}{t k:Nat}{es:List (List DV)}(h:aL w A [v] [.sl t k es]):∃a c,v=.slice a es.length c/\es.length<=c/\c<=maxLen:=by
 cases h with
 |sl0 h1=>exact⟨_,_,rfl,Nat.zero_le _,h1⟩
 |sl h1 h2 h3 h4 h5=>subst h2;grind
end
inductive aR(w:World)(base:Nat):List Value->List DV->List Nat->Prop
 |nil:aR w base [] [] []
 |sc {v vs ds f}:Sc v->aR w base vs ds f->aR w base (v::vs) (.sc v::ds) f
 |sl {v t k es cells g vs ds f}:w.ownsRow base t k v es.length cells->0<k->(∀e∈es,e.length=k)->aR w base cells es.flatten g->aR w base vs ds f->
  (v.ownBlock.toList++(g++f)).Nodup->aR w base (v::vs) (.sl t k es::ds) (v.ownBlock.toList++(g++f))
section
variable {w w':World}{base:Nat}{vs us:List Value}{ds xs:List DV}{f g:List Nat}
theorem pN{e:TypeId}{k n:Nat}{v:Value}{cs:List Value}(h:w.ownsRow base e k v n cs)(hk:∀b,v.ownBlock=some b->w'.heap[b]? =w.heap[b]?):w'.ownsRow base e k v n cs:=by
 refine⟨h.1,?_⟩;rcases h.2 with h1|⟨g,cap,cur,rfl,h2,h3,h4⟩
 ·grind
 ·exact .inr ⟨g,cap,cur,rfl,h2,(hk g rfl).trans h3,h4⟩
theorem aR.nodup(h:aR w base vs ds f):f.Nodup:=by
 induction h with
 |nil=>grind
 |sc _ _ ih=>exact ih
 |sl _ _ _ _ _ h=>exact h
theorem aR.keep(h:aR w base vs ds f)(hk:∀b∈f,w'.heap[b]? =w.heap[b]?):aR w' base vs ds f:=by
 induction h with
 |nil=>exact .nil
 |sc h1 _ ih=>exact .sc h1 (ih hk)
 |sl h1 h2 h3 _ _ h6 ih1 ih2=>
  refine .sl (pN h1 λb hb=>hk b ?_) h2 h3 (ih1 λb hb=>hk b ?_) (ih2 λb hb=>hk b ?_) h6
  ·grind
  ·grind
  grind
theorem aR.lo(h:aR w base vs ds f){base':Nat}(hb:base'<=base):aR w base' vs ds f:=by
 induction h with
 |nil=>exact .nil
 |sc h1 _ ih=>exact .sc h1 ih
 |sl h1 h2 h3 _ _ h6 ih1 ih2=>exact .sl (oC h1 hb) h2 h3 ih1 ih2 h6
theorem aR.blocks(h:aR w base vs ds f):∀b∈f,base<=b/\b<w.heap.size:=by
 induction h with
 |nil=>simp
 |sc _ _ ih=>exact ih
 |sl h1 h2 h3 _ _ h6 ih1 ih2=>
  intro b hb;simp[List.mem_append,Option.mem_toList]at hb;rcases hb with hb|hb|hb
  ·exact fZ h1 hb
  ·grind
  grind
theorem E4{e:TypeId}{k:Nat}{v:Value}{es:List (List DV)}{cells:List Value}(h:w.ownsRow base e k v es.length cells){A:Nat->Prop}(hA:∀b,v.ownBlock=some b->A b)
 (hk:0<k) (hl:∀e∈es,e.length=k) (hc:aL w A cells es.flatten):aL w A [v] [.sl e k es]:=by
 rcases Nat.eq_zero_or_pos es.length with h0|h0
 ·have:es=[]:=List.eq_nil_of_length_eq_zero h0;subst this;obtain⟨a,c,rfl,_,hcm⟩:=ba h;exact .sl0 hcm .nil
 ·obtain⟨g,cap,rfl,hb,hlt⟩:=h.form h0;obtain⟨a,c,hv,hc1,hc2⟩:=ba h;injection hv with e1 e2 e3;subst e3;refine .sl (hA g rfl) rfl h0 hc1 hc2 hk hl hc ?_ .nil;intro j u hu;have:=h.cells (g:=g) rfl j u hu;rw[me]at this;rw[Nat.zero_add];omega
theorem aR.rep(h:aR w base vs ds f):aL w (· ∈f) vs ds:=by
 induction h with
 |nil=>exact .nil
 |sc h1 _ ih=>exact .sc h1 ih
 |sl h1 h2 h3 _ _ h6 ih1 ih2=>
  refine aL.cons (E4 h1 (λb hb=>?_) h2 h3 (ih1.mono λb hb=>?_)) (ih2.mono λb hb=>?_)
  ·grind
  ·grind
  grind
theorem aR.app(h:aR w base vs ds f)(k:aR w base us xs g)(hd:∀b∈f,b∉g):aR w base (vs++us) (ds++xs) (f++g):=by
 induction h with
 |nil=>exact k
 |sc h1 _ ih=>exact .sc h1 (ih hd)
 |sl h1 h2 h3 h4 _ h6 _ ih2=>
  rw[List.append_assoc,List.append_assoc];refine .sl h1 h2 h3 h4 (ih2 λb hb=>hd b (by grind)) ?_;rw[<-List.append_assoc,<-List.append_assoc,List.append_assoc (Option.toList _)];exact List.nodup_append.2 ⟨h6,k.nodup,λa ha b hb e=>hd a ha (e▸hb)⟩
def pz(ds:List DV):Prop:=∀d∈ds,∃v,d=.sc v
theorem aR.flat{A:Nat->Prop}(h:aL w A vs ds)(hf:pz ds):aR w base vs ds []:=by
 induction h with
 |nil=>exact .nil
 |sc h1 _ ih=>exact .sc h1 (ih λd hd=>hf d (List.mem_cons_of_mem _ hd))
 |sl0=>obtain⟨v,hv⟩:=hf _ (List.mem_cons_self ..);cases hv
 |sl=>obtain⟨v,hv⟩:=hf _ (List.mem_cons_self ..);cases hv
theorem aR.split(h:aR w base vs ds f):∀n,∃f1 f2,f=f1++f2/\aR w base (vs.take n) (ds.take n) f1/\aR w base (vs.drop n) (ds.drop n) f2:=by
 induction h with
 |nil=>intro n;exact⟨[],[],rfl,by simpa using aR.nil,by simpa using aR.nil⟩
 |sc h1 h2 ih=>
  intro n
  cases n with
  |zero=>exact⟨[],_,rfl,.nil,.sc h1 h2⟩
  |succ n=>obtain⟨f1,f2,e,a,b⟩:=ih n;exact⟨f1,f2,e,.sc h1 a,b⟩
 |sl h1 h2 h3 h4 h5 h6 _ ih=>
  intro n
  cases n with
  |zero=>exact⟨[],_,rfl,.nil,.sl h1 h2 h3 h4 h5 h6⟩
  |succ n=>
   obtain⟨f1,f2,e,a,b⟩:=ih n;subst e;refine⟨_++(_++f1),f2,by grind,.sl h1 h2 h3 h4 a ?_,b⟩;rw[<-List.append_assoc,<-List.append_assoc]at h6;have:=(List.nodup_append.1 h6).1
   rwa [List.append_assoc]at this
end
end Go.Proofs.YtliknccmjjncbaaGreat
namespace Go.Proofs.YtliknccmjjncbaaGreat
open Go.RowKit
inductive AC where
 |d (x:DV)
 |nil
 |own (i st:Nat)
 |ptr (i st off:Nat)
 |elt (i st k j off:Nat)
 |sub (i st k lo n:Nat)
 |emp
 |rd (cs:List DV)
 /-- a function value;the variables that it has taken hold one cell each and are not changed any more -/
 |fn (f:Nat) (cs:List DV)
 /-- a literal without spare room,read -/
 |lit (el k:Nat) (ds:List (List DV))
inductive AV where
 |p (agg:Bool) (cs:List AC)
 |tup (xs:List (Bool×List AC))
 |und
inductive Ob where
 |var (st:Nat) (t:TypeId) (cs:List AC)
 |arr (st:Nat) (t:TypeId) (k:Nat) (es:List (List AC))
 |row (st:Nat) (t:TypeId) (k:Nat) (es:List (List DV)) (deep:Bool)
 |frz (st:Nat) (x:DV)
 |dx (st:Nat) (x:DV)
 |cur (st:Nat) (id:Bool) (t:TypeId) (x:DV) (cs:List DV)
 /-- a deep row with the blocks of its nested slices,none of them frozen;the hole: a nested slice that is an object of its own (element,cell,object,stamp) -/
 |opn (st:Nat) (t:TypeId) (k:Nat) (es:List (List DV)) (h:Option (Nat×Nat×Nat×Nat))
 /-- the variable that the function was handed by its address -/
 |pvr (st:Nat) (t:TypeId) (cs:List AC)
 |dead
def Ob.st:Ob->Option Nat
 |.var st _ _|.arr st _ _ _|.row st _ _ _ _|.frz st _|.dx st _|.cur st _ _ _ _|.opn st _ _ _ _|.pvr st _ _=>some st
 |.dead=>none
structure AS where
 sl:Nat->AV
 ob:Nat->Ob
 n:Nat
 c:Nat
def upd{α:Type}(f:Nat->α)(i:Nat)(x:α):Nat->α:=λj=>if j=i then x else f j
theorem af{α:Type}(f:Nat->α)(i:Nat)(x:α):upd f i x i=x:=by simp[upd]
theorem aJ{α:Type}(f:Nat->α){i j:Nat}(x:α)(h:j≠i):upd f i x j=f j:=by simp[upd,h]
theorem O3{α:Type}(f:Nat->α)(i j:Nat)(x:α):upd f i x j=if j=i then x else f j:=rfl
def AS.lv(s:AS)(i:Nat):Option Nat:=if i<s.n then(s.ob i).st else none
def AS.put(s:AS)(d:Option Nat)(x:AV):AS:=match d with|some d=>{s with sl:=upd s.sl d x}|none=>s
theorem AS.put_lv(s:AS)(d:Option Nat)(x:AV):(s.put d x).lv=s.lv:=by cases d<;>rfl
theorem AS.put_c(s:AS)(d:Option Nat)(x:AV):(s.put d x).c=s.c:=by cases d<;>rfl
theorem AS.put_n(s:AS)(d:Option Nat)(x:AV):(s.put d x).n=s.n:=by cases d<;>rfl
theorem AS.put_ob(s:AS)(d:Option Nat)(x:AV):(s.put d x).ob=s.ob:=by cases d<;>rfl
structure En where
 v:Nat->Value
 m:Nat->List Nat
 o:Nat->List Nat
 A:Nat->Prop
def UD(w:World)(A:Nat->Prop):List DV->List Value->Prop
 |[],[]=>True
 |d::ds,u::us=>(∃b off vals,u=.pointer (some ⟨b,off,none⟩)/\A b/\aL w A vals [d]/\At w b off vals)/\UD w A ds us
 |_,_=>False
def dw(w:World)(E:En)(L:Nat->Option Nat)(c:Nat):AC->Value->Prop
 |.d x,u=>aL w E.A [u] [x]
 |.nil,u=>u=.slice none 0 0
 |.own i st,u=>st<c/\(L i=some st->u=E.v i)
 |.ptr i st off,u=>st<c/\(L i=some st->∃g,E.v i=.pointer (some ⟨g,0,none⟩)/\u=.pointer (some ⟨g,off,none⟩))
 |.elt i st k j off,u=>st<c/\(L i=some st->∃g n cp,E.v i=.slice (some ⟨g,0,none⟩) n cp/\u=.pointer (some ⟨g,j*k+off,none⟩))
 |.sub i st k lo n,u=>st<c/\(L i=some st->∃A N cp B,E.v i=.slice A N cp/\lo+n<=N/\u=.slice B n (cp-lo)/\(lo=0->B=A)/\(0<n->B=A.map λad=>ad.add (lo*k)))
 |.emp,u=>∃A,u=.slice A 0 0
 |.rd cs,u=>∃b off vals,u=.pointer (some ⟨b,off,none⟩)/\E.A b/\aL w E.A vals cs/\At w b off vals
 |.fn f cs,u=>∃caps:List Value,u=.func (.func f) #[] caps.toArray/\UD w E.A cs caps
 |.lit el k ds,u=>(∃A n,u=.slice A n n)/\aL w E.A [u] [.sl el k ds]
def aD(w:World)(E:En)(L:Nat->Option Nat)(c:Nat)(cs:List AC)(vals:List Value):Prop:=
 cs.length=vals.length/\∀(j:Nat) x u,cs[j]? =some x->vals[j]? =some u->dw w E L c x u
def cM(w:World)(E:En)(L:Nat->Option Nat)(c:Nat)(b:Bool)(cs:List AC)(v:Value):Prop:=
 if b then∃vals:List Value,v=.agg vals.toArray/\aD w E L c cs vals else aD w E L c cs [v]
def bi(w:World)(E:En)(L:Nat->Option Nat)(c:Nat):AV->Value->Prop
 |.p b cs,v=>cM w E L c b cs v
 |.tup xs,v=>∃vs:List Value,v=.tuple vs.toArray/\xs.length=vs.length/\∀(j:Nat) b cs u,xs[j]? =some (b,cs)->vs[j]? =some u->cM w E L c b cs u
 |.und,_=>True
def PX(w:World)(A:Nat->Prop)(g:Nat)(u:Value)(t:TypeId)(x:DV)(cs:List DV):Prop:=
 ∃vals:List Value,mG w g t (u::vals).toArray/\aL w A [u] [x]/\aL w A vals cs/\pz cs
def vL{α:Type}(k:Nat)(x:α)(h:Option (Nat×Nat×Nat×Nat))(l:List α):List α:=match h with|some q=>l.set (q.1*k+q.2.1) x|none=>l
def Pr(cu:Option (Nat×Value))(w:World)(base:Nat)(E:En)(L:Nat->Option Nat)(c:Nat)(i:Nat):Ob->Prop
 |.var st t cs=>∃g vals,st<c/\E.v i=.pointer (some ⟨g,0,none⟩)/\E.m i=[g]/\E.o i=[]/\base<=g/\mG w g t (vals:List Value).toArray/\aD w E L c cs vals
 |.arr st t k es=>∃g vals,st<c/\E.v i=.slice (some ⟨g,0,none⟩) es.length es.length/\E.m i=[g]/\E.o i=[]/\base<=g/\es.length<=maxLen/\mG w g t (vals:List Value).toArray/\0<k/\(∀e∈es,e.length=k)/\aD w E L c es.flatten vals
 |.row st t k es deep=>∃cells,st<c/\w.ownsRow base t k (E.v i) es.length cells/\0<k/\(∀e∈es,e.length=k)/\E.m i=(E.v i).ownBlock.toList/\
  (if deep then aR w base cells es.flatten (E.o i)else E.o i=[]/\aL w E.A cells es.flatten)
 |.frz st x=>st<c/\E.m i=[]/\E.o i=[]/\aL w E.A [E.v i] [x]
 |.dx st x=>st<c/\E.o i=[]/\aR w base [E.v i] [x] (E.m i)
 |.cur st id t x cs=>∃g u,st<c/\E.v i=.pointer (some ⟨g,0,none⟩)/\E.m i=[g]/\E.o i=[]/\(id=true->cu=some (g,u))/\PX w E.A g u t x cs
 |.opn st t k es h=>∃cells g,st<c/\w.ownsRow base t k (E.v i) es.length cells/\0<k/\(∀e∈es,e.length=k)/\E.o i=[]/\E.m i=(E.v i).ownBlock.toList++g/\(∀b∈(E.v i).ownBlock.toList,b∉g)/\
  aR w base (vL k (.bool false) h cells) (vL k (.sc (.bool false)) h es.flatten) g/\
  (∀q,h=some q->q.1<es.length/\q.2.1<k/\(∃t' k' xs,es.flatten[q.1*k+q.2.1]? =some (.sl t' k' xs))/\q.2.2.2<c/\(L q.2.2.1=some q.2.2.2->cells[q.1*k+q.2.1]? =some (E.v q.2.2.1)))
 |.pvr st t cs=>∃g vals,st<c/\E.v i=.pointer (some ⟨g,0,none⟩)/\E.m i=[g]/\E.o i=[]/\mG w g t (vals:List Value).toArray/\aD w E L c cs vals/\∃u,cu=some (g,u)
 |.dead=>True
structure Cx extends World where
 B:Nat->Prop
 /-- the blocks that the call may write: new ones,and those that it was handed -/
 fr:Nat->Prop
 hfr:∀b,toWorld.heap.size<=b->fr b
 /-- the variable that the call was handed by its address: its block,its first cell -/
 cu:Option (Nat×Value)
 /-- the blocks that may be owned: those that it may write,and the nested blocks of what it was given -/
 ow:Nat->Prop
 how:∀b,fr b->ow b
instance:Coe Cx World:=⟨Cx.toWorld⟩
structure GP(w0:Cx)(w:World):Prop where
 os:w.os=w0.toWorld.os
 tape:w.tape=w0.toWorld.tape
 output:w.output=w0.toWorld.output
 size:w0.toWorld.heap.size<=w.heap.size
 block:∀b,¬w0.fr b->w.heap[b]? =w0.toWorld.heap[b]?
theorem Cx.lt{w0:Cx}{b:Nat}(h:¬w0.fr b):b<w0.toWorld.heap.size:=Nat.lt_of_not_le λhb=>h (w0.hfr b hb)
theorem GP.below{w0:Cx}{w w':World}(h:GP w0 w)(k:Below w.heap.size w w'):GP w0 w':=
 ⟨k.os.trans h.os,k.tape.trans h.tape,k.output.trans h.output,Nat.le_trans h.size k.size,λb hb=>(k.block b (Nat.lt_of_lt_of_le (Cx.lt hb) h.size)).trans (h.block b hb)⟩
structure aH(w0:Cx)(N:Nat)(s:AS)(a:Act)(w:World)(E:En):Prop where
 size:a.tmps.size=N
 defers:a.defers=[]
 bel:GP w0 w
 obj:∀i,i<s.n->Pr w0.cu w 0 E s.lv s.c i (s.ob i)
 slot:∀t,bi w E s.lv s.c (s.sl t) (a.tmps.getD t undef)
 A_lt:∀b,E.A b->b<w.heap.size
 A_m:∀b,E.A b->∀i,i<s.n->b∉E.m i
 A_o:∀i,i<s.n->∀b∈E.o i,E.A b
 mm:∀i j,i<s.n->j<s.n->i≠j->∀b∈E.m i,b∉E.m j
 oo:∀i j,i<s.n->j<s.n->i≠j->∀b∈E.o i,b∉E.o j
 m_lt:∀i,i<s.n->∀b∈E.m i,b<w.heap.size
 anc:∀b,E.A b->w0.B b\/w0.fr b
 mF:∀i,i<s.n->∀b∈E.m i,w0.fr b
 oF:∀i,i<s.n->∀b∈E.o i,w0.ow b
section
variable {w0:Cx}{w w':World}{E E':En}{L L':Nat->Option Nat}{c c' N:Nat}{s:AS}{a:Act}
structure ft(w:World)(E:En)(L:Nat->Option Nat)(c:Nat)(w':World)(E':En)(L':Nat->Option Nat)(c':Nat):Prop where
 A:∀b,E.A b->E'.A b/\w'.heap[b]? =w.heap[b]?
 L:∀i st,st<c->L' i=some st->L i=some st/\E'.v i=E.v i
 c:c<=c'
theorem aL.stay{vs:List Value}{ds:List DV}(h:aL w E.A vs ds)(k:ft w E L c w' E' L' c'):aL w' E'.A vs ds:=
 (h.keep λb hb=>(k.A b hb).2).mono λb hb=>(k.A b hb).1
theorem UD.stay:∀{cs:List DV} {us:List Value},UD w E.A cs us->ft w E L c w' E' L' c'->UD w' E'.A cs us
 |[],[],_,_=>trivial
 |_::_,_::_,⟨⟨b,off,vals,h1,h2,h3,h4⟩,h5⟩,k=>⟨⟨b,off,vals,h1,(k.A b h2).1,h3.stay k,h4.keep (k.A b h2).2⟩,h5.stay k⟩
 |[],_::_,h,_=>h.elim
 |_::_,[],h,_=>h.elim
theorem dw.stay{x:AC}{u:Value}(h:dw w E L c x u)(k:ft w E L c w' E' L' c'):dw w' E' L' c' x u:=by
 cases x with
 |d x=>exact aL.stay h k
 |nil=>exact h
 |own i st=>exact⟨Nat.lt_of_lt_of_le h.1 k.c,λhl=>by obtain⟨h1,h2⟩:=k.L i st h.1 hl;rw[h2];exact h.2 h1⟩
 |ptr i st off=>exact⟨Nat.lt_of_lt_of_le h.1 k.c,λhl=>by obtain⟨h1,h2⟩:=k.L i st h.1 hl;rw[h2];exact h.2 h1⟩
 |elt i st kk j off=>exact⟨Nat.lt_of_lt_of_le h.1 k.c,λhl=>by obtain⟨h1,h2⟩:=k.L i st h.1 hl;rw[h2];exact h.2 h1⟩
 |sub i st kk lo n=>exact⟨Nat.lt_of_lt_of_le h.1 k.c,λhl=>by obtain⟨h1,h2⟩:=k.L i st h.1 hl;rw[h2];exact h.2 h1⟩
 |emp=>exact h
 |rd cs=>
  obtain⟨b,off,vals,h1,h2,h3,h4⟩:=h
  exact⟨b,off,vals,h1,(k.A b h2).1,h3.stay k,h4.keep (k.A b h2).2⟩
 |fn f cs=>obtain⟨caps,h1,h2⟩:=h;exact⟨caps,h1,h2.stay k⟩
 |lit=>exact⟨h.1,aL.stay h.2 k⟩
theorem aD.stay{cs:List AC}{vals:List Value}(h:aD w E L c cs vals)(k:ft w E L c w' E' L' c'):aD w' E' L' c' cs vals:=
 ⟨h.1,λj x u h1 h2=>(h.2 j x u h1 h2).stay k⟩
theorem cM.stay{b:Bool}{cs:List AC}{v:Value}(h:cM w E L c b cs v)(k:ft w E L c w' E' L' c'):cM w' E' L' c' b cs v:=by
 unfold cM at h ⊢;split
 ·rename_i hb;rw[if_pos hb]at h;obtain⟨vals,h1,h2⟩:=h;exact⟨vals,h1,h2.stay k⟩
 ·rename_i hb;rw[if_neg hb]at h;exact h.stay k
theorem bi.stay{x:AV}{v:Value}(h:bi w E L c x v)(k:ft w E L c w' E' L' c'):bi w' E' L' c' x v:=by
 cases x with
 |p b cs=>exact cM.stay h k
 |tup xs=>obtain⟨vs,h1,h2,h3⟩:=h;exact⟨vs,h1,h2,λj b cs u h4 h5=>(h3 j b cs u h4 h5).stay k⟩
 |und=>trivial
theorem Pr.stay{cu:Option (Nat×Value)}{base i:Nat}{x:Ob}(h:Pr cu w base E L c i x)(k:ft w E L c w' E' L' c')(hv:E'.v i=E.v i)(hm:E'.m i=E.m i)(ho:E'.o i=E.o i)
 (hb:∀b∈E.m i,w'.heap[b]? =w.heap[b]?) (ha:∀b∈E.o i,E.A b):Pr cu w' base E' L' c' i x:=by
 cases x with
 |var st t cs=>
  obtain⟨g,vals,h0,h1,h2,h3,h4,h5,h6⟩:=h
  exact⟨g,vals,Nat.lt_of_lt_of_le h0 k.c,hv.trans h1,hm.trans h2,ho.trans h3,h4,(hb g (by rw[h2];simp)).trans h5,h6.stay k⟩
 |arr st t kk es=>
  obtain⟨g,vals,h0,h1,h2,h3,h4,h5,h6,h7,h8,h9⟩:=h
  exact⟨g,vals,Nat.lt_of_lt_of_le h0 k.c,hv.trans h1,hm.trans h2,ho.trans h3,h4,h5,(hb g (by rw[h2];simp)).trans h6,h7,h8,h9.stay k⟩
 |row st t kk es deep=>
  obtain⟨cells,h0,h1,h2,h3,h4,h5⟩:=h;refine⟨cells,Nat.lt_of_lt_of_le h0 k.c,by rw[hv];exact pN h1 (λb hbb=>hb b (by rw[h4];grind)),h2,h3,by rw[hm,hv];exact h4,?_⟩;split
  ·rename_i hd;rw[if_pos hd]at h5;rw[ho];exact h5.keep (λb hbb=>(k.A b (ha b hbb)).2)
  ·rename_i hd;rw[if_neg hd]at h5;exact⟨ho.trans h5.1,h5.2.stay k⟩
 |frz st x=>exact⟨Nat.lt_of_lt_of_le h.1 k.c,hm.trans h.2.1,ho.trans h.2.2.1,by rw[hv];exact h.2.2.2.stay k⟩
 |dx st x=>exact⟨Nat.lt_of_lt_of_le h.1 k.c,ho.trans h.2.1,by rw[hv,hm];exact h.2.2.keep hb⟩
 |cur st id t x cs=>
  obtain⟨g,u,h0,h1,h2,h3,h4,vals,h5,h6,h7,h8⟩:=h
  exact⟨g,u,Nat.lt_of_lt_of_le h0 k.c,hv.trans h1,hm.trans h2,ho.trans h3,h4,vals,(hb g (by rw[h2];simp)).trans h5,h6.stay k,h7.stay k,h8⟩
 |opn st t kk es q=>
  obtain⟨cells,g,h0,h1,h2,h3,h4,h5,h6,h7,h8⟩:=h;refine⟨cells,g,Nat.lt_of_lt_of_le h0 k.c,by rw[hv];exact pN h1 (λb hbb=>hb b (by rw[h5];grind)),h2,h3,ho.trans h4,by rw[hm,hv];exact h5,by rw[hv];exact h6,h7.keep (λb hbb=>hb b (by rw[h5];grind)),λp hp=>?_⟩;obtain⟨a1,a2,a5,a3,a4⟩:=h8 p hp
  exact⟨a1,a2,a5,Nat.lt_of_lt_of_le a3 k.c,λhl=>by obtain⟨b1,b2⟩:=k.L _ _ a3 hl;rw[b2];grind⟩
 |pvr st t cs=>
  obtain⟨g,vals,h0,h1,h2,h3,h5,h6,h7⟩:=h
  exact⟨g,vals,Nat.lt_of_lt_of_le h0 k.c,hv.trans h1,hm.trans h2,ho.trans h3,(hb g (by rw[h2];simp)).trans h5,h6.stay k,h7⟩
 |dead=>trivial
theorem aH.changeG(h:aH w0 N s a w E){i n':Nat}{X:Ob}{v':Value}{m' o':List Nat}{A':Nat->Prop}
 (hn:s.n<=n') (hn2:∀j,j<n'->j≠i->j<s.n) (hi:i<n')
 (hb:GP w0 w') (hsz:w.heap.size<=w'.heap.size)
 (hblk:∀k,(E.A k\/∃j,j<s.n/\j≠i/\k∈E.m j)->w'.heap[k]? =w.heap[k]?)
 (hc:s.c<=c') (hst:(i<s.n/\X.st=(s.ob i).st/\v'=E.v i)\/∀st,X.st=some st->s.c<=st)
 (hA:∀b,E.A b->A' b) (hA3:∀b,A' b->E.A b\/w0.B b\/w0.fr b) (hA2:∀b,A' b->b<w'.heap.size/\b∉m'/\∀j,j<s.n->j≠i->b∉E.m j)
 (hm:∀b∈m',b<w'.heap.size/\∀j,j<s.n->j≠i->b∉E.m j)
 (ho:∀b∈o',A' b/\∀j,j<s.n->j≠i->b∉E.o j)
 (hX:∀s':AS,s'={s with ob:=upd s.ob i X,n:=n',c:=c'}->∀E':En,E'=⟨upd E.v i v',upd E.m i m',upd E.o i o',A'⟩->ft w E s.lv s.c w' E' s'.lv c'->Pr w0.cu w' 0 E' s'.lv c' i X)
 (hmF:∀b∈m',w0.fr b:=by simp) (hoF:∀b∈o',w0.ow b:=by simp):
 aH w0 N {s with ob:=upd s.ob i X,n:=n',c:=c'} a w' ⟨upd E.v i v',upd E.m i m',upd E.o i o',A'⟩:=by
 have hAm:∀b,E.A b->w'.heap[b]? =w.heap[b]?:=λb hbA=>hblk b (.inl hbA)
 have hstay:ft w E s.lv s.c w' ⟨upd E.v i v',upd E.m i m',upd E.o i o',A'⟩ (AS.lv {s with ob:=upd s.ob i X,n:=n',c:=c'}) c':=by
  refine⟨λb hbA=>⟨hA b hbA,hAm b hbA⟩,λj st hlt hl=>?_,hc⟩;unfold AS.lv at hl ⊢;by_cases e:j=i
  ·subst e;simp[af,if_pos hi]at hl ⊢
   grind
  ·simp[aJ _ _ e]at hl ⊢
   grind
 refine⟨h.size,h.defers,hb,?_,λt=>(h.slot t).stay hstay,λb hbA=>(hA2 b hbA).1,?_,?_,?_,?_,?_,λb hbb=>(hA3 b hbb).elim (h.anc b) id,?_,?_⟩
 ·intro j hj;by_cases e:j=i
  ·subst e;simp[af];grind
  ·simp[aJ _ _ e];have hjn:=hn2 j hj e;refine(h.obj j hjn).stay hstay (aJ _ _ e) (aJ _ _ e) (aJ _ _ e) (λb hbm=>hblk b (.inr ⟨j,hjn,e,hbm⟩)) (λb hbo=>h.A_o j hjn b hbo)
 ·intro b hbA j hj;by_cases e:j=i
  ·subst e;simp[af];grind
  ·simp[aJ _ _ e];grind
 ·intro j hj b hbo;by_cases e:j=i
  ·subst e;simp[af]at hbo;grind
  ·simp[aJ _ _ e]at hbo;exact hA b (h.A_o j (hn2 j hj e) b hbo)
 ·intro j k hj hk hne b hbm;by_cases e:j=i
  ·subst e;simp[af,aJ _ _ (Ne.symm hne)]at hbm ⊢
   grind
  ·by_cases e2:k=i
   ·subst e2;simp[af,aJ _ _ e]at hbm ⊢
    grind
   ·simp[aJ _ _ e,aJ _ _ e2]at hbm ⊢;exact h.mm j k (hn2 j hj e) (hn2 k hk e2) hne b hbm
 ·intro j k hj hk hne b hbm;by_cases e:j=i
  ·subst e;simp[af,aJ _ _ (Ne.symm hne)]at hbm ⊢
   grind
  ·by_cases e2:k=i
   ·subst e2;simp[af,aJ _ _ e]at hbm ⊢
    grind
   ·simp[aJ _ _ e,aJ _ _ e2]at hbm ⊢;exact h.oo j k (hn2 j hj e) (hn2 k hk e2) hne b hbm
 ·intro j hj b hbm;by_cases e:j=i
  ·subst e;simp[af]at hbm;grind
  ·simp[aJ _ _ e]at hbm;exact Nat.lt_of_lt_of_le (h.m_lt j (hn2 j hj e) b hbm) hsz
 ·intro j hj b hbm;by_cases e:j=i
  ·subst e;simp[af]at hbm;grind
  ·simp[aJ _ _ e]at hbm;exact h.mF j (hn2 j hj e) b hbm
 ·intro j hj b hbm;by_cases e:j=i
  ·subst e;simp[af]at hbm;grind
  ·simp[aJ _ _ e]at hbm;exact h.oF j (hn2 j hj e) b hbm
theorem aH.change(h:aH w0 N s a w E){i n':Nat}{X:Ob}{v':Value}{m' o':List Nat}{A':Nat->Prop}
 (hn:s.n<=n') (hn2:∀j,j<n'->j≠i->j<s.n) (hi:i<n')
 (hb:GP w0 w') (hsz:w.heap.size<=w'.heap.size)
 (hblk:∀k,k<w.heap.size->(i<s.n->k∉E.m i)->w'.heap[k]? =w.heap[k]?)
 (hc:s.c<=c') (hst:(i<s.n/\X.st=(s.ob i).st/\v'=E.v i)\/∀st,X.st=some st->s.c<=st)
 (hA:∀b,E.A b->A' b) (hA3:∀b,A' b->E.A b\/w0.B b\/w0.fr b) (hA2:∀b,A' b->b<w'.heap.size/\b∉m'/\∀j,j<s.n->j≠i->b∉E.m j)
 (hm:∀b∈m',b<w'.heap.size/\∀j,j<s.n->j≠i->b∉E.m j)
 (ho:∀b∈o',A' b/\∀j,j<s.n->j≠i->b∉E.o j)
 (hX:∀s':AS,s'={s with ob:=upd s.ob i X,n:=n',c:=c'}->∀E':En,E'=⟨upd E.v i v',upd E.m i m',upd E.o i o',A'⟩->ft w E s.lv s.c w' E' s'.lv c'->Pr w0.cu w' 0 E' s'.lv c' i X)
 (hmF:∀b∈m',w0.fr b:=by simp) (hoF:∀b∈o',w0.ow b:=by simp):
 aH w0 N {s with ob:=upd s.ob i X,n:=n',c:=c'} a w' ⟨upd E.v i v',upd E.m i m',upd E.o i o',A'⟩:=
 h.changeG hn hn2 hi hb hsz (λk hk=>by
  rcases hk with hk|⟨j,hj,hne,hk⟩
  ·exact hblk k (h.A_lt k hk) (λhlt=>h.A_m k hk i hlt)
  ·exact hblk k (h.m_lt j hj k hk) (λhlt=>h.mm j i hj hlt hne k hk)) hc hst hA hA3 hA2 hm ho hX hmF hoF
theorem ft.refl:ft w E L c w E L c:=⟨λb hb=>⟨hb,rfl⟩,λi st _ h=>⟨h,rfl⟩,Nat.le_refl _⟩
theorem aH.world(h:aH w0 N s a w E)(hb:Below w.heap.size w w'){A':Nat->Prop}(hA:∀b,E.A b->A' b)(hA2:∀b,A' b->E.A b\/(w.heap.size<=b/\b<w'.heap.size)):
 aH w0 N s a w' ⟨E.v,E.m,E.o,A'⟩:=by
 have hstay:ft w E s.lv s.c w' ⟨E.v,E.m,E.o,A'⟩ s.lv s.c:=⟨λb hbA=>⟨hA b hbA,hb.block b (h.A_lt b hbA)⟩,λi st _ hl=>⟨hl,rfl⟩,Nat.le_refl _⟩
 refine⟨h.size,h.defers,h.bel.below hb,λi hi=>(h.obj i hi).stay hstay rfl rfl rfl (λb hbm=>hb.block b (h.m_lt i hi b hbm)) (λb hbo=>h.A_o i hi b hbo),
  λt=>(h.slot t).stay hstay,λb hbA=>?_,λb hbA i hi hbm=>?_,λi hi b hbo=>hA b (h.A_o i hi b hbo),h.mm,h.oo,λi hi b hbm=>Nat.lt_of_lt_of_le (h.m_lt i hi b hbm) hb.size,λb hbb=>(hA2 b hbb).elim (h.anc b) (λh1=>.inr (w0.hfr b (Nat.le_trans h.bel.size h1.1))),h.mF,h.oF⟩
 ·rcases hA2 b hbA with h1|h1
  ·exact Nat.lt_of_lt_of_le (h.A_lt b h1) hb.size
  omega
 ·rcases hA2 b hbA with h1|h1
  ·exact h.A_m b h1 i hi hbm
  ·have:=h.m_lt i hi b hbm;omega
theorem aH.world'(h:aH w0 N s a w E)(hb:Below w.heap.size w w'):aH w0 N s a w' E:=h.world hb (λ_ h=>h) (λ_ h=>.inl h)
theorem aH.put(h:aH w0 N s a w E){d:Option Nat}{x:AV}{v:Value}(hx:bi w E s.lv s.c x v)(hd:∀k,d=some k->k<N):aH w0 N (s.put d x) (a.put d v) w E:=by
 cases d with
 |none=>exact h
 |some d=>
  have hd:=hd d rfl;refine⟨by simpa[Act.put]using h.size,h.defers,h.bel,h.obj,λt=>?_,h.A_lt,h.A_m,h.A_o,h.mm,h.oo,h.m_lt,h.anc,h.mF,h.oF⟩;have hs:=h.size;by_cases e:t=d
  ·subst e;simp only[AS.put,af,Act.put];rw[show(a.tmps.setIfInBounds t v).getD t undef=v from by simp_all];exact hx
  ·simp only[AS.put,aJ _ _ e,Act.put];rw[show(a.tmps.setIfInBounds d v).getD t undef=a.tmps.getD t undef from by simp[Array.getElem?_setIfInBounds_ne (Ne.symm e)]];exact h.slot t
theorem aH.weaken(h:aH w0 N s a w E){s':AS}(hn:s'.n<=s.n)(hc:s.c<=s'.c)(ho:∀i,i<s'.n->s'.ob i=s.ob i\/s'.ob i=.dead)(hs:∀t,s'.sl t=s.sl t\/s'.sl t=.und):aH w0 N s' a w E:=by
 have hstay:ft w E s.lv s.c w E s'.lv s'.c:=by
  refine⟨λb hb=>⟨hb,rfl⟩,λi st _ hl=>⟨?_,rfl⟩,hc⟩;unfold AS.lv at hl ⊢;split at hl
  ·rename_i hi;rw[if_pos (by omega)];rcases ho i hi with e|e
   ·rw[<-e];exact hl
   ·rw[e]at hl;cases hl
  grind
 refine⟨h.size,h.defers,h.bel,λi hi=>?_,λt=>?_,h.A_lt,λb hb i hi=>h.A_m b hb i (by omega),λi hi=>h.A_o i (by omega),λi j hi hj=>h.mm i j (by omega) (by omega),λi j hi hj=>h.oo i j (by omega) (by omega),λi hi=>h.m_lt i (by omega),h.anc,λi hi=>h.mF i (by omega),λi hi=>h.oF i (by omega)⟩
 ·rcases ho i hi with e|e
  ·rw[e];exact(h.obj i (by omega)).stay hstay rfl rfl rfl (λ_ _=>rfl) (λb hb=>h.A_o i (by omega) b hb)
  ·rw[e];trivial
 ·rcases hs t with e|e
  ·rw[e];exact(h.slot t).stay hstay
  ·rw[e];trivial
end
end Go.Proofs.YtliknccmjjncbaaGreat
namespace Go.Proofs.YtliknccmjjncbaaGreat
open Go.RowKit
def By(s:AS):AC->DV->Prop
 |.d y,x=>x=y
 |.nil,x=>∃t k,x=.sl t k []
 |.emp,x=>∃t k,x=.sl t k []
 |.own i st,x=>i<s.n/\(match s.ob i with|.row st' t k es _=>st'=st/\x=.sl t k es|.frz st' y=>st'=st/\x=y|.dx st' y=>st'=st/\x=y|_=>False)
 |_,_=>False
def Bk(s:AS):List AC->List DV->Prop
 |[],[]=>True
 |c::cs,x::xs=>By s c x/\Bk s cs xs
 |_,_=>False
def wu(s:AS):List (List AC)->List (List DV)->Prop
 |[],[]=>True
 |c::cs,x::xs=>Bk s c x/\wu s cs xs
 |_,_=>False
def CP(s:AS):AC->DV->Prop
 |.d y,x=>x=y
 |.nil,x=>∃t k,x=.sl t k []
 |.emp,x=>∃t k,x=.sl t k []
 |.sub i st k lo n,x=>i<s.n/\(match s.ob i with|.row st' t k' es _=>st'=st/\k'=k/\x=.sl t k ((es.drop lo).take n)|_=>False)
 |.own i st,x=>i<s.n/\(match s.ob i with|.row st' t k es _=>st'=st/\x=.sl t k es|.frz st' y=>st'=st/\x=y|.dx st' y=>st'=st/\x=y|.arr st' t k es=>st'=st/\∃es',x=.sl t k es'/\wu s es es'|_=>False)
 |_,_=>False
def IA(s:AS):List AC->List DV->Prop
 |[],[]=>True
 |c::cs,x::xs=>CP s c x/\IA s cs xs
 |_,_=>False
def Qx(s:AS):AC->DV->Prop
 |.d y,x=>x=y
 |.nil,x=>∃t k,x=.sl t k []
 |.emp,x=>∃t k,x=.sl t k []
 |.own i st,x=>i<s.n/\(match s.ob i with|.frz st' y=>st'=st/\x=y|_=>False)
 |_,_=>False
def CN(s:AS):List AC->List DV->Prop
 |[],[]=>True
 |c::cs,x::xs=>Qx s c x/\CN s cs xs
 |_,_=>False
def AM(s:AS)(E:En)(b:Nat):Prop:=E.A b\/∃i,i<s.n/\s.ob i≠.dead/\b∈E.m i
section
variable {w0:Cx}{w w':World}{E E':En}{N:Nat}{s:AS}{a:Act}
theorem Ap{i st:Nat}(hi:i<s.n)(h:(s.ob i).st=some st):s.lv i=some st:=by simp_all[AS.lv,if_pos]
theorem DS(h:aH w0 N s a w E){i st t k:Nat}{es:List (List DV)}{dp:Bool}(hi:i<s.n)(ho:s.ob i=.row st t k es dp):aL w (AM s E) [E.v i] [.sl t k es]:=by
 have h1:=h.obj i hi;rw[ho]at h1;obtain⟨cells,_,h2,h3,h4,h5,h6⟩:=h1;refine E4 h2 (λb hb=>.inr ⟨i,hi,by grind,by rw[h5,hb];simp⟩) h3 h4 ?_;split at h6
 ·exact h6.rep.mono λb hb=>.inl (h.A_o i hi b hb)
 ·exact h6.2.mono λb hb=>.inl hb
theorem xB(h:aH w0 N s a w E){i st:Nat}{x:DV}(hi:i<s.n)(ho:s.ob i=.frz st x):aL w E.A [E.v i] [x]:=by
 have h1:=h.obj i hi;rw[ho]at h1;exact h1.2.2.2
theorem RL(h:aH w0 N s a w E){i st:Nat}{x:DV}(hi:i<s.n)(ho:s.ob i=.dx st x):aL w (AM s E) [E.v i] [x]:=by
 have h1:=h.obj i hi;rw[ho]at h1;exact h1.2.2.rep.mono λb hb=>.inr ⟨i,hi,by grind,hb⟩
theorem LY{A:Nat->Prop}{a:Option Addr}{t k:Nat}:aL w A [.slice a 0 0] [.sl t k []]:=.sl0 (Nat.zero_le _) .nil
theorem Og{A:Nat->Prop}{t k:Nat}:aL w A [.slice none 0 0] [.sl t k []]:=.sl0 (Nat.zero_le _) .nil
theorem mR(h:aH w0 N s a w E){c:AC}{u:Value}{x:DV}(hc:dw w E s.lv s.c c u)(hx:By s c x):aL w (AM s E) [u] [x]:=by
 cases c with
 |d y=>simp[By]at hx;subst hx;exact aL.mono hc λb hb=>.inl hb
 |nil=>obtain⟨t,k,rfl⟩:=hx;obtain rfl:u=_:=hc;exact Og
 |own i st=>
  obtain⟨hi,hx⟩:=hx;split at hx
  ·rename_i st' t k es dp ho;obtain⟨rfl,rfl⟩:=hx;rw[hc.2 (Ap hi (by rw[ho];rfl))]
   grind[DS]
  ·rename_i st' y ho;obtain⟨rfl,rfl⟩:=hx;rw[hc.2 (Ap hi (by rw[ho];rfl))];exact(xB h hi ho).mono λb hb=>.inl hb
  ·rename_i st' y ho;obtain⟨rfl,rfl⟩:=hx;rw[hc.2 (Ap hi (by rw[ho];rfl))]
   grind[RL]
  grind
 |ptr=>exact hx.elim
 |elt=>exact hx.elim
 |sub=>exact hx.elim
 |emp=>obtain⟨t,k,rfl⟩:=hx;obtain⟨A,rfl⟩:=hc;exact LY
 |rd=>exact hx.elim
 |fn=>exact hx.elim
 |lit=>exact hx.elim
theorem aD.cons'{L:Nat->Option Nat}{c:Nat}{x:AC}{cs:List AC}{vals:List Value}(h:aD w E L c (x::cs) vals):∃u us,vals=u::us/\dw w E L c x u/\aD w E L c cs us:=by
 cases vals with
 |nil=>have:=h.1;grind
 |cons u us=>exact⟨u,us,rfl,h.2 0 x u rfl rfl,by simpa using h.1,λj y v h1 h2=>h.2 (j+1) y v (by assumption) (by assumption)⟩
theorem aD.nil'{L:Nat->Option Nat}{c:Nat}{vals:List Value}(h:aD w E L c [] vals):vals=[]:=List.eq_nil_of_length_eq_zero h.1.symm
theorem aD.cons{L:Nat->Option Nat}{c:Nat}{x:AC}{u:Value}{cs:List AC}{vals:List Value}(hx:dw w E L c x u)(h:aD w E L c cs vals):aD w E L c (x::cs) (u::vals):=by
 refine⟨by simp[h.1],λj y v h1 h2=>?_⟩
 cases j with
 |zero=>grind
 |succ j=>exact h.2 j y v (by assumption) (by assumption)
theorem aD.nil{L:Nat->Option Nat}{c:Nat}:aD w E L c [] []:=⟨rfl,λj x u h=>by grind⟩
theorem aD.drop{L:Nat->Option Nat}{c:Nat}{cs:List AC}{vals:List Value}(h:aD w E L c cs vals)(n:Nat):aD w E L c (cs.drop n) (vals.drop n):=
 ⟨by simp[h.1],λj x u h1 h2=>h.2 (n+j) x u (by rwa [List.getElem?_drop]at h1) (by rwa [List.getElem?_drop]at h2)⟩
theorem aD.take{L:Nat->Option Nat}{c:Nat}{cs:List AC}{vals:List Value}(h:aD w E L c cs vals)(n:Nat):aD w E L c (cs.take n) (vals.take n):=by
 refine⟨by simp[h.1],λj x u h1 h2=>?_⟩;rw[List.getElem?_take]at h1 h2;split at h1
 ·rename_i hj;rw[if_pos hj]at h2;exact h.2 j x u h1 h2
 grind
theorem aD.app{L:Nat->Option Nat}{c:Nat}{cs xs:List AC}{vals us:List Value}(h:aD w E L c cs vals)(k:aD w E L c xs us):aD w E L c (cs++xs) (vals++us):=by
 induction cs generalizing vals with
 |nil=>rw[h.nil'];exact k
 |cons x cs ih=>obtain⟨u,us',rfl,h1,h2⟩:=h.cons';exact aD.cons h1 (ih h2)
theorem aD.ofRep{L:Nat->Option Nat}{c:Nat}{vals:List Value}{ds:List DV}(h:aL w E.A vals ds):aD w E L c (ds.map .d) vals:=by
 refine⟨by simp[h.len],λj x u h1 h2=>?_⟩;rw[List.getElem?_map]at h1
 cases hd:ds[j]? with
 |none=>grind
 |some y=>simp[hd]at h1;subst h1;exact h.get h2 hd
theorem RA(h:aH w0 N s a w E){cs:List AC}:∀{vals:List Value} {xs:List DV},aD w E s.lv s.c cs vals->Bk s cs xs->aL w (AM s E) vals xs:=by
 induction cs with
 |nil=>intro vals xs hc hx;rw[hc.nil'];cases xs with
  |nil=>exact .nil
  |cons=>exact hx.elim
 |cons c cs ih=>
  intro vals xs hc hx;obtain⟨u,us,rfl,h1,h2⟩:=hc.cons'
  cases xs with
  |nil=>exact hx.elim
  |cons x xs=>exact(mR h h1 hx.1).cons (ih h2 hx.2)
theorem NE{cs:List AC}:∀{xs:List DV},Bk s cs xs->cs.length=xs.length:=by
 induction cs with
 |nil=>intro xs h;cases xs with
  |nil=>rfl
  |cons=>exact h.elim
 |cons c cs ih=>intro xs h;cases xs with
  |nil=>exact h.elim
  |cons=>simp[ih h.2]
theorem Hk{es:List (List AC)}:∀{xs:List (List DV)},wu s es xs->Bk s es.flatten xs.flatten/\es.length=xs.length/\∀k,(∀e∈es,e.length=k)->∀e∈xs,e.length=k:=by
 induction es with
 |nil=>intro xs h;cases xs with
  |nil=>exact⟨trivial,rfl,λk _ e he=>by cases he⟩
  |cons=>exact h.elim
 |cons c cs ih=>
  intro xs h
  cases xs with
  |nil=>exact h.elim
  |cons x xs=>
   obtain⟨h1,h2,h3⟩:=ih h.2;refine⟨?_,by grind,λk hk e he=>?_⟩
   ·have hh:=h.1;clear h h2 h3 ih;rw[List.flatten_cons,List.flatten_cons]
    induction c generalizing x with
    |nil=>cases x with
     |nil=>exact h1
     |cons=>exact hh.elim
    |cons y c ih=>cases x with
     |nil=>exact hh.elim
     |cons=>exact⟨hh.1,ih _ hh.2⟩
   ·rcases List.mem_cons.1 he with rfl|he
    ·rw[<-NE h.1];grind
    simp_all
theorem sW{g:Nat}{t:TypeId}{vals:List Value}(h:mG w g t vals.toArray)(off:Nat):At w g off (vals.drop off):=by
 intro j u hu;rw[h.cell];rw[List.getElem?_drop]at hu;grind
theorem eO{α:Type}{es:List (List α)}{k l m:Nat}(hk:∀e∈es,e.length=k):((es.drop l).take m).flatten=(es.flatten.drop (l*k)).take (m*k):=by
 induction es generalizing l m with
 |nil=>simp
 |cons e es ih=>
  have he:=hk e (List.mem_cons_self ..);have hk':∀e∈es,e.length=k:=λe he=>hk e (List.mem_cons_of_mem _ he)
  cases l with
  |zero=>
   cases m with
   |zero=>simp
   |succ m=>
    have:=ih (l:=0) (m:=m) hk'
    simp_all[List.drop_zero,Nat.zero_mul,List.take_succ_cons,List.flatten_cons,List.take_of_length_le,Nat.succ_mul,List.take_append,Nat.add_sub_cancel]
  |succ l=>
   rw[List.drop_succ_cons,ih hk',List.flatten_cons,Nat.succ_mul,Nat.add_comm (l*k) k,<-List.drop_drop,<-he,List.drop_left]
theorem mi(b off d:Nat):(⟨b,off,none⟩:Addr).add d=⟨b,off+d,none⟩:=by unfold Addr.add;split<;>simp_all
theorem L0{A:Nat->Prop}{Ad B:Option Addr}{M cp t k lo n:Nat}{es:List (List DV)}(h:aL w A [.slice Ad M cp] [.sl t k es])(hn:lo+n<=es.length)(hB:0<n->B=Ad.map λad=>ad.add (lo*k)):aL w A [.slice B n (cp-lo)] [.sl t k ((es.drop lo).take n)]:=by
 rcases Nat.eq_zero_or_pos n with h0|h0
 ·subst h0;rw[List.take_zero];obtain⟨_,_,e,_,e2⟩:=h.slShape;injection e with _ _ e3;subst e3;exact .sl0 (by omega) .nil
 ·generalize hM:M=m at h
  cases h with
  |sl0=>grind
  |@sl b off n' c t k es cells vs ds g1 g2 g3 g4 g5 g6 g7 g8 g9 g10=>
   rw[hB h0,Option.map_some,mi];have hl':((es.drop lo).take n).length=n:=by rw[List.length_take,List.length_drop];omega
   refine .sl g1 hl'.symm h0 (by omega) (by omega) g6 (λe he=>g7 e (List.mem_of_mem_drop (List.mem_of_mem_take he))) (cells:=(cells.drop (lo*k)).take (n*k)) ?_ (rS g9) .nil;rw[eO g7];exact(g8.drop _).take _
theorem BD(h:aH w0 N s a w E){c:AC}{u:Value}{x:DV}(hc:dw w E s.lv s.c c u)(hx:CP s c x):aL w (AM s E) [u] [x]:=by
 cases c with
 |d y=>exact mR h hc hx
 |nil=>exact mR h hc hx
 |own i st=>
  obtain⟨hi,hx⟩:=hx;split at hx
  ·rename_i ho;exact mR h hc ⟨hi,by rw[ho];exact hx⟩
  ·rename_i ho;exact mR h hc ⟨hi,by rw[ho];exact hx⟩
  ·rename_i ho;exact mR h hc ⟨hi,by rw[ho];exact hx⟩
  ·rename_i st' t k es ho;obtain⟨rfl,es',rfl,hr⟩:=hx;rw[hc.2 (Ap hi (by rw[ho];rfl))];have h1:=h.obj i hi;rw[ho]at h1;obtain⟨g,vals,_,e1,e2,_,_,e3,hB,hk,hu,hcs⟩:=h1;obtain⟨f1,f2,f3⟩:=Hk hr;rw[e1];rcases Nat.eq_zero_or_pos es.length with h0|h0
   ·have:es'=[]:=List.eq_nil_of_length_eq_zero (by omega);subst this;rw[h0];exact .sl0 (Nat.zero_le _) .nil
   ·rw[f2]at h0 e3 ⊢;exact .sl (.inr ⟨i,hi,by grind,by rw[e2];simp⟩) rfl h0 (Nat.le_refl _) e3 hk (f3 k hu) (RA h hcs f1) (by simpa using sW hB 0) .nil
  grind
 |ptr=>exact hx.elim
 |elt=>exact hx.elim
 |emp=>exact mR h hc hx
 |sub i st k lo n=>
  obtain⟨hi,hx⟩:=hx;split at hx
  ·rename_i st' t k' es dp ho;obtain⟨rfl,rfl,rfl⟩:=hx;have hr:=DS h hi ho;obtain⟨A,M,cp,B,e1,e2,rfl,e4,e5⟩:=hc.2 (Ap hi (by rw[ho];rfl));rw[e1]at hr;have h1:=h.obj i hi;rw[ho]at h1;obtain⟨cells,_,h2,_⟩:=h1
   grind[ba,L0]
  grind
 |rd=>exact hx.elim
 |fn=>exact hx.elim
 |lit=>exact hx.elim
theorem HE(h:aH w0 N s a w E){cs:List AC}:∀{vals:List Value} {xs:List DV},aD w E s.lv s.c cs vals->IA s cs xs->aL w (AM s E) vals xs:=by
 induction cs with
 |nil=>intro vals xs hc hx;rw[hc.nil'];cases xs with
  |nil=>exact .nil
  |cons=>exact hx.elim
 |cons c cs ih=>
  intro vals xs hc hx;obtain⟨u,us,rfl,h1,h2⟩:=hc.cons'
  cases xs with
  |nil=>exact hx.elim
  |cons x xs=>exact(BD h h1 hx.1).cons (ih h2 hx.2)
theorem NL(h:aH w0 N s a w E){c:AC}{u:Value}{x:DV}(hc:dw w E s.lv s.c c u)(hx:Qx s c x):aL w E.A [u] [x]:=by
 cases c with
 |d y=>simp[Qx]at hx;subst hx;exact hc
 |nil=>obtain⟨t,k,rfl⟩:=hx;obtain rfl:u=_:=hc;exact Og
 |own i st=>
  obtain⟨hi,hx⟩:=hx;split at hx
  ·rename_i st' y ho;obtain⟨rfl,rfl⟩:=hx;rw[hc.2 (Ap hi (by rw[ho];rfl))]
   grind[xB]
  grind
 |ptr=>exact hx.elim
 |elt=>exact hx.elim
 |sub=>exact hx.elim
 |emp=>obtain⟨t,k,rfl⟩:=hx;obtain⟨A,rfl⟩:=hc;exact LY
 |rd=>exact hx.elim
 |fn=>exact hx.elim
 |lit=>exact hx.elim
theorem Eu(h:aH w0 N s a w E){cs:List AC}:∀{vals:List Value} {xs:List DV},aD w E s.lv s.c cs vals->CN s cs xs->aL w E.A vals xs:=by
 induction cs with
 |nil=>intro vals xs hc hx;rw[hc.nil'];cases xs with
  |nil=>exact .nil
  |cons=>exact hx.elim
 |cons c cs ih=>
  intro vals xs hc hx;obtain⟨u,us,rfl,h1,h2⟩:=hc.cons'
  cases xs with
  |nil=>exact hx.elim
  |cons x xs=>exact(NL h h1 hx.1).cons (ih h2 hx.2)
end
def EJ(w:World)(B:Nat->Prop)(v:Value)(x:Bool×List DV):Prop:=
 if x.1 then∃vals:List Value,v=.agg vals.toArray/\aL w B vals x.2 else aL w B [v] x.2
def dg(w:World)(B:Nat->Prop)(vs:List Value)(xs:List (Bool×List DV)):Prop:=
 vs.length=xs.length/\∀(j:Nat) v x,vs[j]? =some v->xs[j]? =some x->EJ w B v x
abbrev Rs:=Bool×List DV×Bool
def Vp(w w':World)(B:Nat->Prop)(F:List Nat)(v:Value)(r:Rs)(f:List Nat):Prop:=
 ∃vals:List Value,(if r.1 then v=.agg vals.toArray else vals=[v])/\
  if r.2.2 then aR w' w.heap.size vals r.2.1 f else f=[]/\aL w' (λb=>B b\/(w.heap.size<=b/\b<w'.heap.size/\b∉F)) vals r.2.1
def YK(w w':World)(B:Nat->Prop)(v:Value)(rs:List Rs):Prop:=
 ∃(vs:List Value) (fs:List (List Nat)),(if rs.length=1 then vs=[v]else v=.tuple vs.toArray)/\vs.length=rs.length/\fs.length=rs.length/\fs.flatten.Nodup/\
  ∀(j:Nat) u r f,vs[j]? =some u->rs[j]? =some r->fs[j]? =some f->Vp w w' B fs.flatten u r f
def bc (P : Program) (f : FuncId) : Bool := match P.funcs[f]? with | some fn => fn.body.isSome && !(fn.name == "runtime.NumGoroutine") | none => false
def Ri(w:World)(B:Nat->Prop)(res:List Rs)(e:Ending)(w':World):Prop:=∃v,e=.returned v/\YK w w' B v res/\Below w.heap.size w w'
def aB(P:Program)(f:FuncId)(args:List (Bool×List DV))(res:List Rs):Prop:=
 bc P f=true/\∀(w:World) (B:Nat->Prop) (vs:List Value),(∀b,B b->b<w.heap.size)->dg w B vs args->Calls P f vs.toArray w (Ri w B res)
section
variable (P:Program)
def bR(t:TypeId):Option Bool:=match P.underlying t with|some (.struct _)=>some true|some (.array _ _)=>some true|some _=>some false|none=>none
def cG(t:TypeId):Option Nat:=(P.info? t).map (·.size)
def dN(t:TypeId):Option (TypeId×Nat):=match P.underlying t with|some (.slice e)=>(cG P e).map λk=>(e,k)|_=>none
def dd(t:TypeId)(f:Nat):Option (Nat×Nat×Bool):=
 match P.underlying t with|some (.struct fs)=>(fs[f]?).bind λfd=>(cG P fd.type).bind λk=>(bR P fd.type).map λb=>(fd.offset,k,b)|_=>none
def aT(t:TypeId):Option (List Value):=(P.info? t).bind λi=>i.zero.map λz=>z.cells.toList
theorem qm{t:TypeId}{b:Bool}(h:bR P t=some b)(w:World):(isAgg t).run P w=.ok b w:=by
 unfold bR at h
 cases hu:P.underlying t with
 |none=>grind
 |some d=>cases d<;>simp_all[isAgg,run_underlying hu]
theorem oU{t:TypeId}{k:Nat}(h:cG P t=some k)(w:World):(sizeOf t).run P w=.ok k w:=by
 unfold cG at h
 cases hi:P.info? t with
 |none=>grind
 |some i=>simp[hi]at h;simp[sizeOf,typeInfo,hi,h]
theorem BR{t:TypeId}{w:World}{b off:Nat}{vals:List Value}(h:bR P t=some true)(hs:cG P t=some vals.length)(ha:At w b off vals):
 (Instr.loadAt t (.pointer (some ⟨b,off,none⟩))).run P w=.ok (.agg vals.toArray) w:=by
 have hl:=run_loadCells_list (P:=P) w ⟨b,off,none⟩ vals (λj v hv=>by
  have hadd:(⟨b,off,none⟩:Addr).add j=⟨b,off+j,none⟩:=by unfold Addr.add;split<;>simp_all
  rw[hadd];exact ha j v hv)
 simp[Instr.loadAt,Instr.sureAddr,loadVar,qm P h,oU P hs,hl]
theorem Aj{t:TypeId}{w:World}{b off:Nat}{u:Value}(h:bR P t=some false)(ha:w.cell? ⟨b,off,none⟩=some u):
 (Instr.loadAt t (.pointer (some ⟨b,off,none⟩))).run P w=.ok u w:=by
 simp[Instr.loadAt,Instr.sureAddr,loadVar,qm P h,ha]
theorem oG{t:TypeId}{f:Nat}{off k:Nat}{ag:Bool}{w:World}{b o:Nat}(h:dd P t f=some (off,k,ag))(hk:0<k):
 (Instr.fieldAt t (.pointer (some ⟨b,o,none⟩)) f).run P w=.ok (.pointer (some ⟨b,o+off,none⟩)) w:=by
 unfold dd at h
 cases hu:P.underlying t with
 |none=>grind
 |some d=>
  cases d with
  |struct fs=>
   simp[hu]at h
   cases hf:fs[f]? with
   |none=>grind
   |some fd=>
    simp[hf,Option.bind_some]at h
    cases hz:cG P fd.type with
    |none=>grind
    |some k'=>
     simp only[hz,Option.bind_some]at h
     cases hg:bR P fd.type with
     |none=>grind
     |some b'=>
      simp[hg]at h;obtain⟨rfl,rfl,rfl⟩:=h;have hadd:(⟨b,o,none⟩:Addr).add fd.offset=⟨b,o+fd.offset,none⟩:=by unfold Addr.add;split<;>simp_all
      simp[Instr.fieldAt,run_underlying hu,hf,Instr.sureAddr,fieldPlace,oU P hz,show¬k'=0 from by omega,hadd]
  |_=>simp[hu]at h
theorem OH{t:TypeId}{f:Nat}{off k:Nat}{ag:Bool}{w:World}{vals:List Value}(h:dd P t f=some (off,k,ag)):
 (ag=true->(Instr.field t (.agg vals.toArray) f).run P w=.ok (.agg ((vals.drop off).take k).toArray) w)/\
 (ag=false->∀u,vals[off]? =some u->(Instr.field t (.agg vals.toArray) f).run P w=.ok u w):=by
 unfold dd at h
 cases hu:P.underlying t with
 |none=>grind
 |some d=>
  cases d with
  |struct fs=>
   simp[hu]at h
   cases hf:fs[f]? with
   |none=>grind
   |some fd=>
    simp[hf,Option.bind_some]at h
    cases hz:cG P fd.type with
    |none=>grind
    |some k'=>
     simp only[hz,Option.bind_some]at h
     cases hg:bR P fd.type with
     |none=>grind
     |some b'=>
      simp[hg]at h;obtain⟨rfl,rfl,rfl⟩:=h;constructor
      ·rintro rfl;simp[Instr.field,run_underlying hu,hf,asAgg,part,qm P hg,oU P hz,List.extract_eq_take_drop]
      ·rintro rfl u hu'
       simp[Instr.field,run_underlying hu,hf,asAgg,part,qm P hg,hu']
  |_=>simp[hu]at h
theorem lw{t el:TypeId}{k:Nat}{w:World}{b off n c:Nat}{ki:IntKind}{j:Nat}(h:dN P t=some (el,k))(hj:j<n):
 (Instr.indexAt t (.slice (some ⟨b,off,none⟩) n c) (.int ki j)).run P w=.ok (.pointer (some ⟨b,off+j*k,none⟩)) w:=by
 unfold dN at h
 cases hu:P.underlying t with
 |none=>grind
 |some d=>
  cases d with
  |slice e=>
   simp[hu]at h
   cases hz:cG P e with
   |none=>grind
   |some k'=>
    simp[hz]at h;obtain⟨rfl,rfl⟩:=h;have hadd:(⟨b,off,none⟩:Addr).add (j*k')=⟨b,off+j*k',none⟩:=by unfold Addr.add;split<;>simp_all
    simp[Instr.indexAt,run_underlying hu,asIntOf,hj,oU P hz,hadd]
  |_=>simp[hu]at h
end
end Go.Proofs.YtliknccmjjncbaaGreat
namespace Go.Proofs.YtliknccmjjncbaaGreat
open Go.RowKit
def AS.push(s:AS)(x:Ob):AS:={s with ob:=upd s.ob s.n x,n:=s.n+1,c:=s.c+1}
def AS.pushL(s:AS):List Ob->AS
 |[]=>s
 |x::r=>(s.push x).pushL r
structure Ya(n n':Nat)(w:World)(E E':En):Prop where
 same:∀i,i<n->E'.v i=E.v i/\E'.m i=E.m i/\E'.o i=E.o i
 A:∀b,E.A b->E'.A b
 A':∀b,E'.A b->E.A b\/w.heap.size<=b
 new:∀i,n<=i->i<n'->∀b,b∈E'.m i\/b∈E'.o i->w.heap.size<=b
theorem Ya.refl{n:Nat}{w:World}{E:En}:Ya n n w E E:=⟨λ_ _=>⟨rfl,rfl,rfl⟩,λ_ h=>h,λ_ h=>.inl h,λi h1 h2=>by omega⟩
def Wr(w0:Cx)(N:Nat)(s:AS)(x:AV)(news:List Ob)(o:Oper)(a:Act)(w:World)(E:En)(a':Act)(w':World):Prop:=
 ∃v E',a'=a.put o.dst v/\Below w.heap.size w w'/\Ya s.n (s.pushL news).n w E E'/\aH w0 N (s.pushL news) a w' E'/\bi w' E' (s.pushL news).lv (s.pushL news).c x v
def dH(P:Program)(o:Oper)(s:AS)(x:AV)(news:List Ob):Prop:=
 ∀w0 N a w E,aH w0 N s a w E->o.wp P a w (Wr w0 N s x news o a w E) (λ_ _ _=>False)
theorem dH.of_run{P:Program}{o:Oper}{s:AS}{x:AV}(h:∀w0 N a w E,aH w0 N s a w E->∃v,(execOp a.eval o).run P w=.ok (.value v) w/\bi w E s.lv s.c x v):dH P o s x []:=by
 intro w0 N a w E hr;obtain⟨v,h1,h2⟩:=h w0 N a w E hr;unfold Oper.wp;rw[h1,Oper.upon_value];exact⟨v,E,rfl,Below.refl _ _,Ya.refl,hr,h2⟩
def Om:Value->Option AC
 |.bool b=>some (.d (.sc (.bool b)))
 |.int k n=>some (.d (.sc (.int k n)))
 |.string t=>some (.d (.sc (.string t)))
 |.slice none 0 0=>some .nil
 |_=>none
def XU(v:Value):AV:=match Om v with|some c=>.p false [c]|none=>.und
def AS.ev(s:AS):Operand->AV
 |.tmp t=>s.sl t
 |.const v=>XU v
 |_=>.und
section
variable {w:World}{E:En}{L:Nat->Option Nat}{c:Nat}
theorem aE{x:AC}{v:Value}(h:bi w E L c (.p false [x]) v):dw w E L c x v:=by
 have h':aD w E L c [x] [v]:=h;exact h'.2 0 x v rfl rfl
theorem aN{x:AC}{v:Value}(h:dw w E L c x v):bi w E L c (.p false [x]) v:=by
 show aD w E L c [x] [v];exact aD.cons h aD.nil
theorem oR{cs:List AC}{v:Value}(h:bi w E L c (.p true cs) v):∃vals:List Value,v=.agg vals.toArray/\aD w E L c cs vals:=h
theorem bA{u v:Value}(h:bi w E L c (.p false [.d (.sc u)]) v):v=u:=(aL.scOf (aE h)).1
theorem bX{u:Value}(h:Sc u):bi w E L c (.p false [.d (.sc u)]) u:=aN (aL.sc h .nil)
theorem OL{v:Value}{x:AC}(h:Om v=some x):dw w E L c x v:=by
 unfold Om at h;split at h
 all_goals first|(cases h)|cases h
 ·exact aL.sc trivial .nil
 ·exact aL.sc trivial .nil
 ·exact aL.sc trivial .nil
 rfl
theorem Vv(v:Value):bi w E L c (XU v) v:=by
 unfold XU;split
 ·grind[aN,OL]
 ·trivial
end
theorem aP{w0:Cx}{w:World}{N:Nat}{s:AS}{a:Act}{E:En}(h:aH w0 N s a w E)(x:Operand):bi w E s.lv s.c (s.ev x) (a.eval x):=by
 cases x with
 |tmp t=>exact h.slot t
 |const v=>exact Vv v
 |global g=>trivial
 |func f=>trivial
def dK(op:BinOp)(k k':IntKind)(a b:Int):Option Value:=
 match op with
 |.add=>if k=k' then some (.int k (k.wrap (a+b)))else none
 |.sub=>if k=k' then some (.int k (k.wrap (a-b)))else none
 |.mul=>if k=k' then some (.int k (k.wrap (a*b)))else none
 |.quo=>if k=k'/\b≠0 then some (.int k (k.wrap (a.tdiv b)))else none
 |.rem=>if k=k'/\b≠0 then some (.int k (a.tmod b))else none
 |.and=>if k=k' then some (.int k (k.wrap (BitVec.ofInt k.bits a &&& BitVec.ofInt k.bits b).toNat))else none
 |.or=>if k=k' then some (.int k (k.wrap (BitVec.ofInt k.bits a ||| BitVec.ofInt k.bits b).toNat))else none
 |.xor=>if k=k' then some (.int k (k.wrap (BitVec.ofInt k.bits a ^^^ BitVec.ofInt k.bits b).toNat))else none
 |.andNot=>if k=k' then some (.int k (k.wrap (BitVec.ofInt k.bits a &&& ~~~ BitVec.ofInt k.bits b).toNat))else none
 |.eql=>if k=k' then some (.bool (decide (a=b)))else none
 |.neq=>if k=k' then some (.bool (!decide (a=b)))else none
 |.lss=>if k=k' then some (.bool (decide (a<b)))else none
 |.leq=>if k=k' then some (.bool (decide (a<=b)))else none
 |.gtr=>if k=k' then some (.bool (decide (b<a)))else none
 |.geq=>if k=k' then some (.bool (decide (b<=a)))else none
 |.shl=>if b<0 then none else some (.int k (k.wrap (a*2^(min b.toNat k.bits))))
 |.shr=>if b<0 then none else some (.int k (a.fdiv (2^(min b.toNat k.bits))))
def v8(op:BinOp)(x y:ByteArray):Option Value:=
 match op with
 |.add=>if x.size+y.size<=maxLen then some (.string (x++y))else none
 |.eql=>some (.bool (decide (x=y)))
 |.neq=>some (.bool (!decide (x=y)))
 |.lss=>some (.bool (Op.bytesLess x.toList y.toList))
 |.leq=>some (.bool (Op.bytesLess x.toList y.toList||decide (x=y)))
 |.gtr=>some (.bool (!(Op.bytesLess x.toList y.toList||decide (x=y))))
 |.geq=>some (.bool (!Op.bytesLess x.toList y.toList))
 |_=>none
def An(P:Program)(op:BinOp)(t:TypeId)(x y:Value):Option Value:=
 match x,y with
 |.int k a,.int k' b=>dK op k k' a b
 |.string a,.string b=>v8 op a b
 |.bool a,.bool b=>match op,P.underlying t with
  |.eql,some .bool=>some (.bool (a==b))
  |.neq,some .bool=>some (.bool (!(a==b)))
  |_,_=>none
 |_,_=>none
def Sx(op:UnOp)(x:Value):Option Value:=
 match op,x with
 |.neg,.int k n=>some (.int k (k.wrap (0-n)))
 |.not,.bool b=>some (.bool (!b))
 |_,_=>none
def R9(P:Program)(src dst:TypeId)(x:Value):Option Value:=
 match P.underlying src,P.underlying dst,x with
 |some _,some (.int k),.int _ n=>some (.int k (k.wrap n))
 |some _,some .string,.string s=>some (.string s)
 |_,_,_=>none
theorem Am{x y:ByteArray}:(x.toList==y.toList)=decide (x=y):=by
 rw[ByteArray.toList_eq,ByteArray.toList_eq]
 grind[decide_eq_false,beq_eq_false_iff_ne,ByteArray.ext,Array.toList_inj]
theorem Jm{P:Program}{op:BinOp}{t:TypeId}{x y v:Value}(h:An P op t x y=some v)(X Y:Operand)(w:World):
 (do eqGuard op t X Y x y;binOp op t x y:Sem Value).run P w=.ok v w/\Sc v:=by
 unfold An at h;split at h
 ·rename_i k a k' b;unfold dK at h;split at h
  all_goals
   split at h
   all_goals first|cases h|(cases h)
   try simp_all
  all_goals simp_all[eqGuard,binOp,Op.intArith,Op.intDiv,Op.intBits,Op.intCmp,Op.shift,Sc]
  all_goals first|rfl|(intro hb;omega)
 ·rename_i a b;unfold v8 at h;split at h
  ·split at h
   ·cases h;rename_i hsz;unfold maxLen at hsz
    have:¬((a.size+b.size:Nat):Int)>IntKind.i64.max:=by
     simp[IntKind.max,IntKind.bits,IntKind.signed];omega
    simp only[eqGuard,binOp,Op.stringOp];rw[if_neg this];simp[Sc]
   grind
  all_goals first|cases h|skip
  all_goals simp[eqGuard,binOp,Op.stringOp,Sc,Am]
 ·rename_i a b;split at h
  ·rename_i hu;cases h;simp[eqGuard,run_eql_bool w t a b hu,Sc]
  ·rename_i hu;cases h;simp[eqGuard,run_neq_bool w t a b hu,Sc]
  grind
 grind
theorem Lr{P:Program}{op:UnOp}{x v:Value}(h:Sx op x=some v)(w:World):(Op.unary op x).run P w=.ok v w/\Sc v:=by
 unfold Sx at h;split at h
 ·cases h;simp[Op.unary,Op.intArith,Sc]
 ·cases h;simp[Op.unary,Sc]
 grind
theorem Tg{P:Program}{a b:TypeId}{x v:Value}(h:R9 P a b x=some v)(w:World):(convert a b x).run P w=.ok v w/\Sc v:=by
 unfold R9 at h;split at h
 ·rename_i d k kk n h1 h2;cases h;simp[convert,run_underlying h1,run_underlying h2,Conv.intToInt,Sc]
 ·rename_i d s h1 h2;cases h;simp[convert,run_underlying h1,run_underlying h2,Sc]
 grind
def AS.own? (s:AS)(i st:Nat):Option Ob:=if i<s.n then(if(s.ob i).st=some st then some (s.ob i)else none)else none
def JX(P:Program)(t:TypeId)(cs:List AC):Option AV:=
 match bR P t with
 |some true=>match cG P t with|some k=>if k<=cs.length then some (.p true (cs.take k))else none|none=>none
 |some false=>match cs with|c::_=>some (.p false [c])|[]=>none
 |none=>none
def mo(v:Value):AV:=.p false [.d (.sc v)]
def AS.evI(s:AS):Option Operand->Option (Option Int)
 |none=>some none
 |some x=>match s.ev x with|.p false [.d (.sc (.int _ i))]=>some (some i)|_=>none
def ne(lo hi:Option Int)(len:Nat):Option (Nat×Nat):=
 if 0<=lo.getD 0/\lo.getD 0<=hi.getD len/\hi.getD len<=len then some ((lo.getD 0).toNat,(hi.getD len).toNat)else none
def tV(P:Program)(s:AS)(t:TypeId)(x:AV)(lo hi:Option Int):Option AV:=
 match x with
 |.p false [.d (.sc (.string b))]=>match P.underlying t,ne lo hi b.size with|some .string,some (l,h)=>some (mo (.string (b.extract l h)))|_,_=>none
 |.p false [.d (.sl ty k es)]=>match dN P t,ne lo hi es.length with|some (_,k'),some (l,h)=>if k'=k then some (.p false [.d (.sl ty k ((es.drop l).take (h-l)))])else none|_,_=>none
 |.p false [.own i st]=>(match dN P t,s.own? i st with|some (_,k'),some (.row _ _ k es _)=>(match ne lo hi es.length with|some (l,h)=>if k'=k then some (.p false [.sub i st k l (h-l)])else none|none=>none)|_,_=>none)
 |.p false [.sub i st k lo0 n]=>(match dN P t,s.own? i st with|some (_,k'),some (.row _ _ k2 _ _)=>(match ne lo hi n with|some (l,h)=>if k'=k/\k2=k then some (.p false [.sub i st k (lo0+l) (h-l)])else none|none=>none)|_,_=>none)
 |_=>none
def lz(P:Program)(s:AS)(t:TypeId):AC->Option Nat
 |.d (.sc (.string b))=>match P.underlying t with|some .string=>some b.size|_=>none
 |.d (.sl _ _ es)=>if(dN P t).isSome then some es.length else none
 |.nil=>if(dN P t).isSome then some 0 else none
 |.emp=>if(dN P t).isSome then some 0 else none
 |.sub i st _ _ n=>if(dN P t).isSome/\(s.own? i st).isSome then some n else none
 |.own i st=>if(dN P t).isSome then(match s.own? i st with|some (.row _ _ _ es _)=>some es.length|some (.arr _ _ _ es)=>some es.length|some (.frz _ (.sl _ _ es))=>some es.length|some (.dx _ (.sl _ _ es))=>some es.length|some (.opn _ _ _ es _)=>some es.length|_=>none)else none
 |_=>none
def tJ(P:Program)(s:AS)(t:TypeId)(c:AC)(i:Int):Option AV:=
 if 0<=i then
  match dN P t,c with
  |some (_,k'),.d (.sl _ k es)=>if k'=k then(match es[i.toNat]? with|some e=>some (.p false [.rd e])|none=>none)else none
  |some (_,k'),.own id st=>(match s.own? id st with
   |some (.row _ _ k es _)=>if k'=k/\i.toNat<es.length then some (.p false [.elt id st k i.toNat 0])else none
   |some (.arr _ _ k es)=>if k'=k/\i.toNat<es.length then some (.p false [.elt id st k i.toNat 0])else none
   |some (.frz _ (.sl _ k es))=>if k'=k then(match es[i.toNat]? with|some e=>some (.p false [.rd e])|none=>none)else none
   |_=>none)
  |some (_,k'),.sub id st k lo n=>(match s.own? id st with
   |some (.row _ _ k2 _ _)=>if k'=k/\k2=k/\i.toNat<n then some (.p false [.elt id st k (lo+i.toNat) 0])else none
   |_=>none)
  |_,_=>none
 else none
def G7(P:Program)(s:AS)(t:TypeId):AV->Option AV
 |.p false [.ptr i st off]=>(match s.own? i st with|some (.var _ _ cs)=>JX P t (cs.drop off)|some (.cur _ _ _ x cs)=>JX P t (((x::cs).map .d).drop off)|some (.pvr _ _ cs)=>JX P t (cs.drop off)|_=>none)
 |.p false [.elt i st k j off]=>(match s.own? i st with
  |some (.row _ _ k' es _)=>if k'=k then(match es[j]? with|some e=>JX P t ((e.drop off).map .d)|none=>none)else none
  |some (.arr _ _ k' es)=>if k'=k then(match es[j]? with|some e=>JX P t (e.drop off)|none=>none)else none
  |_=>none)
 |.p false [.rd cs]=>JX P t (cs.map .d)
 |_=>none
def P0(P:Program)(s:AS)(t:TypeId)(f:Nat)(x:AV):Option AV:=
 match dd P t f with
 |some (fo,k,_)=>if 0<k then(match x with
  |.p false [.ptr i st off]=>if(s.own? i st).isSome then some (.p false [.ptr i st (off+fo)])else none
  |.p false [.elt i st k' j off]=>if(s.own? i st).isSome then some (.p false [.elt i st k' j (off+fo)])else none
  |.p false [.rd cs]=>some (.p false [.rd (cs.drop fo)])
  |.p false [.own i st]=>(match s.own? i st with|some (.cur _ _ _ _ _)=>some (.p false [.ptr i st fo])|_=>none)
  |_=>none)else none
 |none=>none
def O6(P:Program)(t:TypeId)(f:Nat)(x:AV):Option AV:=
 match dd P t f,x with
 |some (fo,k,true),.p true cs=>if fo+k<=cs.length then some (.p true ((cs.drop fo).take k))else none
 |some (fo,k,false),.p true cs=>(match cs[fo]? with|some c=>some (.p false [c])|none=>none)
 |_,_=>none
def F3(P:Program)(op:BinOp)(t:TypeId):AV->AV->Option AV
 |.p false [.d (.sc a)],.p false [.d (.sc b)]=>(match An P op t a b with|some v=>some (mo v)|none=>none)
 |_,_=>none
inductive Kd where
 |i
 |s
 |b
def U9(P:Program)(t:TypeId):Option Kd:=match P.underlying t with
 |some (.int _)=>some .i
 |some .string=>some .s
 |some .bool=>some .b
 |_=>none
def AU(P:Program):List Field->Nat->Option (List Kd)
 |[],_=>some []
 | f :: r, n => if f.name != "_" && (decide (f.offset = n) && P.plainKey f.type) then (match U9 P f.type, AU P r (n + 1) with | some k, some ks => some (k :: ks) | _, _ => none) else none
def Ez(P:Program)(t:TypeId):Option (List Kd):=match P.underlying t with
 |some (.struct fs)=>if !P.stoodInHeld t&& !P.eqGuardType P.depth t then AU P fs.toList 0 else none
 |_=>none
def Ue:Kd->Value->Value->Option Bool
 |.i,.int k a,.int k' b=>if k=k' then some (decide (a=b))else none
 |.s,.string a,.string b=>some (decide (a=b))
 |.b,.bool a,.bool b=>some (a==b)
 |_,_,_=>none
def Fs:List Kd->List AC->List AC->Option Bool
 |[],[],[]=>some true
 |k::ks,.d (.sc a)::xs,.d (.sc b)::ys=>(match Ue k a b,Fs ks xs ys with|some p,some q=>some (p&&q)|_,_=>none)
 |_,_,_=>none
def W9(P:Program)(op:BinOp)(t:TypeId):AV->AV->Option AV
 |.p true xs,.p true ys=>(match Ez P t with
  |some ks=>(match Fs ks xs ys with|some b=>(match op with|.eql=>some (mo (.bool b))|.neq=>some (mo (.bool (!b)))|_=>none)|none=>none)
  |none=>none)
 |_,_=>none
def Ic(P:Program)(op:BinOp)(t:TypeId)(x y:AV):Option AV:=match F3 P op t x y with|some v=>some v|none=>W9 P op t x y
def VU(op:UnOp):AV->Option AV
 |.p false [.d (.sc a)]=>(match Sx op a with|some v=>some (mo v)|none=>none)
 |_=>none
def Pa(P:Program)(a b:TypeId):AV->Option AV
 |.p false [.d (.sc x)]=>(match R9 P a b x with|some v=>some (mo v)|none=>none)
 |_=>none
def VO(P:Program)(t:TypeId):AV->AV->Option AV
 |.p false [.d (.sc (.string b))],.p false [.d (.sc (.int _ i))]=>(match P.underlying t with
  |some .string=>if 0<=i then(match b[i.toNat]? with|some u=>some (mo (.int .u8 u.toNat))|none=>none)else none
  |_=>none)
 |_,_=>none
def Mz(ix:Nat):AV->Option AV
 |.tup xs=>(match xs[ix]? with|some (b,cs)=>some (.p b cs)|none=>none)
 |_=>none
def Wy(x y:AV):AV->Option AV
 |.p false [.d (.sc (.bool b))]=>some (if b then x else y)
 |_=>none
def je:List (List DV)->Option (List Int)
 |[]=>some []
 |[.sc (.int .u8 n)]::r=>(match je r with|some xs=>some (n::xs)|none=>none)
 |_=>none
def PW(s:AS):AC->Option DV
 |.d y=>some y
 |.own i st=>if i<s.n then(match s.ob i with
  |.row st' t k es _=>if st'=st then some (.sl t k es)else none
  |.frz st' y=>if st'=st then some y else none
  |.dx st' y=>if st'=st then some y else none
  |_=>none)else none
 |_=>none
def E8(P:Program)(a b:TypeId):Bool:=match P.underlying a,P.underlying b with
 |some (.slice e),some .string=>(match P.underlying e with|some (.int .u8)=>true|_=>false)
 |_,_=>false
def cvB(P:Program)(s:AS)(a b:TypeId):AV->Option AV
 |.p false [c]=>if E8 P a b then(match PW s c with
  |some (.sl _ 1 es)=>(match je es with|some xs=>some (mo (.string (strOfNums xs)))|none=>none)
  |_=>none)else none
 |_=>none
def O4(P:Program)(s:AS)(a b:TypeId)(x:AV):Option AV:=match Pa P a b x with|some v=>some v|none=>cvB P s a b x
def U7(mx:Bool)(a b:Int):Int:=if mx then max a b else min a b
def Su(mx:Bool):AV->AV->Option AV
 |.p false [.d (.sc (.int k a))],.p false [.d (.sc (.int k' b))]=>if k=k' then some (mo (.int k (U7 mx a b)))else none
 |_,_=>none
def tu(P:Program)(s:AS):Callee->List Operand->List TypeId->Option AV
 |.builtin .len,[x],[t]=>(match s.ev x with|.p false [c]=>(match lz P s t c with|some n=>some (mo (.int .i64 n))|none=>none)|_=>none)
 |.builtin .max,[x,y],_=>Su true (s.ev x) (s.ev y)
 |.builtin .min,[x,y],_=>Su false (s.ev x) (s.ev y)
 |_,_,_=>none
def TF(s:AS)(x:AV):Option AV:=match x with
 |.p false [.own i st]=>(match s.own? i st with|some (.cur _ _ _ _ _)=>some x|_=>none)
 |.p false [.ptr i st _]=>if(s.own? i st).isSome then some x else none
 |.p false [.elt i st _ _ _]=>if(s.own? i st).isSome then some x else none
 |_=>none
def hV(P:Program)(s:AS):Op->Option AV
 |.move x=>some (s.ev x)
 |.assign x=>some (s.ev x)
 |.pick c x y=>Wy (s.ev x) (s.ev y) (s.ev c)
 |.load t x=>G7 P s t (s.ev x)
 |.fieldAddr t x f=>P0 P s t f (s.ev x)
 |.field t x f=>O6 P t f (s.ev x)
 |.indexAddr t x ix=>(match s.ev x,s.ev ix with|.p false [c],.p false [.d (.sc (.int _ i))]=>tJ P s t c i|_,_=>none)
 |.index t x ix=>VO P t (s.ev x) (s.ev ix)
 |.binOp op t x y _=>Ic P op t (s.ev x) (s.ev y)
 |.unOp op _ x=>VU op (s.ev x)
 |.convert a b x=>O4 P s a b (s.ev x)
 |.extract x ix=>Mz ix (s.ev x)
 |.slice t x lo hi none=>(match s.evI lo,s.evI hi with|some l,some h=>tV P s t (s.ev x) l h|_,_=>none)
 |.call c=>tu P s c.callee c.args.toList c.argTypes.toList
 |.nilCheck x=>TF s (s.ev x)
 |_=>none
end Go.Proofs.YtliknccmjjncbaaGreat
namespace Go.Proofs.YtliknccmjjncbaaGreat
open Go.RowKit
section
variable {P:Program}{w0:Cx}{w:World}{N:Nat}{s:AS}{a:Act}{E:En}
theorem am{i st:Nat}{x:Ob}(h:s.own? i st=some x):i<s.n/\s.ob i=x/\s.lv i=some st:=by
 grind[AS.own?,Ap]
theorem wv{L:Nat->Option Nat}{c:Nat}{t:TypeId}{cs:List AC}{vals:List Value}{b off:Nat}{x:AV}(h:JX P t cs=some x)(hc:aD w E L c cs vals)(ha:At w b off vals):
 ∃v,(Instr.loadAt t (.pointer (some ⟨b,off,none⟩))).run P w=.ok v w/\bi w E L c x v:=by
 unfold JX at h;split at h
 ·rename_i hg;split at h
  ·rename_i k hk;split at h
   ·rename_i hl;cases h;have hlen:(vals.take k).length=k:=by rw[List.length_take,<-hc.1];omega
    refine⟨.agg (vals.take k).toArray,BR P hg (by rw[hlen];exact hk) ?_,vals.take k,rfl,hc.take k⟩;have:=rS (i:=0) (k:=k) ha
    assumption
   grind
  grind
 ·rename_i hg;split at h
  ·rename_i c0 r;cases h;obtain⟨u,us,rfl,h1,h2⟩:=hc.cons';exact⟨u,Aj P hg (by have:=ha 0 u rfl;assumption),aN h1⟩
  grind
 grind
theorem pZ(h:aH w0 N s a w E){i st t k:Nat}{es:List (List DV)}{dp:Bool}(hi:i<s.n)(ho:s.ob i=.row st t k es dp){j:Nat}{e:List DV}(he:es[j]? =some e):
 ∃g n cp vals,E.v i=.slice (some ⟨g,0,none⟩) n cp/\aL w E.A vals e/\At w g (j*k) vals/\n=es.length:=by
 have h1:=h.obj i hi;rw[ho]at h1;obtain⟨cells,_,h2,h3,h4,h5,h6⟩:=h1;have hj:j<es.length:=(List.getElem?_eq_some_iff.1 he).1;obtain⟨g,cap,hv,_,_⟩:=h2.form (by omega)
 have hr:aL w E.A cells es.flatten:=by
  split at h6
  ·exact h6.rep.mono λb hb=>h.A_o i hi b hb
  grind
 refine⟨g,es.length,cap,(cells.drop (j*k)).take k,hv,?_,?_,rfl⟩
 ·have:=(hr.drop (j*k)).take k
  rwa [tO h4 he]at this
 ·have hat:At w g 0 cells:=by
   rw[hv]at h2;intro q u hu;have:=h2.cells (g:=g) rfl q u hu;rw[me]at this;rw[Nat.zero_add];omega
  have:=rS (i:=j*k) (k:=k) hat
  rwa [Nat.zero_add]at this
theorem AE(h:aH w0 N s a w E){i st t k:Nat}{es:List (List AC)}(hi:i<s.n)(ho:s.ob i=.arr st t k es){j:Nat}{e:List AC}(he:es[j]? =some e):
 ∃g n cp vals,E.v i=.slice (some ⟨g,0,none⟩) n cp/\aD w E s.lv s.c e vals/\At w g (j*k) vals/\n=es.length:=by
 have h1:=h.obj i hi;rw[ho]at h1;obtain⟨g,vals,_,hv,h2,h3,h4,h5,h6,h7,h8,h9⟩:=h1;refine⟨g,_,_,(vals.drop (j*k)).take k,hv,?_,?_,rfl⟩
 ·have:=(h9.drop (j*k)).take k
  rwa [tO h8 he]at this
 ·have hat:At w g 0 vals:=by simpa using sW h6 0
  have:=rS (i:=j*k) (k:=k) hat
  rwa [Nat.zero_add]at this
theorem Ep{b off k:Nat}{vals:List Value}(h:At w b off vals):At w b (off+k) (vals.drop k):=by
 intro j u hu;rw[List.getElem?_drop]at hu;rw[Nat.add_assoc];exact h _ u hu
theorem Ly(h:aH w0 N s a w E){t:TypeId}{y x:AV}{v:Value}(hx:G7 P s t y=some x)(hy:bi w E s.lv s.c y v):
 ∃u,(Instr.loadAt t v).run P w=.ok u w/\bi w E s.lv s.c x u:=by
 unfold G7 at hx;split at hx
 ·rename_i i st off;split at hx
  ·rename_i st' t' cs ho;obtain⟨hi,ho,hl⟩:=am ho;obtain⟨g,e1,rfl⟩:=(aE hy).2 hl;have h1:=h.obj i hi;rw[ho]at h1;obtain⟨g',vals,_,e2,_,_,_,hB,hcs⟩:=h1;rw[e1]at e2;cases e2;exact wv hx (hcs.drop off) (sW hB off)
  ·rename_i st' id t' x' cs ho;obtain⟨hi,ho,hl⟩:=am ho;obtain⟨g,e1,rfl⟩:=(aE hy).2 hl;have h1:=h.obj i hi;rw[ho]at h1;obtain⟨g',u',_,e2,_,_,_,vals,hB,hx1,hx2,_⟩:=h1;rw[e1]at e2;cases e2;exact wv hx ((aD.ofRep (aL.cons hx1 hx2)).drop off) (sW hB off)
  ·rename_i st' t' cs ho;obtain⟨hi,ho,hl⟩:=am ho;obtain⟨g,e1,rfl⟩:=(aE hy).2 hl;have h1:=h.obj i hi;rw[ho]at h1;obtain⟨g',vals,_,e2,_,_,hB,hcs,_⟩:=h1;rw[e1]at e2;cases e2;exact wv hx (hcs.drop off) (sW hB off)
  grind
 ·rename_i i st k j off;split at hx
  ·rename_i st' t' k' es dp ho;obtain⟨hi,ho,hl⟩:=am ho;split at hx
   ·rename_i hk;subst hk;split at hx
    ·rename_i e he;obtain⟨g,n,cp,e1,rfl⟩:=(aE hy).2 hl;obtain⟨g',n',cp',vals,e2,hr,hat,_⟩:=pZ h hi ho he;rw[e1]at e2;cases e2;have:=Ep (k:=off) hat;exact wv hx (aD.ofRep (hr.drop off)) this
    grind
   grind
  ·rename_i st' t' k' es ho;obtain⟨hi,ho,hl⟩:=am ho;split at hx
   ·rename_i hk;subst hk;split at hx
    ·rename_i e he;obtain⟨g,n,cp,e1,rfl⟩:=(aE hy).2 hl;obtain⟨g',n',cp',vals,e2,hr,hat,_⟩:=AE h hi ho he;rw[e1]at e2;cases e2;exact wv hx (hr.drop off) (Ep (k:=off) hat)
    grind
   grind
  grind
 ·rename_i cs;obtain⟨b,off,vals,rfl,_,hr,hat⟩:=aE hy;exact wv hx (aD.ofRep hr) hat
 grind
theorem Tr(h:aH w0 N s a w E){t:TypeId}{f:Nat}{y x:AV}{v:Value}(hx:P0 P s t f y=some x)(hy:bi w E s.lv s.c y v):
 ∃u,(Instr.fieldAt t v f).run P w=.ok u w/\bi w E s.lv s.c x u:=by
 unfold P0 at hx;split at hx
 ·rename_i fo k ag hf;split at hx
  ·rename_i hk;split at hx
   ·rename_i i st off;split at hx
    ·rename_i hs;cases hx;obtain⟨ob,ho⟩:=Option.isSome_iff_exists.1 hs;obtain⟨hi,ho,hl⟩:=am ho;have hc:=aE hy;obtain⟨g,e1,rfl⟩:=hc.2 hl;exact⟨_,oG P hf hk,aN ⟨hc.1,λ_=>⟨g,e1,rfl⟩⟩⟩
    grind
   ·rename_i i st k' j off;split at hx
    ·rename_i hs;cases hx;obtain⟨ob,ho⟩:=Option.isSome_iff_exists.1 hs;obtain⟨hi,ho,hl⟩:=am ho;have hc:=aE hy;obtain⟨g,n,cp,e1,rfl⟩:=hc.2 hl;exact⟨_,oG P hf hk,aN ⟨hc.1,λ_=>⟨g,n,cp,e1,by rw[Nat.add_assoc]⟩⟩⟩
    grind
   ·rename_i cs;cases hx;obtain⟨b,off,vals,rfl,hA,hr,hat⟩:=aE hy;exact⟨_,oG P hf hk,aN ⟨b,off+fo,vals.drop fo,rfl,hA,hr.drop fo,Ep hat⟩⟩
   ·rename_i i st;split at hx
    ·rename_i ob id t' x' cs' ho;cases hx;obtain⟨hi,ho,hl⟩:=am ho;have hc:=aE hy;have h1:=h.obj i hi;rw[ho]at h1;obtain⟨g,u',_,e2,_⟩:=h1;have e1:=hc.2 hl;rw[e2]at e1;subst e1;exact⟨_,oG P hf hk,aN ⟨hc.1,λ_=>⟨g,e2,by rw[Nat.zero_add]⟩⟩⟩
    grind
   grind
  grind
 grind
theorem Jx{L:Nat->Option Nat}{c:Nat}{t:TypeId}{f:Nat}{y x:AV}{v:Value}(hx:O6 P t f y=some x)(hy:bi w E L c y v):
 ∃u,(∀w',(Instr.field t v f).run P w'=.ok u w')/\bi w E L c x u:=by
 unfold O6 at hx;split at hx
 ·rename_i fo k cs hf;split at hx
  ·rename_i hl;cases hx;obtain⟨vals,rfl,hc⟩:=oR hy;exact⟨_,λ_=>(OH P hf).1 rfl,_,rfl,(hc.drop fo).take k⟩
  grind
 ·rename_i fo k cs hf;split at hx
  ·rename_i c' hc';cases hx;obtain⟨vals,rfl,hc⟩:=oR hy;have hlt:fo<vals.length:=by rw[<-hc.1];grind
   exact⟨vals[fo],λ_=>(OH P hf).2 rfl _ (List.getElem?_eq_getElem hlt),aN (hc.2 fo _ _ hc' (List.getElem?_eq_getElem hlt))⟩
  grind
 grind
theorem Th{L:Nat->Option Nat}{c:Nat}{t:TypeId}{f:Nat}{y x:AV}{v:Value}(hx:O6 P t f y=some x)(hy:bi w E L c y v):
 ∃u,(Instr.field t v f).run P w=.ok u w/\bi w E L c x u:=
 let⟨u,h,k⟩:=Jx hx hy;⟨u,h w,k⟩
theorem Rv(h:aH w0 N s a w E){t:TypeId}{c:AC}{i:Int}{ki:IntKind}{x:AV}{v:Value}(hx:tJ P s t c i=some x)(hy:dw w E s.lv s.c c v):
 ∃u,(Instr.indexAt t v (.int ki i)).run P w=.ok u w/\bi w E s.lv s.c x u:=by
 unfold tJ at hx;split at hx
 ·rename_i hi0;obtain⟨j,rfl⟩:=Int.eq_ofNat_of_zero_le hi0;simp[Int.toNat_natCast]at hx;split at hx
  ·rename_i el k' t' k es ht;split at hx
   ·rename_i hk;subst hk;split at hx
    ·rename_i e he;cases hx;obtain⟨b,off,cp,vals,rfl,hj,hA,h0,h1,hr,hat⟩:=aL.elem hy he;exact⟨_,lw P ht hj,aN ⟨b,_,vals,rfl,hA,hr,hat⟩⟩
    grind
   grind
  ·rename_i el k' id st ht;split at hx
   ·rename_i st' t' k es dp ho;obtain⟨hi,ho,hl⟩:=am ho;split at hx
    ·rename_i hk;obtain⟨rfl,hj⟩:=hk;cases hx;obtain⟨g,n,cp,vals,e1,_,_,e2⟩:=pZ h hi ho (List.getElem?_eq_getElem hj);subst e2;have:=hy.2 hl;subst this;rw[e1];exact⟨_,lw P ht hj,aN ⟨hy.1,λ_=>⟨g,_,_,e1,by simp⟩⟩⟩
    grind
   ·rename_i st' t' k es ho;obtain⟨hi,ho,hl⟩:=am ho;split at hx
    ·rename_i hk;obtain⟨rfl,hj⟩:=hk;cases hx;obtain⟨g,n,cp,vals,e1,_,_,e2⟩:=AE h hi ho (List.getElem?_eq_getElem hj);subst e2;have:=hy.2 hl;subst this;rw[e1];exact⟨_,lw P ht hj,aN ⟨hy.1,λ_=>⟨g,_,_,e1,by simp⟩⟩⟩
    grind
   ·rename_i st' t' k es ho;obtain⟨hi,ho,hl⟩:=am ho;split at hx
    ·rename_i hk;subst hk;split at hx
     ·rename_i e he;cases hx;have:=hy.2 hl;subst this;obtain⟨b,off,cp,vals,e1,hj,hA,h0,h1,hr,hat⟩:=aL.elem (xB h hi ho) he;rw[e1];exact⟨_,lw P ht hj,aN ⟨b,_,vals,rfl,hA,hr,hat⟩⟩
     grind
    grind
   grind
  ·rename_i el k' id st k lo n ht;split at hx
   ·rename_i st' t' k2 es dp ho;obtain⟨hi,ho,hl⟩:=am ho;split at hx
    ·rename_i hk;obtain⟨rfl,rfl,hj⟩:=hk;cases hx;obtain⟨A,M,cp,B,e1,e2,rfl,e4,e5⟩:=hy.2 hl;have h1:=h.obj id hi;rw[ho]at h1;obtain⟨cells,_,h2,h3,_⟩:=h1;obtain⟨A',c',e6,e7,e8⟩:=ba h2
     have hpos:0<es.length:=by
      rw[e1]at e6;grind
     obtain⟨g,n',cp',vals,e9,_⟩:=pZ h hi ho (List.getElem?_eq_getElem hpos);rw[e1]at e9;injection e9 with g1 g2 g3;subst g1;have hn:0<n:=by omega
     rw[e5 hn,Option.map_some,mi];refine⟨_,lw P ht hj,aN ⟨hy.1,λ_=>⟨g,_,_,e1,?_⟩⟩⟩;rw[Nat.add_mul,Nat.zero_add,Nat.add_zero]
    grind
   grind
  grind
 grind
theorem ka{t el:TypeId}{k:Nat}(h:dN P t=some (el,k)):P.underlying t=some (.slice el)/\cG P el=some k:=by
 unfold dN at h;split at h
 ·rename_i e hu
  cases hz:cG P e with
  |none=>grind
  |some k'=>grind
 grind
theorem Gt(h:aH w0 N s a w E){t ty:TypeId}{c:AC}{n:Nat}{v:Value}(hx:lz P s t c=some n)(hy:dw w E s.lv s.c c v):
 ∀w':World,(Builtin.len_ #[t] ty #[v]).run P w'=.ok (.int .i64 n) w':=by
 intro w'
 have key:∀(A:Option Addr) (m cp:Nat),(dN P t).isSome=true->(Builtin.len_ #[t] ty #[.slice A m cp]).run P w'=.ok (.int .i64 m) w':=by
  intro A m cp hs;obtain⟨⟨el,k⟩,ht⟩:=Option.isSome_iff_exists.1 hs;simp[Builtin.len_,run_underlying (ka ht).1,goInt]
 unfold lz at hx;split at hx
 ·rename_i b;split at hx
  ·rename_i hu;cases hx;have:=(aL.scOf hy).1;subst this;simp[Builtin.len_,run_underlying hu,goInt]
  grind
 ·split at hx
  ·rename_i hs;cases hx;obtain⟨A,cp,rfl,_,_⟩:=aL.slShape hy
   grind
  grind
 ·split at hx
  ·rename_i hs;cases hx;obtain rfl:v=.slice none 0 0:=hy
   grind
  grind
 ·split at hx
  ·rename_i hs;cases hx;obtain⟨A,rfl⟩:=hy
   grind
  grind
 ·split at hx
  ·rename_i hs;cases hx;obtain⟨x,ho⟩:=Option.isSome_iff_exists.1 hs.2;obtain⟨A,M,cp,B,_,_,rfl,_⟩:=hy.2 (am ho).2.2
   grind
  grind
 ·split at hx
  ·rename_i hs;split at hx
   ·rename_i ho;obtain⟨hi,ho,hl⟩:=am ho;cases hx;have:=hy.2 hl;subst this;obtain⟨A,cp,e1,_,_⟩:=aL.slShape (DS h hi ho);rw[e1];grind
   ·rename_i ho;obtain⟨hi,ho,hl⟩:=am ho;cases hx;have:=hy.2 hl;subst this;have h1:=h.obj _ hi;rw[ho]at h1;obtain⟨g,vals,_,e1,_⟩:=h1;rw[e1];grind
   ·rename_i ho;obtain⟨hi,ho,hl⟩:=am ho;cases hx;have:=hy.2 hl;subst this;obtain⟨A,cp,e1,_,_⟩:=aL.slShape (xB h hi ho);rw[e1];grind
   ·rename_i ho;obtain⟨hi,ho,hl⟩:=am ho;cases hx;have:=hy.2 hl;subst this;obtain⟨A,cp,e1,_,_⟩:=aL.slShape (RL h hi ho);rw[e1];grind
   ·rename_i ho;obtain⟨hi,ho,hl⟩:=am ho;cases hx;have:=hy.2 hl;subst this;have h1:=h.obj _ hi;rw[ho]at h1;obtain⟨cells,g,_,h2,_⟩:=h1
    grind[ba]
   grind
  grind
 grind
theorem PS(h:aH w0 N s a w E){t ty:TypeId}{c:AC}{n:Nat}{v:Value}(hx:lz P s t c=some n)(hy:dw w E s.lv s.c c v):
 (Builtin.len_ #[t] ty #[v]).run P w=.ok (.int .i64 n) w:=Gt h hx hy w
theorem TY{L:Nat->Option Nat}{c:Nat}{t:TypeId}{y z x:AV}{u v:Value}(hx:VO P t y z=some x)(hy:bi w E L c y u)(hz:bi w E L c z v):
 ∃r,(Instr.index t u v).run P w=.ok r w/\bi w E L c x r:=by
 unfold VO at hx;split at hx
 ·rename_i b k i;split at hx
  ·rename_i hu;split at hx
   ·rename_i hi;split at hx
    ·rename_i ch hb;cases hx;have e1:=bA hy;have e2:=bA hz;subst e1 e2;refine⟨_,?_,bX (by trivial)⟩;simp[Instr.index,run_underlying hu,asIntOf,hi,hb]
    grind
   grind
  grind
 grind
theorem SG{L:Nat->Option Nat}{c ix:Nat}{y x:AV}{v:Value}(hx:Mz ix y=some x)(hy:bi w E L c y v):
 ∃u,(Instr.extract v ix).run P w=.ok u w/\bi w E L c x u:=by
 unfold Mz at hx;split at hx
 ·rename_i xs;split at hx
  ·rename_i b cs hb;cases hx;obtain⟨vs,rfl,hl,hr⟩:=hy;have hlt:ix<vs.length:=by rw[<-hl];grind
   refine⟨vs[ix],?_,hr ix b cs _ hb (List.getElem?_eq_getElem hlt)⟩;simp[Instr.extract,hlt]
  grind
 grind
theorem OZ(h:aH w0 N s a w E){x:Option Operand}{r:Option Int}(hx:s.evI x=some r):(x=none/\r=none)\/∃y k i,x=some y/\r=some i/\a.eval y=.int k i:=by
 cases x with
 |none=>grind[AS.evI]
 |some y=>
  right;simp[AS.evI]at hx;split at hx
  ·rename_i k i he;cases hx;have:=aP h y;rw[he]at this
   grind[bA]
  grind
theorem zP(h:aH w0 N s a w E){M0:Bool}{lo hi:Option Operand}{l' h':Option Int}{len cap l r:Nat}(h1:s.evI lo=some l')(h2:s.evI hi=some h')(hc:ne l' h' len=some (l,r))(hcap:len<=cap):
 (∀w',(Instr.sliceBounds M0 len cap (lo.map a.eval) (hi.map a.eval) none).run P w'=.ok (l,r,cap) w')/\l<=r/\r<=len:=by
 unfold ne at hc;split at hc
 ·rename_i hb;injection hc with hc;injection hc with e1 e2;rcases OZ h h1 with⟨rfl,rfl⟩|⟨y,k,i,rfl,rfl,ey⟩<;>rcases OZ h h2 with⟨rfl,rfl⟩|⟨y2,k2,i2,rfl,rfl,ey2⟩
  ·simp at hb e1 e2;subst e1 e2;exact⟨λw'=>by rfl,Nat.zero_le _,by simp⟩
  ·simp at hb e1 e2;subst e1 e2;refine⟨?_,Nat.zero_le _,by omega⟩;intro w';simp[Instr.sliceBounds,ey2,run_sliceBound w' k2 i2 cap _ (by omega) (by omega)]
  ·simp at hb e1 e2;subst e1 e2;refine⟨?_,by omega,by simp⟩;intro w';simp[Instr.sliceBounds,ey,run_sliceBound w' k i len _ (by omega) (by omega)]
  ·simp at hb e1 e2;subst e1 e2;refine⟨?_,by omega,by omega⟩;intro w';simp[Instr.sliceBounds,ey,ey2,run_sliceBound w' k2 i2 cap _ (by omega) (by omega),run_sliceBound w' k i i2.toNat _ (by omega) (by omega)]
 grind
theorem JS(h:aH w0 N s a w E){t:TypeId}{y x:AV}{v:Value}{lo hi:Option Operand}{l' h':Option Int}(h1:s.evI lo=some l')(h2:s.evI hi=some h')(hx:tV P s t y l' h'=some x)(hy:bi w E s.lv s.c y v):
 ∃u,(∀w',(Instr.sliceAt t v (lo.map a.eval) (hi.map a.eval) none).run P w'=.ok u w')/\bi w E s.lv s.c x u:=by
 unfold tV at hx;split at hx
 ·rename_i b;split at hx
  ·rename_i l r hu hc;cases hx;have e1:=bA hy;subst e1;obtain⟨hr,_,_⟩:=zP (P:=P) (M0:=false) h h1 h2 hc (Nat.le_refl _);refine⟨_,λw'=>?_,bX trivial⟩;simp[Instr.sliceAt,Instr.slice,run_underlying hu,hr]
  grind
 ·rename_i ty k es;split at hx
  ·rename_i el k' l r ht hc;split at hx
   ·rename_i hk;subst hk;cases hx;have hy':=aE hy;obtain⟨A,cp,rfl,hcp,hmx⟩:=aL.slShape hy';obtain⟨hr,hlr,hrl⟩:=zP (P:=P) (M0:=true) h h1 h2 hc hcp;obtain⟨hu,hz⟩:=ka ht;refine⟨_,λw'=>by simp[Instr.sliceAt,Instr.slice,run_underlying hu,hr,oU P hz];rfl,aN ?_⟩;show aL w E.A _ _;rcases Nat.eq_zero_or_pos (r-l)with h0|h0
    ·rw[h0];rw[List.take_zero];exact .sl0 (by omega) .nil
    ·have hne:¬cp=l:=by omega
     rw[if_neg hne];have hy2:=hy';generalize hn:es.length=n at hy2 hcp hrl hc hr
     cases hy2 with
     |sl0=>omega
     |@sl b off n c t k es cells vs ds g1 g2 g3 g4 g5 g6 g7 g8 g9 g10=>
      have hadd:(⟨b,off,none⟩:Addr).add (l*k')=⟨b,off+l*k',none⟩:=by unfold Addr.add;split<;>simp_all
      simp[Option.map_some,hadd];have hl':((es.drop l).take (r-l)).length=r-l:=by rw[List.length_take,List.length_drop];omega
      refine .sl g1 hl'.symm h0 (by omega) (by omega) g6 (λe he=>g7 e (List.mem_of_mem_drop (List.mem_of_mem_take he))) (cells:=(cells.drop (l*k')).take ((r-l)*k')) ?_ (rS g9) .nil;rw[eO g7];exact(g8.drop _).take _
   grind
  grind
 ·rename_i i st;split at hx
  ·rename_i el k' st' ty k es dp ht ho;split at hx
   ·rename_i l r hc;split at hx
    ·rename_i hk;subst hk;cases hx;obtain⟨hi,hob,hl⟩:=am ho;have hy':=aE hy;have hv:=hy'.2 hl;obtain⟨A,cp,e1,hcp,hmx⟩:=aL.slShape (DS h hi hob);rw[hv,e1];obtain⟨hr,hlr,hrl⟩:=zP (P:=P) (M0:=true) h h1 h2 hc hcp;obtain⟨hu,hz⟩:=ka ht;refine⟨_,λw'=>by simp[Instr.sliceAt,Instr.slice,run_underlying hu,hr,oU P hz];rfl,aN ⟨hy'.1,λ_=>⟨A,es.length,cp,_,e1,by omega,rfl,λh0=>?_,λh0=>?_⟩⟩⟩
     ·subst h0;split
      ·rfl
      ·cases A with
       |none=>rfl
       |some ad=>
        have h3:=h.obj i hi;rw[hob]at h3;obtain⟨cells,_,h4,_⟩:=h3;rcases h4.2 with⟨e2,_⟩|⟨g,cap,cur,e2,_⟩
        ·rw[e1]at e2;cases e2
        grind[mi]
     grind
    grind
   grind
  grind
 ·rename_i i st k lo0 n;split at hx
  ·rename_i el k' st' ty k2 es dp ht ho;split at hx
   ·rename_i l r hc;split at hx
    ·rename_i hk;obtain⟨rfl,rfl⟩:=hk;cases hx;obtain⟨hi,hob,hl⟩:=am ho;have hy':=aE hy;obtain⟨A,M,cp,B,e1,e2,rfl,e4,e5⟩:=hy'.2 hl;have h3:=h.obj i hi;rw[hob]at h3;obtain⟨cells,_,h4,_⟩:=h3;obtain⟨A',c',e6,e7,e8⟩:=ba h4;rw[e1]at e6;injection e6 with g1 g2 g3;subst g2 g3;obtain⟨hr,hlr,hrl⟩:=zP (P:=P) (M0:=true) h h1 h2 hc (show n<=cp-lo0 by omega);obtain⟨hu,hz⟩:=ka ht
     have hAsh:∀ad,A=some ad->∃g,ad=⟨g,0,none⟩:=by
      intro ad hA;rcases h4.2 with⟨e2,_⟩|⟨g,cap,cur,e2,_⟩
      ·rw[e1,hA]at e2;cases e2
      grind
     refine⟨_,λw'=>by simp[Instr.sliceAt,Instr.slice,run_underlying hu,hr,oU P hz];rfl,aN ⟨hy'.1,λ_=>⟨A,es.length,cp,_,e1,by omega,by rw[Nat.sub_sub],λh0=>?_,λh0=>?_⟩⟩⟩
     ·obtain⟨rfl,rfl⟩:lo0=0/\l=0:=by omega
      rw[e4 rfl];split
      ·rfl
      ·cases A with
       |none=>rfl
       |some ad=>
        grind[mi]
     ·rw[if_neg (by omega),e5 (by omega)]
      cases A with
      |none=>rfl
      |some ad=>
       obtain⟨g,rfl⟩:=hAsh ad rfl
       grind[mi,Nat.add_mul]
    grind
   grind
  grind
 grind
theorem UU{c:AC}{x:DV}(h:PW s c=some x):CP s c x:=by
 unfold PW at h;split at h
 ·injection h with h;exact h.symm
 ·split at h
  ·rename_i hi;refine⟨hi,?_⟩
   grind
  grind
 grind
theorem Af{A:Nat->Prop}:∀{es:List (List DV)} {xs:List Int} {cells:List Value},je es=some xs->aL w A cells es.flatten->cells=xs.map (Value.int .u8)
 |[],xs,cells,h,hr=>by
  simp[je]at h;cases h;have:=hr.len
  grind
 |e::es,xs,cells,h,hr=>by
  unfold je at h;split at h
  ·grind
  ·rename_i n r heq;injection heq with e1 e2;subst e1 e2;split at h
   ·rename_i ys hy;cases h
    cases cells with
    |nil=>have:=hr.len;grind
    |cons c cs=>
     have h1:=(aL.scOf hr.head).1;have h2:=Af hy hr.tail
     grind
   grind
  grind
theorem Ks(w:World){src dst e:TypeId}(hs:P.underlying src=some (.slice e))(he:P.underlying e=some (.int .u8))(hd:P.underlying dst=some .string)(p:Option Addr)(c:Nat):(convert src dst (.slice p 0 c)).run P w=.ok (.string (strOfNums [])) w:=by
 rw[run_convert_bytes_string w src dst e _ 0 c hs he hd];cases p<;>simp[Conv.bytesToString,loadCells]
 all_goals rfl
theorem Vk(h:aH w0 N s a w E){ta tb:TypeId}{x z:AV}{u:Value}(hx:cvB P s ta tb x=some z)(hu:bi w E s.lv s.c x u):∃r,Sc r/\z=mo r/\(convert ta tb u).run P w=.ok r w:=by
 unfold cvB at hx;split at hx
 ·rename_i c;split at hx
  ·rename_i hT;split at hx
   ·rename_i t es hrd;split at hx
    ·rename_i xs hn;cases hx;refine⟨.string (strOfNums xs),trivial,rfl,?_⟩;unfold E8 at hT;split at hT
     ·rename_i e ha hb;split at hT
      ·rename_i he;have hr:=BD h (aE hu) (UU hrd)
       cases hr with
       |sl0 hc _=>
        grind[je,Ks]
       |sl h1 h2 h3 h4 h5 h6 h7 h8 h9 _=>
        subst h2;have hcl:=Af hn h8
        have hl:xs.length=es.length:=by
         have:=h8.len;rw[hcl,cO h7]at this
         grind
        refine run_convert_bytes_arg w ta e ha he _ _ es.length _ xs hl (λi hi=>?_) tb hb;refine h9 i _ ?_;rw[hcl,List.getElem?_map,List.getD_eq_getElem?_getD,List.getElem?_eq_getElem (by omega)];rfl
      grind
     grind
    grind
   grind
  grind
 grind
theorem Qy{k:Kd}{t:TypeId}{a b:Value}{r:Bool}(hk:U9 P t=some k)(h:Ue k a b=some r)(d:Nat)(w:World):(Op.equalIn (d+1) t a b).run P w=.ok r w:=by
 unfold U9 at hk;split at hk
 ·rename_i hu;cases hk;unfold Ue at h;split at h
  ·split at h
   ·rename_i e;injection h with h;subst e h;rw[run_equalIn_int w d t _ _ _ _ hu];rfl
   grind
  ·grind
  ·grind
  grind
 ·rename_i hu;cases hk;unfold Ue at h;split at h
  ·grind
  ·cases h;rw[run_equalIn_string w d t _ _ hu,Am]
  ·grind
  grind
 ·rename_i hu;cases hk;unfold Ue at h;split at h
  ·grind
  ·grind
  ·cases h;rw[run_equalIn_bool' w d t _ _ hu]
  grind
 grind
theorem ET{L:Nat->Option Nat}{c:Nat}(d:Nat)(w':World):∀{fs:List Field} {n:Nat} {ks:List Kd} {xs ys:List AC} {r:Bool} {us vs us0 vs0:List Value},AU P fs n=some ks->Fs ks xs ys=some r->aD w E L c xs us->aD w E L c ys vs->
 us0.drop n=us->vs0.drop n=vs->(Op.eqFields (d+1) us0.toArray vs0.toArray fs).run P w'=.ok r w':=by
 intro fs
 induction fs with
 |nil=>
  intro n ks xs ys r us vs us0 vs0 hk hr hx hy e1 e2;simp[AU]at hk;cases hk;unfold Fs at hr;split at hr
  ·cases hr;rfl
  ·grind
  grind
 |cons f fs ih=>
  intro n ks xs ys r us vs us0 vs0 hk hr hx hy e1 e2;simp only[AU]at hk;split at hk
  ·rename_i hc;simp[Bool.and_eq_true,bne_iff_ne,ne_eq,decide_eq_true_eq]at hc;obtain⟨hn,ho,hp⟩:=hc;split at hk
   ·rename_i k ks' h1 h2;cases hk;unfold Fs at hr;split at hr
    ·grind
    ·rename_i k' ks2 a xs' b ys' heq;injection heq with e3 e4;subst e3 e4;split at hr
     ·rename_i p q g1 g2;cases hr;obtain⟨u,us',rfl,c1,c2⟩:=hx.cons';obtain⟨v,vs',rfl,c3,c4⟩:=hy.cons';obtain⟨rfl,-⟩:=aL.scOf c1;obtain⟨rfl,-⟩:=aL.scOf c3
      have hu:us0.toArray[f.offset]? =some u:=by
       have:us0[n]? =some u:=by rw[<-List.head?_drop,e1];rfl
       rw[ho];grind
      have hv:vs0.toArray[f.offset]? =some v:=by
       have:vs0[n]? =some v:=by rw[<-List.head?_drop,e2];rfl
       rw[ho];grind
      have ih':=ih (n:=n+1) (us:=us') (vs:=vs') (us0:=us0) (vs0:=vs0) h2 g2 c2 c4 (by rw[<-List.drop_drop,e1];rfl) (by rw[<-List.drop_drop,e2];rfl);simp[Op.eqFields,ne_eq,hn,not_false_eq_true,if_true,Sem.run_bind,run_part_plain w' hp hu,run_part_plain w' hp hv,Result.andThen_ok,Qy h1 g1 d w',Sem.run_ite];cases p
      ·simp
      ·simp[ih']
     grind
    grind
   grind
  grind
theorem NA{L:Nat->Option Nat}{c:Nat}{op:BinOp}{t:TypeId}{x y z:AV}{u v:Value}(h:W9 P op t x y=some z)(hx:bi w E L c x u)(hy:bi w E L c y v)(X Y:Operand):
 ∃r,Sc r/\z=mo r/\∀w',(do eqGuard op t X Y u v;binOp op t u v:Sem Value).run P w'=.ok r w':=by
 unfold W9 at h;split at h
 ·rename_i xs ys;split at h
  ·rename_i ks hks;split at h
   ·rename_i b hb;unfold Ez at hks;split at hks
    ·rename_i fs hu;split at hks
     ·rename_i hc;simp[Bool.and_eq_true,Bool.not_eq_true']at hc;obtain⟨us,rfl,hcx⟩:=oR hx;obtain⟨vs,rfl,hcy⟩:=oR hy;have hfs:P.fieldsOf t=fs:=by simp[Program.fieldsOf,hu]
      have key:∀w',(Op.equalIn 10000 t (.agg us.toArray) (.agg vs.toArray)).run P w'=.ok b w':=λw'=>by
       rw[show 10000=9999+1 from rfl,run_equalIn_struct w' 9999 t _ _ (by rw[hfs];exact hu) hc.1,hfs]
       grind[ET]
      split at h
      ·cases h;refine⟨.bool b,trivial,rfl,λw'=>?_⟩;rw[Sem.run_bind,run_eqGuard_agg w' .eql t X Y _ _ hc.2,Result.andThen_ok,run_eql_struct,key];rfl
      ·cases h;refine⟨.bool (!b),trivial,rfl,λw'=>?_⟩;rw[Sem.run_bind,run_eqGuard_agg w' .neq t X Y _ _ hc.2,Result.andThen_ok,run_neq_struct,key];rfl
      grind
     grind
    grind
   grind
  grind
 grind
theorem Lf{o:Oper}{x:AV}(hx:hV P s o.op=some x):∀w0 N a w E,aH w0 N s a w E->∃v,(execOp a.eval o).run P w=.ok (.value v) w/\bi w E s.lv s.c x v:=by
 intro w0 N a w E h;unfold hV at hx;split at hx
 ·rename_i y ho;cases hx;exact⟨_,by simp[execOp,ho],aP h y⟩
 ·rename_i y ho;cases hx;exact⟨_,by simp[execOp,ho],aP h y⟩
 ·rename_i c y z ho;unfold Wy at hx;split at hx
  ·rename_i b hb;cases hx;have e1:=aP h c;rw[hb]at e1;have e1:=bA e1;refine⟨if b then a.eval y else a.eval z,by simp[execOp,ho,e1,asBool],?_⟩
   grind[aP]
  grind
 ·rename_i t y ho;obtain⟨u,h1,h2⟩:=Ly h hx (aP h y);exact⟨u,by simp[execOp,ho,h1],h2⟩
 ·rename_i t y f ho;obtain⟨u,h1,h2⟩:=Tr h hx (aP h y);exact⟨u,by simp[execOp,ho,h1],h2⟩
 ·rename_i t y f ho;obtain⟨u,h1,h2⟩:=Th hx (aP h y);exact⟨u,by simp[execOp,ho,h1],h2⟩
 ·rename_i t y ix ho;split at hx
  ·rename_i c k i h3 h4;have e1:=aP h y;have e2:=aP h ix;rw[h3]at e1;rw[h4]at e2;have:=bA e2;obtain⟨u,h5,h6⟩:=Rv (ki:=k) h hx (aE e1);exact⟨u,by simp[execOp,ho,this,h5],h6⟩
  grind
 ·rename_i t y ix ho;obtain⟨u,h1,h2⟩:=TY (P:=P) hx (aP h y) (aP h ix);exact⟨u,by simp[execOp,ho,h1],h2⟩
 ·rename_i op t y z ty ho;unfold Ic at hx;split at hx
  ·rename_i v0 hx0;cases hx;unfold F3 at hx0;split at hx0
   ·rename_i p q h3 h4;split at hx0
    ·rename_i v hb;cases hx0;have e1:=aP h y;have e2:=aP h z;rw[h3]at e1;rw[h4]at e2;have e1:=bA e1;have e2:=bA e2;obtain⟨h5,h6⟩:=Jm hb y z w;refine⟨v,?_,bX h6⟩;simp only[execOp,ho,e1,e2];rw[Sem.run_bind,h5];rfl
    grind
   grind
  ·obtain⟨r,r1,rfl,r3⟩:=NA hx (aP h y) (aP h z) y z;refine⟨r,?_,bX r1⟩;simp only[execOp,ho];rw[Sem.run_bind,r3 w];rfl
 ·rename_i op t y ho;unfold VU at hx;split at hx
  ·rename_i p h3;split at hx
   ·rename_i v hb;cases hx;have e1:=aP h y;rw[h3]at e1;have e1:=bA e1;obtain⟨h5,h6⟩:=Lr (P:=P) hb w;exact⟨v,by simp[execOp,ho,e1,h5],bX h6⟩
   grind
  grind
 ·rename_i t1 t2 y ho;unfold O4 at hx;split at hx
  ·rename_i v0 hx0;cases hx;unfold Pa at hx0;split at hx0
   ·rename_i p h3;split at hx0
    ·rename_i v hb;cases hx0;have e1:=aP h y;rw[h3]at e1;have e1:=bA e1;obtain⟨h5,h6⟩:=Tg (P:=P) hb w;exact⟨v,by simp[execOp,ho,e1,h5],bX h6⟩
    grind
   grind
  ·obtain⟨r,r1,rfl,r3⟩:=Vk h hx (aP h y);exact⟨r,by simp[execOp,ho,r3],bX r1⟩
 ·rename_i y ix ho;obtain⟨u,h1,h2⟩:=SG (P:=P) hx (aP h y);exact⟨u,by simp[execOp,ho,h1],h2⟩
 ·rename_i t y lo hi ho;split at hx
  ·rename_i l r h3 h4;obtain⟨u,h1,h2⟩:=JS h h3 h4 hx (aP h y);exact⟨u,by simp[execOp,ho,h1],h2⟩
  grind
 ·rename_i cl ho;obtain⟨callee,args,argTypes⟩:=cl;unfold tu at hx;split at hx
  ·rename_i y t h1 h2 h3;simp only at h1 h2 h3;obtain rfl:args=#[y]:=by grind
   obtain rfl:argTypes=#[t]:=by grind
   subst h1;split at hx
   ·rename_i c h3;split at hx
    ·rename_i n h4;cases hx;have e1:=aP h y;rw[h3]at e1;have:=PS (ty:=o.type) h h4 (aE e1);exact⟨_,by simp[execOp,ho,resolve,invoke,builtin,this],bX trivial⟩
    grind
   grind
  ·rename_i y z h1 h2;simp only at h1 h2;obtain rfl:args=#[y,z]:=by grind
   subst h1;unfold Su at hx;split at hx
   ·rename_i k b k' c g1 g2;split at hx
    ·rename_i e;cases hx;have e1:=aP h y;have e2:=aP h z;rw[g1]at e1;rw[g2]at e2;have e1:=bA e1;have e2:=bA e2;refine⟨_,?_,bX trivial⟩;simp[execOp,ho,resolve,invoke,builtin];simp[e1,e2,run_max_int2,U7];split<;>omega
    grind
   grind
  ·rename_i y z h1 h2;simp only at h1 h2;obtain rfl:args=#[y,z]:=by grind
   subst h1;unfold Su at hx;split at hx
   ·rename_i k b k' c g1 g2;split at hx
    ·rename_i e;cases hx;have e1:=aP h y;have e2:=aP h z;rw[g1]at e1;rw[g2]at e2;have e1:=bA e1;have e2:=bA e2;refine⟨_,?_,bX trivial⟩;simp[execOp,ho,resolve,invoke,builtin];simp[e1,e2,run_min_int2,U7];split<;>omega
    grind
   grind
  grind
 ·rename_i y ho;unfold TF at hx;split at hx
  ·rename_i i st hy;split at hx
   ·rename_i ob id t' x' cs' hob;cases hx;obtain⟨hi,hob,hl⟩:=am hob;have hc:=aP h y;have hc':=hc;rw[hy]at hc';have h1:=h.obj i hi;rw[hob]at h1;obtain⟨g,u',_,e2,_⟩:=h1;have e1:=(aE hc').2 hl;rw[e2]at e1;refine⟨a.eval y,?_,hc⟩;simp[execOp,ho,e1]
   grind
  ·rename_i i st off hy;split at hx
   ·rename_i hs;cases hx;obtain⟨ob,hob⟩:=Option.isSome_iff_exists.1 hs;have hc:=aP h y;have hc':=hc;rw[hy]at hc';obtain⟨g,_,e1⟩:=(aE hc').2 (am hob).2.2;refine⟨a.eval y,?_,hc⟩;simp[execOp,ho,e1]
   grind
  ·rename_i i st k j off hy;split at hx
   ·rename_i hs;cases hx;obtain⟨ob,hob⟩:=Option.isSome_iff_exists.1 hs;have hc:=aP h y;have hc':=hc;rw[hy]at hc';obtain⟨g,n,cp,_,e1⟩:=(aE hc').2 (am hob).2.2;refine⟨a.eval y,?_,hc⟩;simp[execOp,ho,e1]
   grind
  grind
 grind
theorem Fp{o:Oper}{x:AV}(hx:hV P s o.op=some x):dH P o s x []:=dH.of_run λw0 N a w E h=>Lf hx w0 N a w E h
end
end Go.Proofs.YtliknccmjjncbaaGreat
namespace Go.Proofs.YtliknccmjjncbaaGreat
open Go.RowKit
structure rp(n n':Nat)(F:Nat->Prop)(E E':En):Prop where
 same:∀i,i<n->E'.v i=E.v i/\E'.m i=E.m i/\E'.o i=E.o i
 A:∀b,E.A b->E'.A b
 A':∀b,E'.A b->E.A b\/F b
 new:∀i,n<=i->i<n'->∀b,b∈E'.m i\/b∈E'.o i->F b
theorem rp.refl{n:Nat}{F:Nat->Prop}{E:En}:rp n n F E E:=⟨λ_ _=>⟨rfl,rfl,rfl⟩,λ_ h=>h,λ_ h=>.inl h,λi h1 h2=>by omega⟩
theorem rp.trans{n n' n'':Nat}{F G H:Nat->Prop}{E E' E'':En}(h:rp n n' F E E')(k:rp n' n'' G E' E'')(hn:n<=n')(hF:∀b,F b->H b)(hG:∀b,G b->H b):rp n n'' H E E'':=by
 refine⟨λi hi=>?_,λb hb=>k.A b (h.A b hb),λb hb=>?_,λi h1 h2 b hb=>?_⟩
 ·obtain⟨a1,a2,a3⟩:=h.same i hi;obtain⟨b1,b2,b3⟩:=k.same i (by omega)
  grind
 ·rcases k.A' b hb with h1|h1
  ·rcases h.A' b h1 with h2|h2
   ·grind
   grind
  grind
 ·by_cases hi:i<n'
  ·obtain⟨b1,b2,b3⟩:=k.same i hi;rw[b2,b3]at hb;exact hF b (h.new i h1 hi b hb)
  ·exact hG b (k.new i (by omega) h2 b hb)
section
variable {P:Program}{w0:Cx}{w w':World}{N:Nat}{s:AS}{a:Act}{E:En}
theorem aH.pushOb(h:aH w0 N s a w E){X:Ob}{v':Value}{m' o':List Nat}(hst:X.st=some s.c)
 (hb:Below w.heap.size w w')
 (hm:∀b∈m',b<w'.heap.size/\¬E.A b/\∀j,j<s.n->b∉E.m j) (ho3:∀b∈o',w0.B b\/w0.fr b) (ho:∀b∈o',b<w'.heap.size/\b∉m'/\∀j,j<s.n->b∉E.m j/\b∉E.o j)
 (hX:∀E':En,E'=⟨upd E.v s.n v',upd E.m s.n m',upd E.o s.n o',λb=>E.A b\/b∈o'⟩->ft w E s.lv s.c w' E' (s.push X).lv (s.c+1)->Pr w0.cu w' 0 E' (s.push X).lv (s.c+1) s.n X) (hmF:∀b∈m',w0.fr b:=by simp) (hoF:∀b∈o',w0.ow b:=by simp):
 aH w0 N (s.push X) a w' ⟨upd E.v s.n v',upd E.m s.n m',upd E.o s.n o',λb=>E.A b\/b∈o'⟩:=by
 refine h.change (i:=s.n) (n':=s.n+1) (X:=X) (v':=v') (m':=m') (o':=o') (A':=λb=>E.A b\/b∈o') (c':=s.c+1) (by omega) (λj h1 h2=>by omega) (by omega)
  (h.bel.below hb) hb.size (λk hk _=>hb.block k hk) (by omega) (.inr λst he=>?_) (λb hb=>.inl hb) (λb hb=>hb.imp id (ho3 b)) ?_ ?_ ?_ ?_ hmF hoF
 ·rw[hst]at he;grind
 ·intro b hbA;rcases hbA with hbA|hbo
  ·exact⟨Nat.lt_of_lt_of_le (h.A_lt b hbA) hb.size,λhm'=>(hm b hm').2.1 hbA,λj hj _=>h.A_m b hbA j hj⟩
  grind
 ·grind
 ·grind
 ·rintro s' rfl E' rfl hstay;exact hX _ rfl hstay
theorem tY{X:Ob}{v':Value}{m' o':List Nat}{F:Nat->Prop}(hm:∀b∈m',F b)(ho:∀b∈o',F b):
 rp s.n (s.n+1) F E ⟨upd E.v s.n v',upd E.m s.n m',upd E.o s.n o',λb=>E.A b\/b∈o'⟩:=by
 refine⟨λi hi=>?_,λb hb=>.inl hb,λb hb=>?_,λi h1 h2 b hb=>?_⟩
 ·have:i≠s.n:=by omega
  grind[aJ]
 ·grind
 grind[af]
def Cs(X:Bool)(c t k:Nat)(es:List (List DV)):Ob:=if X then .dx c (.sl t k es)else .row c t k es true
theorem DN(X:Bool)(c t k:Nat)(es:List (List DV)):(Cs X c t k es).st=some c:=by cases X<;>rfl
def kf(X:Bool):List DV->Nat->List Ob
 |[],_=>[]
 |.sc _::r,c=>kf X r c
 |.sl t k es::r,c=>Cs X c t k es::kf X r (c+1)
def QN:List DV->Nat->Nat->List AC
 |[],_,_=>[]
 |.sc v::r,n,c=>.d (.sc v)::QN r n c
 |.sl t k es::r,n,c=>.own n c::QN r (n+1) (c+1)
theorem i8(l:List Ob):∀s:AS,(s.pushL l).n=s.n+l.length/\(s.pushL l).c=s.c+l.length/\(s.pushL l).sl=s.sl/\∀i,i<s.n->(s.pushL l).ob i=s.ob i:=by
 induction l with
 |nil=>intro s;exact⟨rfl,rfl,rfl,λ_ _=>rfl⟩
 |cons x l ih=>
  intro s;obtain⟨h1,h2,h3,h4⟩:=ih (s.push x);refine⟨by rw[AS.pushL,h1];grind[AS.push],by rw[AS.pushL,h2];grind[AS.push],by rw[AS.pushL,h3];rfl,λi hi=>?_⟩;rw[AS.pushL,h4 i (by grind[AS.push])];exact aJ _ _ (by omega)
theorem xW(l k:List Ob):∀s:AS,s.pushL (l++k)=(s.pushL l).pushL k:=by
 induction l with
 |nil=>intro s;rfl
 |cons x l ih=>intro s;exact ih (s.push x)
theorem OB{X:Bool}{b0:Nat}{vals:List Value}{ds:List DV}{f:List Nat}(ho:aR w b0 vals ds f)(hb0:∀b∈f,w0.ow b/\(w0.B b\/w0.fr b))(hT:∀v∈vals,∀b∈v.ownBlock.toList,w0.fr b)(hX:X=true->∀b∈f,w0.fr b):∀{s:AS} {E:En},aH w0 N s a w E->(∀b∈f,((X=true\/∃v∈vals,b∈v.ownBlock.toList)->¬E.A b)/\∀j,j<s.n->b∉E.m j/\b∉E.o j)->
 ∃E',aH w0 N (s.pushL (kf X ds s.c)) a w E'/\aD w E' (s.pushL (kf X ds s.c)).lv (s.pushL (kf X ds s.c)).c (QN ds s.n s.c) vals/\rp s.n (s.pushL (kf X ds s.c)).n (· ∈f) E E'/\(X=false->∀b∈f,(∃v∈vals,b∈v.ownBlock.toList)\/E'.A b):=by
 induction ho with
 |nil=>intro s E h _;exact⟨E,h,aD.nil,rp.refl,λ_ b hb=>by cases hb⟩
 |sc h1 _ ih=>
  intro s E h hf;obtain⟨E',k1,k2,k3,k4⟩:=ih hb0 (λv hv=>hT v (List.mem_cons_of_mem _ hv)) hX h (λb hb=>⟨λe=>(hf b hb).1 (e.imp id λ⟨v,h1,h2⟩=>⟨v,List.mem_cons_of_mem _ h1,h2⟩),(hf b hb).2⟩)
  exact⟨E',k1,aD.cons (aL.sc h1 .nil) k2,k3,λe b hb=>(k4 e b hb).imp (λ⟨v,h1,h2⟩=>⟨v,List.mem_cons_of_mem _ h1,h2⟩) id⟩
 |@sl v t k es cells g vs ds f h1 h2 h3 h4 h5 h6 _ ih=>
  intro s E h hf;have hnd:=List.nodup_append.1 h6;have hnd2:=List.nodup_append.1 hnd.2.1
  have hrep:∃m' o',(∀b∈m'++o',b∈v.ownBlock.toList++g)/\(X=false->∀b∈g,b∈o')/\aH w0 N (s.push (Cs X s.c t k es)) a w ⟨upd E.v s.n v,upd E.m s.n m',upd E.o s.n o',λb=>E.A b\/b∈o'⟩:=by
   cases X with
   |false=>
    refine⟨v.ownBlock.toList,g,λb hb=>hb,λ_ b hb=>hb,?_⟩;refine h.pushOb (DN ..) (Below.refl _ _) (λb hb=>?_) (λb hb=>(hb0 b (List.mem_append_right _ (List.mem_append_left _ hb))).2) (λb hb=>?_) ?_ (λb hb=>hT v (List.mem_cons_self ..) b hb) (λb hb=>(hb0 b (List.mem_append_right _ (List.mem_append_left _ hb))).1)
    ·have:=fZ h1 (by simpa using hb)
     grind
    ·obtain⟨k1,k2⟩:=hf b (by grind);exact⟨(h4.blocks b hb).2,λhm=>hnd.2.2 b hm b (by grind) rfl,k2⟩
    ·rintro E' rfl hstay;refine⟨cells,by omega,by simp[af];grind[oC],h2,h3,by grind[af],?_⟩;simp[if_pos,af]
     exact h4.lo (Nat.zero_le _)
   |true=>
    have hown:aR w 0 [v] [.sl t k es] (v.ownBlock.toList++g):=by
     have:=aR.sl (vs:=[]) (ds:=[]) (f:=[]) (oC h1 (Nat.zero_le _)) h2 h3 (h4.lo (Nat.zero_le _)) .nil (by
      rw[List.append_nil];have h7:=h6;rw[<-List.append_assoc]at h7
      grind)
     rwa [List.append_nil]at this
    refine⟨v.ownBlock.toList++g,[],λb hb=>by grind,λe=>(by cases e),?_⟩;refine h.pushOb (DN ..) (Below.refl _ _) (λb hb=>?_) (by simp) (by simp) ?_ (λb hb=>hX rfl b (by rw[<-List.append_assoc];grind))
    ·have hb':b∈v.ownBlock.toList++(g++f):=by
      rw[<-List.append_assoc];grind
     obtain⟨k1,k2⟩:=hf b hb';exact⟨(hown.blocks b hb).2,k1 (.inl rfl),λj hj=>(k2 j hj).1⟩
    ·rintro E' rfl hstay;refine⟨by omega,by grind[af],?_⟩
     grind[af]
  obtain⟨m',o',hmo,hgo,hrep⟩:=hrep;have hmf:∀b∈m',b∈v.ownBlock.toList++g:=λb hb=>hmo b (List.mem_append_left _ hb)
  have hof:∀b∈o',b∈v.ownBlock.toList++g:=λb hb=>hmo b (List.mem_append_right _ hb)
  have hdis:∀b∈f,b∉v.ownBlock.toList++g:=by
   grind
  obtain⟨E',k1,k2,k3,k4⟩:=ih (λb hb=>hb0 b (List.mem_append_right _ (List.mem_append_right _ hb))) (λu hu=>hT u (List.mem_cons_of_mem _ hu)) (λe b hb=>hX e b (List.mem_append_right _ (List.mem_append_right _ hb))) hrep (by
   grind[id,List.mem_cons_of_mem,af,aJ,AS.push])
  refine⟨E',k1,aD.cons ?_ k2,?_,λe b hb=>?_⟩
  ·refine⟨?_,λ_=>?_⟩
   ·have:=(i8 (kf X ds (s.c+1)) (s.push (Cs X s.c t k es))).2.1;show s.c<((s.push (Cs X s.c t k es)).pushL (kf X ds (s.c+1))).c;rw[this];grind[AS.push]
   ·have:=(k3.same s.n (by simp[AS.push])).1;rw[this];grind[af]
  ·have hsub:∀b,b∈v.ownBlock.toList++g->b∈v.ownBlock.toList++(g++f):=λb hb=>by rw[<-List.append_assoc];grind
   refine(tY (s:=s) (E:=E) (X:=Cs X s.c t k es) (F:=λb=>b∈v.ownBlock.toList++(g++f)) ?_ ?_).trans k3 (by omega) (λ_ h=>h) (λb hb=>?_)
   ·grind
   ·grind
   grind
  ·rcases List.mem_append.1 hb with hb|hb
   ·grind
   ·rcases List.mem_append.1 hb with hb|hb
    ·exact .inr (k3.A b (.inr (hgo e b hb)))
    grind
theorem Ar{w:World}{b0:Nat}{vals:List Value}{ds:List DV}{f:List Nat}(ho:aR w b0 vals ds f):∀v∈vals,∀b∈v.ownBlock.toList,b∈f:=by
 induction ho with
 |nil=>grind
 |@sc v vs ds f h1 _ ih=>
  intro u hu b hb;rcases List.mem_cons.1 hu with rfl|hu
  ·cases u<;>simp[Sc,Value.ownBlock]at h1 hb
  grind
 |@sl v t k es cells g vs ds f _ _ _ _ _ _ _ ih=>
  grind
theorem WQ{X:Bool}{b0:Nat}{vals:List Value}{ds:List DV}{f:List Nat}(ho:aR w b0 vals ds f)(hb0:∀b∈f,w0.fr b){s:AS}{E:En}(h:aH w0 N s a w E)(hf:∀b∈f,¬E.A b/\∀j,j<s.n->b∉E.m j/\b∉E.o j):
 ∃E',aH w0 N (s.pushL (kf X ds s.c)) a w E'/\aD w E' (s.pushL (kf X ds s.c)).lv (s.pushL (kf X ds s.c)).c (QN ds s.n s.c) vals/\rp s.n (s.pushL (kf X ds s.c)).n (· ∈f) E E':=
 by
 obtain⟨E',k1,k2,k3,-⟩:=OB ho (λb hb=>⟨w0.how _ (hb0 b hb),.inr (hb0 b hb)⟩) (λv hv b hb=>hb0 b (Ar ho v hv b hb)) (λ_=>hb0) h (λb hb=>⟨λ_=>(hf b hb).1,(hf b hb).2⟩);exact⟨E',k1,k2,k3⟩
def iX:List Ob->Nat->Prop
 |[],_=>True
 |x::r,c=>x.st=some c/\iX r (c+1)
theorem Ib(X:Bool):∀(ds:List DV) (c:Nat),iX (kf X ds c) c
 |[],_=>trivial
 |.sc _::r,c=>Ib X r c
 |.sl _ _ _::r,c=>⟨DN ..,Ib X r (c+1)⟩
theorem iX.app{l k:List Ob}:∀{c:Nat},iX l c->iX k (c+l.length)->iX (l++k) c:=by
 induction l with
 |nil=>grind
 |cons x l ih=>intro c h1 h2;exact⟨h1.1,ih h1.2 (by rw[List.length_cons]at h2;rwa [show c+1+l.length=c+(l.length+1)from by omega])⟩
theorem xV(l:List Ob):∀(s:AS) (i:Nat),s.n<=i->i<(s.pushL l).n->iX l s.c->∃st,((s.pushL l).ob i).st=some st/\s.c<=st:=by
 induction l with
 |nil=>grind[AS.pushL]
 |cons x l ih=>
  intro s i h1 h2 hs;by_cases e:i=s.n
  ·subst e;refine⟨s.c,?_,Nat.le_refl _⟩;rw[AS.pushL,(i8 l (s.push x)).2.2.2 s.n (by simp[AS.push])];simp[AS.push,af];exact hs.1
  ·obtain⟨st,h3,h4⟩:=ih (s.push x) i (by grind[AS.push]) h2 hs.2;exact⟨st,h3,by grind[AS.push]⟩
def b7(X:Bool):List Rs->Nat->List Ob
 |[],_=>[]
 |(_,ds,true)::r,c=>kf X ds c++b7 X r (c+(kf X ds c).length)
 |(_,_,false)::r,c=>b7 X r c
def iW:List Rs->Nat->Nat->List (Bool×List AC)
 |[],_,_=>[]
 |(b,ds,true)::r,n,c=>(b,QN ds n c)::iW r (n+(kf false ds c).length) (c+(kf false ds c).length)
 |(b,ds,false)::r,n,c=>(b,ds.map .d)::iW r n c
theorem we(X:Bool):∀(ds:List DV) (c:Nat),(kf X ds c).length=(kf false ds c).length
 |[],_=>rfl
 |.sc _::r,c=>we X r c
 |.sl _ _ _::r,c=>by simp[kf,we X r (c+1)]
theorem vx(X:Bool):∀(rs:List Rs) (c:Nat),iX (b7 X rs c) c
 |[],_=>trivial
 |(_,ds,true)::r,c=>(Ib X ds c).app (vx X r _)
 |(_,_,false)::r,c=>vx X r c
def k8(rs:List Rs)(n c:Nat):AV:=match iW rs n c with|[(b,cs)]=>.p b cs|l=>.tup l
theorem BQ:∀(rs:List Rs) (n c:Nat),(iW rs n c).length=rs.length
 |[],_,_=>rfl
 |(_,_,true)::r,n,c=>by simp[iW,BQ r]
 |(_,_,false)::r,n,c=>by simp[iW,BQ r]
theorem mZ{L:Nat->Option Nat}{c:Nat}{b:Bool}{cs:List AC}{v:Value}{vals:List Value}(h:if b then v=.agg vals.toArray else vals=[v])(hc:aD w E L c cs vals):cM w E L c b cs v:=by
 grind[cM]
def Ym(w:World)(b0:Nat)(A:Nat->Prop)(v:Value)(r:Rs)(f:List Nat):Prop:=
 ∃vals:List Value,(if r.1 then v=.agg vals.toArray else vals=[v])/\if r.2.2 then aR w b0 vals r.2.1 f else f=[]/\aL w A vals r.2.1
def bH(w:World)(b0:Nat)(A:Nat->Prop):List Value->List Rs->List (List Nat)->Prop
 |[],[],[]=>True
 |v::vs,r::rs,f::fs=>Ym w b0 A v r f/\bH w b0 A vs rs fs
 |_,_,_=>False
def lj(w:World)(E:En)(L:Nat->Option Nat)(c:Nat):List (Bool×List AC)->List Value->Prop
 |[],[]=>True
 |x::xs,v::vs=>cM w E L c x.1 x.2 v/\lj w E L c xs vs
 |_,_=>False
theorem EB{X:Bool}{b0:Nat}:∀(rs:List Rs) {vs:List Value} {fs:List (List Nat)} {s:AS} {E:En} {A0:Nat->Prop},aH w0 N s a w E->(∀b,A0 b->E.A b)->bH w b0 A0 vs rs fs->(∀b∈fs.flatten,w0.fr b)->fs.flatten.Nodup->(∀b∈fs.flatten,¬E.A b/\∀j,j<s.n->b∉E.m j/\b∉E.o j)->
 ∃E',aH w0 N (s.pushL (b7 X rs s.c)) a w E'/\lj w E' (s.pushL (b7 X rs s.c)).lv (s.pushL (b7 X rs s.c)).c (iW rs s.n s.c) vs/\rp s.n (s.pushL (b7 X rs s.c)).n (· ∈fs.flatten) E E'
 |[],vs,fs,s,E,A0,h,hA,hq,hfr,hnd,hf=>by
  cases vs with
  |cons=>exact hq.elim
  |nil=>cases fs with
   |cons=>exact hq.elim
   |nil=>exact⟨E,h,trivial,rp.refl⟩
 |(b,ds,dp)::rs,vs,fs,s,E,A0,h,hA,hq,hfr,hnd,hf=>by
  cases vs with
  |nil=>exact hq.elim
  |cons v vs=>cases fs with
   |nil=>exact hq.elim
   |cons f fs=>
    obtain⟨⟨vals,hv,hd⟩,hq⟩:=hq;rw[List.flatten_cons]at hnd hf hfr;have hnd':=List.nodup_append.1 hnd
    cases dp with
    |true=>
     have hd:aR w b0 vals ds f:=hd;obtain⟨E1,k1,k2,k3⟩:=WQ hd (λb hb=>hfr b (List.mem_append_left _ hb)) h (λb hb=>hf b (List.mem_append_left _ hb));obtain⟨p1,p2,p3,p4⟩:=i8 (kf X ds s.c) s
     have hfs:∀b∈fs.flatten,¬E1.A b/\∀j,j<(s.pushL (kf X ds s.c)).n->b∉E1.m j/\b∉E1.o j:=by
      intro b hb;obtain⟨q1,q2⟩:=hf b (List.mem_append_right _ hb);have hbf:b∉f:=λhbf=>hnd'.2.2 b hbf b hb rfl
      refine⟨λhA1=>?_,λj hj=>?_⟩
      ·rcases k3.A' b hA1 with h1|h1
       ·exact q1 h1
       ·exact hbf h1
      ·by_cases hjn:j<s.n
       ·obtain⟨_,e2,e3⟩:=k3.same j hjn;rw[e2,e3];exact q2 j hjn
       ·exact⟨λhm=>hbf (k3.new j (by omega) hj b (.inl hm)),λhm=>hbf (k3.new j (by omega) hj b (.inr hm))⟩
     obtain⟨E2,m1,m2,m3⟩:=EB rs k1 (λb hb=>k3.A b (hA b hb)) hq (λb hb=>hfr b (List.mem_append_right _ hb)) hnd'.2.1 hfs
     have e:s.pushL (b7 X ((b,ds,true)::rs) s.c)=(s.pushL (kf X ds s.c)).pushL (b7 X rs (s.pushL (kf X ds s.c)).c):=by
      rw[p2,b7,xW]
     rw[e];refine⟨E2,m1,?_,?_⟩
     ·simp[iW];refine⟨mZ hv (k2.stay ⟨λb hb=>⟨m3.A b hb,rfl⟩,λi st hst hl=>?_,?_⟩),?_⟩
      ·obtain⟨q1,q2,q3,q4⟩:=i8 (b7 X rs (s.pushL (kf X ds s.c)).c) (s.pushL (kf X ds s.c))
       have hin:i<(s.pushL (kf X ds s.c)).n:=by
        unfold AS.lv at hl;split at hl
        ·rename_i hi;apply Classical.byContradiction
         grind[kf,b7,xV,vx]
        grind
       refine⟨?_,(m3.same i hin).1⟩;simp_all[AS.lv,if_pos]
      ·have:=(i8 (b7 X rs (s.pushL (kf X ds s.c)).c) (s.pushL (kf X ds s.c))).2.1;rw[this];omega
      grind[we]
     ·refine(k3.trans (H:=(· ∈(f::fs).flatten)) m3 (by omega) (λb hb=>?_) (λb hb=>?_))
      ·rw[List.flatten_cons];grind
      grind
    |false=>
     have hd:f=[]/\aL w A0 vals ds:=hd;obtain⟨rfl,hr⟩:=hd;obtain⟨E2,m1,m2,m3⟩:=EB rs h hA hq (λb hb=>hfr b (List.mem_append_right _ hb)) hnd'.2.1 (λb hb=>hf b (List.mem_append_right _ hb));refine⟨E2,m1,⟨mZ hv (aD.ofRep (hr.mono λb hb=>m3.A b (hA b hb))),m2⟩,?_⟩;rw[List.flatten_cons,List.nil_append];exact m3
theorem FD{b0:Nat}{A0:Nat->Prop}:∀{rs:List Rs} {vs:List Value} {fs:List (List Nat)},bH w b0 A0 vs rs fs->∀b∈fs.flatten,b0<=b
 |[],vs,fs,h,b,hb=>by
  cases vs with
  |cons=>exact h.elim
  |nil=>cases fs with
   |cons=>exact h.elim
   |nil=>grind
 |(bb,ds,dp)::rs,vs,fs,h,b,hb=>by
  cases vs with
  |nil=>exact h.elim
  |cons v vs=>cases fs with
   |nil=>grind
   |cons f fs=>
    obtain⟨⟨vals,_,hd⟩,hq⟩:=h;rw[List.flatten_cons]at hb;rcases List.mem_append.1 hb with hb|hb
    ·cases dp with
     |true=>exact(aR.blocks (show aR w b0 vals ds f from hd) b hb).1
     |false=>rw[show f=[]from hd.1]at hb;cases hb
    ·exact FD hq b hb
theorem JV{X:Bool}{b0:Nat}(hb0:w0.heap.size<=b0)(rs:List Rs){vs:List Value}{fs:List (List Nat)}{s:AS}{E:En}{A0:Nat->Prop}(h:aH w0 N s a w E)(hA:∀b,A0 b->E.A b)(hq:bH w b0 A0 vs rs fs)(hnd:fs.flatten.Nodup)(hf:∀b∈fs.flatten,¬E.A b/\∀j,j<s.n->b∉E.m j/\b∉E.o j):
 ∃E',aH w0 N (s.pushL (b7 X rs s.c)) a w E'/\lj w E' (s.pushL (b7 X rs s.c)).lv (s.pushL (b7 X rs s.c)).c (iW rs s.n s.c) vs/\rp s.n (s.pushL (b7 X rs s.c)).n (· ∈fs.flatten) E E':=
 EB rs h hA hq (λb hb=>w0.hfr b (Nat.le_trans hb0 (FD hq b hb))) hnd hf
end
end Go.Proofs.YtliknccmjjncbaaGreat
namespace Go.Proofs.YtliknccmjjncbaaGreat
open Go.RowKit
section
variable {P:Program}{w0:Cx}{w w':World}{N:Nat}{s:AS}{a:Act}{E:En}
def fe(s:AS):List Operand->List (Bool×List DV)->Prop
 |[],[]=>True
 |x::xs,y::ys=>(match s.ev x with|.p b cs=>b=y.1/\IA s cs y.2|_=>False)/\fe s xs ys
 |_,_=>False
def fW(s:AS):List Operand->List (Bool×List DV)->Prop
 |[],[]=>True
 |x::xs,y::ys=>(match s.ev x with|.p b cs=>b=y.1/\CN s cs y.2|_=>False)/\fW s xs ys
 |_,_=>False
theorem gU{L:Nat->Option Nat}{c:Nat}{b:Bool}{cs:List AC}{v:Value}(h:cM w E L c b cs v):∃vals:List Value,(if b then v=.agg vals.toArray else vals=[v])/\aD w E L c cs vals:=by
 grind[cM]
theorem IK{B:Nat->Prop}{v:Value}{x:Bool×List DV}{vals:List Value}(h:if x.1 then v=.agg vals.toArray else vals=[v])(hr:aL w B vals x.2):EJ w B v x:=by
 grind[EJ]
theorem dg.cons{B:Nat->Prop}{v:Value}{x:Bool×List DV}{vs:List Value}{xs:List (Bool×List DV)}(h:EJ w B v x)(k:dg w B vs xs):dg w B (v::vs) (x::xs):=by
 refine⟨by simp[k.1],λj u y h1 h2=>?_⟩
 cases j with
 |zero=>grind
 |succ j=>exact k.2 j u y (by assumption) (by assumption)
theorem dg.nil{B:Nat->Prop}:dg w B [] []:=⟨rfl,λj u y h1=>by grind⟩
theorem xo(h:aH w0 N s a w E):∀{xs:List Operand} {ys:List (Bool×List DV)},fe s xs ys->dg w (AM s E) (xs.map a.eval) ys
 |[],[],_=>dg.nil
 |[],_::_,h1=>h1.elim
 |_::_,[],h1=>h1.elim
 |x::xs,y::ys,h1=>by
  obtain⟨h1,h2⟩:=h1;split at h1
  ·rename_i b cs he;obtain⟨rfl,h3⟩:=h1;have:=aP h x;rw[he]at this;obtain⟨vals,k1,k2⟩:=gU this;exact dg.cons (IK k1 (HE h k2 h3)) (xo h h2)
  grind
theorem nx(h:aH w0 N s a w E):∀{xs:List Operand} {ys:List (Bool×List DV)},fW s xs ys->dg w E.A (xs.map a.eval) ys
 |[],[],_=>dg.nil
 |[],_::_,h1=>h1.elim
 |_::_,[],h1=>h1.elim
 |x::xs,y::ys,h1=>by
  obtain⟨h1,h2⟩:=h1;split at h1
  ·rename_i b cs he;obtain⟨rfl,h3⟩:=h1;have:=aP h x;rw[he]at this;obtain⟨vals,k1,k2⟩:=gU this;exact dg.cons (IK k1 (Eu h k2 h3)) (nx h h2)
  grind
theorem BH{B A':Nat->Prop}{F:List Nat}:∀{vs:List Value} {rs:List Rs} {fs:List (List Nat)},vs.length=rs.length->fs.length=rs.length->(∀(j:Nat) u r f,vs[j]? =some u->rs[j]? =some r->fs[j]? =some f->Vp w w' B F u r f)->
 (∀b,(B b\/(w.heap.size<=b/\b<w'.heap.size/\b∉F))->A' b)\/(∀r∈rs,r.2.2=true)->bH w' w.heap.size A' vs rs fs
 |[],[],[],_,_,_,_=>trivial
 |v::vs,r::rs,f::fs,h1,h2,h3,h4=>by
  refine⟨?_,BH (by grind) (by grind) (λj u r f k1 k2 k3=>h3 (j+1) u r f (by assumption) (by assumption) (by assumption)) (h4.imp id λh r hr=>h r (List.mem_cons_of_mem _ hr))⟩;obtain⟨vals,q1,q2⟩:=h3 0 v r f rfl rfl rfl;refine⟨vals,q1,?_⟩;split
  ·grind
  ·rename_i hd;rw[if_neg hd]at q2;rcases h4 with h4|h4
   ·exact⟨q2.1,q2.2.mono h4⟩
   grind
 |[],_::_,_,h1,_,_,_=>by grind
 |_::_,[],_,h1,_,_,_=>by grind
 |_,[],_::_,_,h2,_,_=>by grind
 |_,_::_,[],_,h2,_,_=>by grind
theorem rP{L:Nat->Option Nat}{c:Nat}:∀{xs:List (Bool×List AC)} {vs:List Value},lj w E L c xs vs->xs.length=vs.length/\∀(j:Nat) b cs u,xs[j]? =some (b,cs)->vs[j]? =some u->cM w E L c b cs u
 |[],[],_=>⟨rfl,λj b cs u h=>by grind⟩
 |x::xs,v::vs,h=>by
  obtain⟨h1,h2⟩:=rP h.2;refine⟨by grind,λj b cs u k1 k2=>?_⟩
  cases j with
  |zero=>simp at k1 k2;subst k1 k2;exact h.1
  |succ j=>grind
 |[],_::_,h=>h.elim
 |_::_,[],h=>h.elim
theorem Bi{L:Nat->Option Nat}{c n' c':Nat}{rs:List Rs}{vs:List Value}{v:Value}(h:lj w E L c (iW rs n' c') vs)(hv:if rs.length=1 then vs=[v]else v=.tuple vs.toArray):bi w E L c (k8 rs n' c') v:=by
 obtain⟨h1,h2⟩:=rP h;have hl:=BQ rs n' c';unfold k8;split
 ·rename_i b cs he;rw[he]at h hl;rw[if_pos (show rs.length=1 from by grind)]at hv;subst hv;exact h.1
 ·rename_i hne
  have:¬rs.length=1:=by
   intro e;rw[e]at hl
   match hx:iW rs n' c',hl with
   |[(b,cs)],_=>grind
  rw[if_neg this]at hv;exact⟨vs,hv,h1,h2⟩
theorem lU{f:FuncId}{o:Oper}{args:Array Operand}{ts:Array TypeId}(ho:o.op=.call ⟨.value (.func f),args,ts⟩)(hc:bc P f=true):
 (execOp a.eval o).run P w=.ok (.enter f (args.toList.map a.eval).toArray) w:=by
 unfold bc at hc
 cases hf:P.funcs[f]? with
 |none=>grind
 |some fn=>
  simp[hf]at hc;have h1:fn.body.isNone=false:=by cases hb:fn.body<;>simp_all
  simp only[execOp,ho,resolve,Act.eval,Deferred.ofValue,Sem.run_bind,Sem.run_pure,Result.andThen_ok,invoke,callFunc,run_program,hf];rw[if_neg (by grind)];simp[h1]
  grind
theorem JT(X:Bool){f:FuncId}{o:Oper}{res:List Rs}
 (hk:∀w0 N a w E,aH w0 N s a w E->∃(us:List Value) (B:Nat->Prop),(execOp a.eval o).run P w=.ok (.enter f us.toArray) w/\Calls P f us.toArray w (Ri w B res)/\((∀r∈res,r.2.2=true)\/∀b,B b->E.A b)):dH P o s (k8 res s.n s.c) (b7 X res s.c):=by
 intro w0 N a w E h;obtain⟨us,B,bD,hcal,hor⟩:=hk w0 N a w E h;unfold Oper.wp;rw[bD,Oper.upon_enter]
 ·refine hcal.mono ?_;rintro e w' ⟨v,rfl,⟨vs,fs,hv,hl1,hl2,hnd,hr⟩,hb⟩;simp only;have hrep:=h.world hb (A':=λb=>E.A b\/((∀b,B b->E.A b)/\w.heap.size<=b/\b<w'.heap.size/\b∉fs.flatten)) (λb hb=>.inl hb) (λb hb=>hb.imp id λh=>⟨h.2.1,h.2.2.1⟩)
  have hq:bH w' w.heap.size (λb=>E.A b\/((∀b,B b->E.A b)/\w.heap.size<=b/\b<w'.heap.size/\b∉fs.flatten)) vs res fs:=by
   refine BH hl1 hl2 hr ?_
   grind
  have hfr:∀b∈fs.flatten,w.heap.size<=b:=by
   intro b hbf;obtain⟨f',hf',hbf'⟩:=List.mem_flatten.1 hbf;obtain⟨j,hj,rfl⟩:=List.mem_iff_getElem.1 hf';obtain⟨vals,_,q2⟩:=hr j _ _ _ (List.getElem?_eq_getElem (by omega)) (List.getElem?_eq_getElem (by omega)) (List.getElem?_eq_getElem hj);split at q2
   ·exact(q2.blocks b hbf').1
   grind
  obtain⟨E',k1,k2,k3⟩:=JV (X:=X) (b0:=w.heap.size) h.bel.size res hrep (λ_ h=>h) hq hnd (by
   intro b hbf;have hge:=hfr b hbf;refine⟨λhA=>?_,λj hj=>⟨λhm=>?_,λhm=>?_⟩⟩
   ·rcases hA with hA|hA
    ·have:=h.A_lt b hA;omega
    grind
   ·have:=h.m_lt j hj b hm;omega
   ·have:=h.A_lt b (h.A_o j hj b hm);omega)
  refine⟨v,E',rfl,hb,⟨k3.same,λb hb=>k3.A b (.inl hb),λb hb=>?_,λi h1 h2 b hb=>hfr b (k3.new i h1 h2 b hb)⟩,k1,Bi k2 hv⟩;rcases k3.A' b hb with h1|h1
  ·grind
  grind
theorem On(X:Bool){f:FuncId}{o:Oper}{args:Array Operand}{ts:Array TypeId}{ys:List (Bool×List DV)}{res:List Rs}(ho:o.op=.call ⟨.value (.func f),args,ts⟩)(hm:aB P f ys res)
 (har:(fe s args.toList ys/\∀r∈res,r.2.2=true)\/fW s args.toList ys):dH P o s (k8 res s.n s.c) (b7 X res s.c):=
 JT X λw0 N a w E h=>by
  rcases har with⟨h1,h2⟩|h1
  ·exact⟨_,AM s E,lU ho hm.1,hm.2 w _ _ (λb hb=>by
    rcases hb with hb|⟨i,hi,_,hb⟩
    ·exact h.A_lt b hb
    ·exact h.m_lt i hi b hb) (xo h h1),.inl h2⟩
  ·exact⟨_,E.A,lU ho hm.1,hm.2 w _ _ h.A_lt (nx h h1),.inr λ_ h=>h⟩
def FK(s:AS):AC->Bool
 |.d _=>true
 |.nil=>true
 |.own i st=>(s.own? i st).isSome
 |.ptr i st _=>(s.own? i st).isSome
 |.elt i st _ _ _=>(s.own? i st).isSome
 |.sub i st _ _ _=>(s.own? i st).isSome
 |.emp=>true
 |.rd _=>true
 |.fn _ _=>true
 |.lit _ _ _=>true
theorem Uu(h:aH w0 N s a w E){i st:Nat}{x:Ob}(ho:s.own? i st=some x):(E.v i).oneCell'=true:=by
 obtain⟨hi,ho,hl⟩:=am ho;have h1:=h.obj i hi;rw[ho]at h1
 cases x with
 |var st t cs=>obtain⟨g,vals,_,e,_⟩:=h1;rw[e];rfl
 |arr st t k es=>obtain⟨g,vals,_,e,_⟩:=h1;rw[e];rfl
 |row st t k es dp=>obtain⟨cells,_,h2,_⟩:=h1;obtain⟨A,c,e,_⟩:=ba h2;rw[e];rfl
 |frz st x=>exact aL.one h1.2.2.2 _ (List.mem_cons_self ..)
 |dx st x=>exact aL.one h1.2.2.rep _ (List.mem_cons_self ..)
 |cur st id t x cs=>obtain⟨g,u,_,e,_⟩:=h1;rw[e];rfl
 |pvr st t cs=>obtain⟨g,vals,_,e,_⟩:=h1;rw[e];rfl
 |opn st t k es q=>obtain⟨cells,g,_,h2,_⟩:=h1;obtain⟨A,c,e,_⟩:=ba h2;rw[e];rfl
 |dead=>unfold AS.lv at hl;rw[if_pos hi,ho]at hl;cases hl
theorem JA(h:aH w0 N s a w E){c:AC}{u:Value}(hc:dw w E s.lv s.c c u)(hk:FK s c=true):u.oneCell'=true:=by
 cases c with
 |d x=>exact aL.one hc _ (List.mem_cons_self ..)
 |nil=>obtain rfl:u=_:=hc;rfl
 |own i st=>
  obtain⟨x,ho⟩:=Option.isSome_iff_exists.1 hk
  rw[hc.2 (am ho).2.2];grind[Uu]
 |ptr i st off=>
  obtain⟨x,ho⟩:=Option.isSome_iff_exists.1 hk
  obtain⟨g,_,rfl⟩:=hc.2 (am ho).2.2;rfl
 |elt i st k j off=>
  obtain⟨x,ho⟩:=Option.isSome_iff_exists.1 hk
  obtain⟨g,n,cp,_,rfl⟩:=hc.2 (am ho).2.2;rfl
 |sub i st k lo n=>
  obtain⟨x,ho⟩:=Option.isSome_iff_exists.1 hk
  obtain⟨A,M,cp,B,_,_,rfl,_⟩:=hc.2 (am ho).2.2;rfl
 |emp=>obtain⟨A,rfl⟩:=hc;rfl
 |rd cs=>obtain⟨b,off,vals,rfl,_⟩:=hc;rfl
 |fn f cs=>obtain⟨caps,rfl,_⟩:=hc;rfl
 |lit=>obtain⟨⟨A,n,rfl⟩,_⟩:=hc;rfl
theorem Pi(h:aH w0 N s a w E){cs:List AC}{vals:List Value}(hc:aD w E s.lv s.c cs vals)(hk:cs.all (FK s)=true):∀u∈vals,u.oneCell'=true:=by
 intro u hu;obtain⟨j,hj,rfl⟩:=List.mem_iff_getElem.1 hu;have hj':j<cs.length:=by rw[hc.1];exact hj
 exact JA h (hc.2 j _ _ (List.getElem?_eq_getElem hj') (List.getElem?_eq_getElem hj)) (List.all_eq_true.1 hk _ (List.getElem_mem hj'))
theorem JY{u:Value}(h:u.oneCell'=true):u.cells=#[u]:=by cases u<;>first|rfl|cases h
def bV(s:AS):AV->Option (List AC)
 |.p true cs=>if cs.all (FK s)then some cs else none
 |.p false [c]=>if FK s c then some [c]else none
 |_=>none
theorem cZ(h:aH w0 N s a w E){x:AV}{cs:List AC}{v:Value}(hx:bV s x=some cs)(hv:bi w E s.lv s.c x v):
 aD w E s.lv s.c cs v.cells.toList/\∀u∈v.cells.toList,u.oneCell'=true:=by
 unfold bV at hx;split at hx
 ·split at hx
  ·rename_i hk;cases hx;obtain⟨vals,rfl,hc⟩:=oR hv;exact⟨by assumption,by simpa[Value.cells]using Pi h hc hk⟩
  grind
 ·split at hx
  ·rename_i hk;cases hx;have h1:=JA h (aE hv) hk;rw[JY h1]
   grind[aD.cons,aE,aD.nil]
  grind
 grind
theorem Sj{o:Oper}{t:TypeId}{cs:List AC}{f:World->Array Value}(hcs:∀w0 N a w E,aH w0 N s a w E->∃vals:List Value,(execOp a.eval o).run P w=.ok (.value (.pointer (some ⟨w.heap.size,0,none⟩))) (w.alloc (.cells vals.toArray t))/\aD w E s.lv s.c cs vals):
 dH P o s (.p false [.ptr s.n s.c 0]) [.var s.c t cs]:=by
 intro w0 N a w E h;obtain⟨vals,bD,hc⟩:=hcs w0 N a w E h;unfold Oper.wp;rw[bD,Oper.upon_value];have hb:Below w.heap.size w (w.alloc (.cells vals.toArray t)):=(Below.refl _ _).alloc (Nat.le_refl _) _;refine⟨_,⟨upd E.v s.n (.pointer (some ⟨w.heap.size,0,none⟩)),upd E.m s.n [w.heap.size],upd E.o s.n [],λb=>E.A b\/b∈([]:List Nat)⟩,rfl,hb,?_,?_,?_⟩
 ·have:=tY (s:=s) (E:=E) (X:=.var s.c t cs) (v':=.pointer (some ⟨w.heap.size,0,none⟩)) (m':=[w.heap.size]) (o':=[]) (F:=λb=>w.heap.size<=b) (by simp) (by simp);exact⟨this.same,this.A,this.A',this.new⟩
 ·refine h.pushOb rfl hb (λb hbm=>?_) (by simp) (by simp) ?_ ?_
  ·simp at hbm;subst hbm;exact⟨by simp,λhA=>by have:=h.A_lt _ hA;omega,λj hj hm=>by have:=h.m_lt j hj _ hm;omega⟩
  ·rintro E' rfl hstay;exact⟨w.heap.size,vals,by omega,by grind[af],by grind[af],by grind[af],Nat.zero_le _,mG.new _ _ _,hc.stay hstay⟩
  ·intro b hb;simp at hb;subst hb;exact w0.hfr _ h.bel.size
 ·refine aN ⟨by simp[AS.pushL,AS.push],λ_=>⟨w.heap.size,by grind[af],rfl⟩⟩
theorem Sg{o:Oper}{t:TypeId}{x:Operand}{cs:List AC}(ho:o.op=.box t x)(hx:bV s (s.ev x)=some cs):dH P o s (.p false [.ptr s.n s.c 0]) [.var s.c t cs]:=by
 refine Sj (f:=λ_=>#[]) λw0 N a w E h=>?_
 obtain⟨h1,_⟩:=cZ h hx (aP h x);refine⟨(a.eval x).cells.toList,?_,h1⟩;simp[execOp,ho,Instr.box,newVar,newRow]
def Sf:List Value->Option (List AC)
 |[]=>some []
 |v::vs=>match Om v,Sf vs with|some c,some cs=>some (c::cs)|_,_=>none
theorem EX{L:Nat->Option Nat}{c:Nat}:∀{vs:List Value} {cs:List AC},Sf vs=some cs->aD w E L c cs vs
 |[],cs,h=>by grind[Sf,aD.nil]
 |v::vs,cs,h=>by
  simp[Sf]at h;split at h
  ·rename_i c cs' h1 h2;cases h;exact aD.cons (OL h1) (EX h2)
  grind
def aY(P:Program)(t:TypeId):Option (List AC):=match aT P t with|some vs=>Sf vs|none=>none
theorem Da{t:TypeId}{vs:List Value}(h:aT P t=some vs)(w:World):∃z,(zeroValue t).run P w=.ok z w/\z.cells=vs.toArray:=by
 unfold aT at h
 cases hi:P.info? t with
 |none=>grind
 |some i=>
  cases hz:i.zero with
  |none=>grind
  |some z=>simp[hi,hz]at h;subst h;exact⟨z,by simp[zeroValue,typeInfo,hi,hz],by simp⟩
theorem Ja{o:Oper}{t:TypeId}{cs:List AC}(ho:o.op=.alloc t)(hx:aY P t=some cs):dH P o s (.p false [.ptr s.n s.c 0]) [.var s.c t cs]:=by
 refine Sj (f:=λ_=>#[]) λw0 N a w E h=>?_
 unfold aY at hx;split at hx
 ·rename_i vs hz;obtain⟨z,h1,h2⟩:=Da hz w;refine⟨vs,?_,EX hx⟩;simp[execOp,ho,Instr.alloc,h1,newVar,newRow,h2]
 grind
end
end Go.Proofs.YtliknccmjjncbaaGreat
namespace Go.Proofs.YtliknccmjjncbaaGreat
open Go.RowKit
section
variable {P:Program}{w0:Cx}{w w':World}{N:Nat}{s:AS}{a:Act}{E:En}
theorem FW:∀(l:List Value) (i off:Nat) (cells:Array Value),(l.zipIdx i).foldl (λcs (x:Value×Nat)=>cs.setIfInBounds (off+x.2) x.1) cells=(tS cells.toList (off+i) l).toArray
 |[],i,off,cells=>by rfl
 |v::l,i,off,cells=>by
  rw[List.zipIdx_cons,List.foldl_cons,FW l (i+1) off,tS]
  grind
def plug{α:Type}(off:Nat)(cs z:List α):List α:=z.take off++cs++z.drop (off+cs.length)
theorem AY{α:Type}{off:Nat}{cs z:List α}(h:off+cs.length<=z.length):(plug off cs z).length=z.length:=by
 grind[plug]
theorem wN{cells vs:Array Value}{off:Nat}(h:off+vs.size<=cells.size):vs.zipIdx.foldl (λcs (x:Value×Nat)=>cs.setIfInBounds (off+x.2) x.1) cells=(plug off vs.toList cells.toList).toArray:=by
 have h1:=FW vs.toList 0 off cells;rw[jS _ _ _ (by simpa using h)]at h1;rw[<-Array.foldl_toList,Array.toList_zipIdx];exact h1
theorem rL{L:Nat->Option Nat}{c off:Nat}{cs z:List AC}{us vs:List Value}(h:aD w E L c cs us)(k:aD w E L c z vs):aD w E L c (plug off cs z) (plug off us vs):=by
 unfold plug;rw[h.1];exact((k.take off).app h).app (k.drop _)
def Co(P:Program)(t:TypeId):Bool:=match P.underlying t with|some (.struct fs)=>(fs.toList.mapM λf=>(P.info? f.type).map λi=>(f.offset,i.size)).isSome|_=>false
theorem Fy{α β:Type}{f:α->Option β}:∀{l:List α} {r:List β},l.mapM f=some r->∀(i:Nat) x,l[i]? =some x->f x=r[i]?
 |[],r,_,i,x,hx=>by grind
 |y::l,r,h,i,x,hx=>by
  rw[List.mapM_cons]at h
  cases hy:f y with
  |none=>grind
  |some b=>
   cases hl:l.mapM f with
   |none=>grind
   |some r'=>
    simp[hy,hl]at h;subst h
    cases i with
    |zero=>grind
    |succ i=>simpa using Fy hl i x (by assumption)
def iy(P:Program)(s:AS)(t:TypeId):List (Nat×Operand)->List AC->Option (List AC)
 |[],z=>some z
 |(i,x)::r,z=>match dd P t i,bV s (s.ev x)with
  |some (off,k,_),some cs=>if cs.length=k/\off+k<=z.length then iy P s t r (plug off cs z)else none
  |_,_=>none
theorem J5{t:TypeId}{fs:Array Field}{places:List (Nat×Nat)}(hu:P.underlying t=some (.struct fs))(hp:(fs.toList.mapM λf=>(P.info? f.type).map λi=>(f.offset,i.size))=some places){i off k:Nat}{b:Bool}(h:dd P t i=some (off,k,b)):
 places[i]? =some (off,k):=by
 unfold dd at h;simp[hu]at h
 cases hf:fs[i]? with
 |none=>grind
 |some fd=>
  simp[hf,Option.bind_some]at h
  cases hz:cG P fd.type with
  |none=>grind
  |some k'=>
   simp only[hz,Option.bind_some]at h
   cases hg:bR P fd.type with
   |none=>grind
   |some b'=>
    simp[hg]at h;obtain⟨rfl,rfl,rfl⟩:=h;have:=Fy hp i fd (by grind);rw[<-this];unfold cG at hz
    cases hi:P.info? fd.type with
    |none=>grind
    |some inf=>grind
theorem FE(h:aH w0 N s a w E){t:TypeId}{fs:Array Field}{places:List (Nat×Nat)}(hu:P.underlying t=some (.struct fs))(hp:(fs.toList.mapM λf=>(P.info? f.type).map λi=>(f.offset,i.size))=some places):
 ∀{parts:List (Nat×Operand)} {z cs:List AC} {vals:List Value},iy P s t parts z=some cs->aD w E s.lv s.c z vals->
  ∃us:List Value,Instr.fill (places.toArray[·]?) vals.toArray (parts.map λx=>(x.1,a.eval x.2))=some us.toArray/\aD w E s.lv s.c cs us
 |[],z,cs,vals,hf,hz=>by simp[iy]at hf;cases hf;exact⟨vals,rfl,hz⟩
 |(i,x)::r,z,cs,vals,hf,hz=>by
  simp[iy]at hf;split at hf
  ·rename_i off k b xs h1 h2;split at hf
   ·rename_i hl;obtain⟨hl1,hl2⟩:=hl;obtain⟨c1,_⟩:=cZ h h2 (aP h x);have hpl:=J5 hu hp h1;have hsz:(a.eval x).cells.size=k:=by rw[<-hl1,c1.1];simp
    obtain⟨us,e1,e2⟩:=FE h hu hp hf (rL (off:=off) c1 hz);refine⟨us,?_,e2⟩;rw[List.map_cons,Instr.fill];simp only[List.getElem?_toArray,hpl];have hle:off+(a.eval x).cells.size<=vals.toArray.size:=by rw[hsz];have:=hz.1;grind
    rw[if_neg (by grind),wN hle]
    grind
   grind
  grind
theorem qe{o:Oper}{t:TypeId}{parts:Array (Nat×Operand)}{z cs:List AC}{w0:Cx}{N:Nat}{a:Act}{w:World}{E:En}(hp:Co P t=true)(hz:aY P t=some z)(hf:iy P s t parts.toList z=some cs)(h:aH w0 N s a w E):
 ∃us:List Value,P.built t (parts.map λx=>(x.1,a.eval x.2)).toList=some us.toArray/\aD w E s.lv s.c cs us:=by
 unfold Co at hp;split at hp
 ·rename_i fs hu;obtain⟨places,hp⟩:=Option.isSome_iff_exists.1 hp;unfold aY at hz;split at hz
  ·rename_i vs hz0;obtain⟨us,e1,e2⟩:=FE h hu hp hf (EX (w:=w) (E:=E) (L:=s.lv) (c:=s.c) hz);refine⟨us,?_,e2⟩;unfold Program.built;unfold aT at hz0
   cases hi:P.info? t with
   |none=>grind
   |some i=>
    cases hzz:i.zero with
    |none=>grind
    |some zz=>
     simp[hi,hzz]at hz0;subst hz0;simp_all
  grind
 grind
theorem xt{o:Oper}{t:TypeId}{parts:Array (Nat×Operand)}{a:Act}{us:Array Value}(ho:o.op=.build t parts)(hb:P.built t (parts.map λx=>(x.1,a.eval x.2)).toList=some us)(w:World):(execOp a.eval o).run P w=.ok (.value (.agg us)) w:=by
 have hr:=run_build (P:=P) w t _ _ hb;simp only[execOp,ho];rw[Sem.run_bind];rw[show(parts.map λ(x:Nat×Operand)=>match x with|(i,x)=>(i,a.eval x))=(parts.map λx=>(x.1,a.eval x.2))from rfl,hr];rfl
theorem ER{o:Oper}{t:TypeId}{parts:Array (Nat×Operand)}{z cs:List AC}(ho:o.op=.build t parts)(hp:Co P t=true)(hz:aY P t=some z)(hf:iy P s t parts.toList z=some cs):dH P o s (.p true cs) []:=by
 refine dH.of_run λw0 N a w E h=>?_
 obtain⟨us,h1,h2⟩:=qe (o:=o) hp hz hf h;exact⟨.agg us.toArray,xt ho h1 w,us,rfl,h2⟩
def t9(s:AS)(k:Nat):List (Nat×Operand)->Nat->Option (List (List AC))
 |[],_=>some []
 |(i,x)::r,j=>match bV s (s.ev x),t9 s k r (j+1)with
  |some cs,some es=>if i=j/\cs.length=k then some (cs::es)else none
  |_,_=>none
theorem kO{k:Nat}:∀{parts:List (Nat×Operand)} {j:Nat} {es:List (List AC)},t9 s k parts j=some es->es.length=parts.length/\∀e∈es,e.length=k
 |[],j,es,h=>by grind[t9]
 |(i,x)::r,j,es,h=>by
  simp[t9]at h;split at h
  ·rename_i cs es' h1 h2;split at h
   ·rename_i hl;cases h;obtain⟨k1,k2⟩:=kO h2
    grind
   grind
  grind
theorem Iz(h:aH w0 N s a w E){k:Nat}:∀{parts:List (Nat×Operand)} {j:Nat} {es:List (List AC)} {done rest:List Value},t9 s k parts j=some es->done.length=j*k->rest.length=parts.length*k->
 ∃us:List Value,Instr.fill (λi=>some (i*k,k)) (done++rest).toArray (parts.map λx=>(x.1,a.eval x.2))=some (done++us).toArray/\aD w E s.lv s.c es.flatten us
 |[],j,es,done,rest,hf,hd,hr=>by
  simp[t9]at hf;cases hf;have:rest=[]:=List.eq_nil_of_length_eq_zero (by grind);subst this
  exact⟨[],rfl,aD.nil⟩
 |(i,x)::r,j,es,done,rest,hf,hd,hr=>by
  simp[t9]at hf;split at hf
  ·rename_i cs es' h1 h2;split at hf
   ·rename_i hl;obtain⟨rfl,hl⟩:=hl;cases hf;obtain⟨c1,_⟩:=cZ h h1 (aP h x);have hsz:(a.eval x).cells.toList.length=k:=by rw[<-c1.1];exact hl
    rw[List.length_cons,Nat.succ_mul]at hr;obtain⟨us,e1,e2⟩:=Iz h (done:=done++(a.eval x).cells.toList) (rest:=rest.drop k) h2 (by rw[List.length_append,hsz,hd,Nat.succ_mul]) (by rw[List.length_drop];omega);refine⟨(a.eval x).cells.toList++us,?_,by rw[List.flatten_cons];exact c1.app e2⟩;rw[List.map_cons,Instr.fill];have hsz':(a.eval x).cells.size=k:=by assumption
    have hle:i*k+(a.eval x).cells.size<=(done++rest).toArray.size:=by rw[hsz'];grind
    simp only;rw[if_neg (by grind),wN hle]
    have:plug (i*k) (a.eval x).cells.toList (done++rest).toArray.toList=done++(a.eval x).cells.toList++rest.drop k:=by
     unfold plug;rw[hsz];rw[show(done++rest).toArray.toList=done++rest from rfl,<-hd,List.take_left,List.drop_length_add_append]
    rw[this,e1,List.append_assoc]
   grind
  grind
theorem mM{o:Oper}{t el:TypeId}{k len:Nat}{parts:Array (Nat×Operand)}{es:List (List AC)}(ho:o.op=.buildSlice t len parts)(ht:dN P t=some (el,k))(hz:(aT P el).isSome=true)(hk:0<k)
 (hl:parts.toList.length=len) (hs:len*k<=16777216) (hf:t9 s k parts.toList 0=some es):dH P o s (.p false [.own s.n s.c]) [.arr s.c el k es]:=by
 intro w0 N a w E h;obtain⟨hu,hsz⟩:=ka ht;obtain⟨hl1,hl2⟩:=kO hf;obtain⟨zs,hz⟩:=Option.isSome_iff_exists.1 hz
 have key:∃us:List Value,(execOp a.eval o).run P w=.ok (.value (.slice (some ⟨w.heap.size,0,none⟩) len len)) (w.alloc (.cells us.toArray el))/\aD w E s.lv s.c es.flatten us:=by
  unfold aT at hz;unfold cG at hsz
  cases hi:P.info? el with
  |none=>grind
  |some ie=>
   simp[hi]at hsz
   cases hzz:ie.zero with
   |none=>grind
   |some z=>
    rcases Nat.eq_zero_or_pos len with h0|h0
    ·subst h0;have hp:parts.toList=[]:=List.eq_nil_of_length_eq_zero hl;rw[hp]at hf;simp[t9]at hf;cases hf;obtain rfl:parts=#[]:=by grind
     refine⟨[],?_,aD.nil⟩;simp[execOp,ho,Instr.buildSlice,run_underlying hu,sizeOf,typeInfo,hi,hsz,Instr.fill,newRow];rw[show Array.map (λ(_:Nat)=>(default:Value)) (Array.range 0)=#[]from Array.ext (by simp) (λi h1 h2=>by grind)]
    ·obtain⟨us,e1,e2⟩:=Iz (w:=w) (E:=E) (a:=a) h (done:=[]) (rest:=((Array.range (len*k)).map (z.cells[· % z.cells.size]!)).toList) hf (by simp) (by grind)
     refine⟨us,?_,e2⟩
     have hr:=run_buildSlice (P:=P) w t el len (parts.map λx=>(x.1,a.eval x.2)) us.toArray ie z hu hi hzz (by rw[hsz];omega) (by rw[hsz];simp_all[Nat.ne_of_gt,Nat.mul_pos]) (by
      rw[hsz];have e3:=e1;rw[List.nil_append,List.nil_append,Array.toArray_toList]at e3
      rw[<-e3];simp)
     simp only[execOp,ho];rw[Sem.run_bind];rw[show(parts.map λ(x:Nat×Operand)=>match x with|(i,x)=>(i,a.eval x))=(parts.map λx=>(x.1,a.eval x.2))from rfl,hr];rfl
 obtain⟨us,bD,hc⟩:=key;have hle:es.length=len:=by rw[hl1,hl]
 unfold Oper.wp;rw[bD,Oper.upon_value];have hb:Below w.heap.size w (w.alloc (.cells us.toArray el)):=(Below.refl _ _).alloc (Nat.le_refl _) _;refine⟨_,⟨upd E.v s.n (.slice (some ⟨w.heap.size,0,none⟩) len len),upd E.m s.n [w.heap.size],upd E.o s.n [],λb=>E.A b\/b∈([]:List Nat)⟩,rfl,hb,?_,?_,?_⟩
 ·have:=tY (s:=s) (E:=E) (X:=.arr s.c el k es) (v':=.slice (some ⟨w.heap.size,0,none⟩) len len) (m':=[w.heap.size]) (o':=[]) (F:=λb=>w.heap.size<=b) (by simp) (by simp);exact⟨this.same,this.A,this.A',this.new⟩
 ·refine h.pushOb rfl hb (λb hbm=>?_) (by simp) (by simp) ?_ (λb hb=>by simp at hb;subst hb;exact w0.hfr _ h.bel.size)
  ·simp at hbm;subst hbm;exact⟨by simp,λhA=>by have:=h.A_lt _ hA;omega,λj hj hm=>by have:=h.m_lt j hj _ hm;omega⟩
  ·rintro E' rfl hstay
   have hmx:es.length<=maxLen:=by
    have:len*1<=len*k:=Nat.mul_le_mul_left _ hk;unfold maxLen;omega
   exact⟨w.heap.size,us,by omega,by grind[af],by grind[af],by grind[af],Nat.zero_le _,hmx,mG.new _ _ _,hk,hl2,hc.stay hstay⟩
 ·refine aN ⟨by simp[AS.pushL,AS.push],λ_=>by grind[af]⟩
def U2:List Value->Option (List DV)
 |[]=>some []
 |v::vs=>match v,U2 vs with
  |.bool b,some r=>some (.sc (.bool b)::r)
  |.int k n,some r=>some (.sc (.int k n)::r)
  |.string x,some r=>some (.sc (.string x)::r)
  |.slice none 0 0,some r=>some (.sl 0 1 []::r)
  |_,_=>none
theorem xw{base:Nat}:∀{vs:List Value} {ds:List DV},U2 vs=some ds->aR w base vs ds []
 |[],ds,h=>by simp[U2]at h;cases h;exact .nil
 |v::vs,ds,h=>by
  simp[U2]at h;split at h
  ·cases h;exact .sc trivial (xw (by omega))
  ·cases h;exact .sc trivial (xw (by omega))
  ·cases h;exact .sc trivial (xw (by omega))
  ·cases h;rename_i r hr;have:=aR.sl (w:=w) (base:=base) (v:=.slice none 0 0) (t:=0) (k:=1) (es:=[]) (cells:=[]) (g:=[]) (vs:=vs) (ds:=r) (f:=[]) (World.ownsRow_nil _ _ _ _) (by decide) (by simp) .nil (xw hr) (by grind)
   assumption
  grind
theorem Np{base:Nat}{vs:List Value}{ds:List DV}(h:aR w base vs ds []):∀n:Nat,aR w base (List.replicate n vs).flatten (List.replicate n ds).flatten []
 |0=>.nil
 |n+1=>by
  rw[List.replicate_succ,List.replicate_succ,List.flatten_cons,List.flatten_cons];simpa using h.app (Np h n) (by simp)
def dW(P:Program)(t:TypeId):Option Nat:=(P.info? t).map (·.bytes)
theorem M7{o:Oper}{t el:TypeId}{k n by_:Nat}{x y:Operand}{zs:List Value}{ds:List DV}(ho:o.op=.makeSlice t x y)(hx:s.ev x=mo (.int .i64 n))(hy:s.ev y=mo (.int .i64 n))(ht:dN P t=some (el,k))(hk:0<k)
 (hz:aT P el=some zs) (hzl:zs.length=k) (hd:U2 zs=some ds) (hby:dW P el=some by_) (hn:by_*n<=281474976710656) (h63:n<=maxLen):
 dH P o s (.p false [.own s.n s.c]) [.row s.c el k (List.replicate n ds) true]:=by
 intro w0 N a w E h;obtain⟨hu,hsz⟩:=ka ht;have ex:=aP h x;have ey:=aP h y;rw[hx]at ex;rw[hy]at ey;have ex:=bA ex;have ey:=bA ey;unfold aT at hz;unfold cG at hsz;unfold dW at hby
 cases hi:P.info? el with
 |none=>grind
 |some ie=>
  simp[hi]at hsz hby
  cases hzz:ie.zero with
  |none=>grind
  |some z=>
   simp[hi,hzz]at hz;obtain⟨w',bD,hown,hgr⟩:=run_make_full (P:=P) w w.heap.size t el ie z k hu hi hzz hsz .i64 .i64 n (by rw[hby];exact hn) h63 (Nat.le_refl _);unfold Oper.wp
   have hrun':(execOp a.eval o).run P w=.ok (.value (.slice (some ⟨w.heap.size,0,none⟩) n n)) w':=by
    simp only[execOp,ho,ex,ey];rw[Sem.run_bind,bD];rfl
   rw[hrun',Oper.upon_value];have hb:Below w.heap.size w w':=(Below.refl _ _).grown hgr (Nat.le_refl _) (by simp);have hlt:w.heap.size<w'.heap.size:=(fZ hown rfl).2
   have hdl:ds.length=k:=by
    have:=(xw (w:=w) (base:=0) hd).rep.len;omega
   have hzc:z.cells.size=k:=by rw[<-hzl,<-hz];simp
   have hcells:(madeCells z.cells (n*k)).toList=(List.replicate n zs).flatten:=by
    have:=Cz z.cells n (by omega);rw[hzc]at this;rw[this,hz]
   refine⟨_,⟨upd E.v s.n (.slice (some ⟨w.heap.size,0,none⟩) n n),upd E.m s.n [w.heap.size],upd E.o s.n [],λb=>E.A b\/b∈([]:List Nat)⟩,rfl,hb,?_,?_,?_⟩
   ·have:=tY (s:=s) (E:=E) (X:=.row s.c el k (List.replicate n ds) true) (v':=.slice (some ⟨w.heap.size,0,none⟩) n n) (m':=[w.heap.size]) (o':=[]) (F:=λb=>w.heap.size<=b) (by simp) (by simp);exact⟨this.same,this.A,this.A',this.new⟩
   ·refine h.pushOb rfl hb (λb hbm=>?_) (by simp) (by simp) ?_ (λb hb=>by simp at hb;subst hb;exact w0.hfr _ h.bel.size)
    ·simp at hbm;subst hbm;exact⟨hlt,λhA=>by have:=h.A_lt _ hA;omega,λj hj hm=>by have:=h.m_lt j hj _ hm;omega⟩
    ·rintro E' rfl hstay;refine⟨_,by omega,by simp[af,List.length_replicate];exact oC hown (Nat.zero_le _),hk,λe he=>by rw[List.eq_of_mem_replicate he];omega,by simp[af];rfl,?_⟩;simp_all[if_pos,af,Np,xw]
   ·refine aN ⟨by simp[AS.pushL,AS.push],λ_=>by grind[af]⟩
end
end Go.Proofs.YtliknccmjjncbaaGreat
namespace Go.Proofs.YtliknccmjjncbaaGreat
open Go.RowKit
def eb(P:Program)(N:Nat)(o:Oper)(s s':AS):Prop:=
 ∀w0 a w E,aH w0 N s a w E->o.wp P a w (λa' w'=>∃E',aH w0 N s' a' w' E') (λ_ _ _=>False)
section
variable {P:Program}{w0:Cx}{w w':World}{N:Nat}{s:AS}{a:Act}{E:En}{o:Oper}
theorem dH.toO{x:AV}{news:List Ob}(h:dH P o s x news)(hd:∀k,o.dst=some k->k<N):eb P N o s ((s.pushL news).put o.dst x):=by
 intro w0 a w E hr;refine Oper.wp_mono (λa' w' hp=>?_) (h w0 N a w E hr);obtain⟨v,E',rfl,_,_,h1,h2⟩:=hp;exact⟨E',h1.put h2 hd⟩
theorem mG.setCells{g:Nat}{t:TypeId}:∀{us:List Value} {off:Nat} {w:World} {cs:List Value},mG w g t cs.toArray->mG (w.setCells g off us) g t (tS cs off us).toArray
 |[],off,w,cs,h=>h
 |u::us,off,w,cs,h=>by
  have:=h.set_ off u;rw[List.setIfInBounds_toArray]at this;exact mG.setCells (us:=us) (off:=off+1) this
theorem cj{g:Nat}:∀{us:List Value} {off:Nat} {w:World},(w.setCells g off us).heap.size=w.heap.size/\(∀k,k≠g->(w.setCells g off us).heap[k]? =w.heap[k]?)/\(w.setCells g off us).os=w.os/\(w.setCells g off us).tape=w.tape/\(w.setCells g off us).output=w.output
 |[],off,w=>⟨rfl,λ_ _=>rfl,rfl,rfl,rfl⟩
 |u::us,off,w=>by
  obtain⟨h1,h2,h3,h4,h5⟩:=cj (g:=g) (us:=us) (off:=off+1) (w:=w.setCell ⟨g,off,none⟩ u);exact⟨h1.trans (by simp),λk hk=>(h2 k hk).trans (Below.heap_setCell w ⟨g,off,none⟩ u k (by assumption)),h3.trans rfl,h4.trans rfl,h5.trans rfl⟩
theorem GP.setCells{g off:Nat}{us:List Value}(h:GP w0 w)(hg:w0.fr g):GP w0 (w.setCells g off us):=by
 obtain⟨k1,k2,k3,k4,k5⟩:=cj (g:=g) (us:=us) (off:=off) (w:=w);exact⟨k3.trans h.os,k4.trans h.tape,k5.trans h.output,by rw[k1];exact h.size,λb hb=>(k2 b (λe=>hb (e▸hg))).trans (h.block b hb)⟩
theorem Ao{t:TypeId}{b off:Nat}{v:Value}(hs:cG P t=some v.cells.toList.length)(hc:∀j,j<v.cells.toList.length->(w.cell? ⟨b,off+j,none⟩).isSome=true)(hf:∀j,w.frozen? ⟨b,j,none⟩=false)(h1:∀u∈v.cells.toList,u.oneCell'=true):
 (Instr.storeAt t (.pointer (some ⟨b,off,none⟩)) v).run P w=.ok () (w.setCells b off v.cells.toList):=by
 have:=run_storeCells_cells (P:=P) b off v.cells.toList 0 w (λj hj=>by grind) (λj hj=>hf _) h1;have hs':cG P t=some v.cells.size:=by assumption
 simp[Instr.storeAt,Instr.sureAddr,storeVar,oU P hs',this]
theorem Nq{t t':TypeId}{x y:Operand}{i st off:Nat}{cs xs:List AC}(ho:o.op=.store t x y)(hd:o.dst=none)(hx:s.ev x=.p false [.ptr i st off])(hi:s.own? i st=some (.var st t' cs))(hy:bV s (s.ev y)=some xs)
 (hsz:cG P t=some xs.length) (hl:off+xs.length<=cs.length):eb P N o s {s with ob:=upd s.ob i (.var st t' (plug off xs cs))}:=by
 intro w0 a w E h;obtain⟨hin,hob,hlv⟩:=am hi;have hp:=aP h x;rw[hx]at hp;obtain⟨g,e1,e2⟩:=(aE hp).2 hlv;have hO:=h.obj i hin;rw[hob]at hO;obtain⟨g',vals,hst,e3,em,eo,hge,hB,hcs⟩:=hO;rw[e1]at e3;cases e3;obtain⟨c1,c2⟩:=cZ h hy (aP h y);have hlen:(a.eval y).cells.toList.length=xs.length:=c1.1.symm
 have bD:=Ao (P:=P) (w:=w) (b:=g) (off:=off) (v:=a.eval y) (by rw[hlen];exact hsz) (λj hj=>by
  rw[hB.cell];have:off+j<vals.length:=by rw[<-hcs.1];omega
  grind) (λj=>hB.frozen j) c2
 unfold Oper.wp
 have hrun':(execOp a.eval o).run P w=.ok .skip (w.setCells g off (a.eval y).cells.toList):=by
  simp only[execOp,ho,e2];rw[Sem.run_bind,bD];rfl
 rw[hrun',Oper.upon_skip,hd];obtain⟨k1,k2,k3,k4,k5⟩:=cj (g:=g) (us:=(a.eval y).cells.toList) (off:=off) (w:=w)
 have hch:=h.change (i:=i) (n':=s.n) (X:=.var st t' (plug off xs cs)) (v':=E.v i) (m':=E.m i) (o':=E.o i) (A':=E.A) (c':=s.c) (w':=w.setCells g off (a.eval y).cells.toList) (Nat.le_refl _) (λj hj _=>hj) hin
  (h.bel.setCells (h.mF i hin g (by rw[em];simp))) (by rw[k1];omega) (λk hk hm=>k2 k (λe=>hm hin (by rw[em,e];simp))) (Nat.le_refl _) (.inl ⟨hin,by rw[hob];rfl,rfl⟩) (λ_ hb=>hb) (λ_ hb=>.inl hb)
  (λb hb=>⟨by rw[k1];exact h.A_lt b hb,h.A_m b hb i hin,λj hj _=>h.A_m b hb j hj⟩) (λb hb=>⟨by rw[k1];exact h.m_lt i hin b hb,λj hj hne=>h.mm i j hin hj (Ne.symm hne) b hb⟩)
  (λb hb=>⟨h.A_o i hin b hb,λj hj hne=>h.oo i j hin hj (Ne.symm hne) b hb⟩) (by
   rintro s' rfl E' rfl hstay;refine⟨g,plug off (a.eval y).cells.toList vals,hst,by grind[af],by grind[af],by grind[af],hge,?_,(rL (off:=off) c1 hcs).stay hstay⟩;have:=hB.setCells (us:=(a.eval y).cells.toList) (off:=off)
   rwa [jS _ _ _ (by rw[hlen,<-hcs.1];exact hl)]at this) (h.mF i hin) (h.oF i hin)
 exact⟨_,hch⟩
theorem UM{t t':TypeId}{x y:Operand}{i st off:Nat}{cs xs:List AC}(ho:o.op=.store t x y)(hd:o.dst=none)(hx:s.ev x=.p false [.ptr i st off])(hi:s.own? i st=some (.pvr st t' cs))(hy:bV s (s.ev y)=some xs)
 (hsz:cG P t=some xs.length) (hl:off+xs.length<=cs.length):eb P N o s {s with ob:=upd s.ob i (.pvr st t' (plug off xs cs))}:=by
 intro w0 a w E h;obtain⟨hin,hob,hlv⟩:=am hi;have hp:=aP h x;rw[hx]at hp;obtain⟨g,e1,e2⟩:=(aE hp).2 hlv;have hO:=h.obj i hin;rw[hob]at hO;obtain⟨g',vals,hst,e3,em,eo,hB,hcs,hcu⟩:=hO;rw[e1]at e3;cases e3;obtain⟨c1,c2⟩:=cZ h hy (aP h y);have hlen:(a.eval y).cells.toList.length=xs.length:=c1.1.symm
 have bD:=Ao (P:=P) (w:=w) (b:=g) (off:=off) (v:=a.eval y) (by rw[hlen];exact hsz) (λj hj=>by
  rw[hB.cell];have:off+j<vals.length:=by rw[<-hcs.1];omega
  grind) (λj=>hB.frozen j) c2
 unfold Oper.wp
 have hrun':(execOp a.eval o).run P w=.ok .skip (w.setCells g off (a.eval y).cells.toList):=by
  simp only[execOp,ho,e2];rw[Sem.run_bind,bD];rfl
 rw[hrun',Oper.upon_skip,hd];obtain⟨k1,k2,k3,k4,k5⟩:=cj (g:=g) (us:=(a.eval y).cells.toList) (off:=off) (w:=w)
 have hch:=h.change (i:=i) (n':=s.n) (X:=.pvr st t' (plug off xs cs)) (v':=E.v i) (m':=E.m i) (o':=E.o i) (A':=E.A) (c':=s.c) (w':=w.setCells g off (a.eval y).cells.toList) (Nat.le_refl _) (λj hj _=>hj) hin
  (h.bel.setCells (h.mF i hin g (by rw[em];simp))) (by rw[k1];omega) (λk hk hm=>k2 k (λe=>hm hin (by rw[em,e];simp))) (Nat.le_refl _) (.inl ⟨hin,by rw[hob];rfl,rfl⟩) (λ_ hb=>hb) (λ_ hb=>.inl hb)
  (λb hb=>⟨by rw[k1];exact h.A_lt b hb,h.A_m b hb i hin,λj hj _=>h.A_m b hb j hj⟩) (λb hb=>⟨by rw[k1];exact h.m_lt i hin b hb,λj hj hne=>h.mm i j hin hj (Ne.symm hne) b hb⟩)
  (λb hb=>⟨h.A_o i hin b hb,λj hj hne=>h.oo i j hin hj (Ne.symm hne) b hb⟩) (by
   rintro s' rfl E' rfl hstay;refine⟨g,plug off (a.eval y).cells.toList vals,hst,by grind[af],by grind[af],by grind[af],?_,(rL (off:=off) c1 hcs).stay hstay,hcu⟩;have:=hB.setCells (us:=(a.eval y).cells.toList) (off:=off)
   rwa [jS _ _ _ (by rw[hlen,<-hcs.1];exact hl)]at this) (h.mF i hin) (h.oF i hin)
 exact⟨_,hch⟩
theorem Vm{t t':TypeId}{x y:Operand}{i st off:Nat}{id:Bool}{z:DV}{cs:List DV}{v:Value}(ho:o.op=.store t x y)(hd:o.dst=none)(hx:s.ev x=.p false [.ptr i st (off+1)])(hi:s.own? i st=some (.cur st id t' z cs))(hy:s.ev y=.p false [.d (.sc v)])
 (hsz:cG P t=some 1) (hl:off<cs.length):eb P N o s {s with ob:=upd s.ob i (.cur st id t' z (cs.set off (.sc v)))}:=by
 intro w0 a w E h;obtain⟨hin,hob,hlv⟩:=am hi;have hp:=aP h x;rw[hx]at hp;obtain⟨g,e1,e2⟩:=(aE hp).2 hlv;have hO:=h.obj i hin;rw[hob]at hO;obtain⟨g',u,hst,e3,em,eo,hid,vals,hB,hz,hcs,hfl⟩:=hO;rw[e1]at e3;cases e3;have hyv:=aP h y;rw[hy]at hyv;have hv:=bA hyv;have hvs:Sc v:=(aL.scOf (aE hyv)).2;have hcv:(a.eval y).cells.toList=[v]:=by rw[hv];cases v<;>first|rfl|exact hvs.elim
 have hlen:vals.length=cs.length:=hcs.len
 have bD:=Ao (P:=P) (w:=w) (b:=g) (off:=off+1) (v:=a.eval y) (by rw[hcv];exact hsz) (λj hj=>by
  rw[hcv]at hj;have:j=0:=by grind
  subst this;rw[hB.cell]
  grind) (λj=>hB.frozen j) (by rw[hcv];intro q hq;rw[List.mem_singleton.1 hq];cases v<;>first|rfl|exact hvs.elim)
 unfold Oper.wp
 have hrun':(execOp a.eval o).run P w=.ok .skip (w.setCells g (off+1) (a.eval y).cells.toList):=by
  simp only[execOp,ho,e2];rw[Sem.run_bind,bD];rfl
 rw[hrun',Oper.upon_skip,hd,hcv];obtain⟨k1,k2,k3,k4,k5⟩:=cj (g:=g) (us:=[v]) (off:=off+1) (w:=w)
 have hch:=h.change (i:=i) (n':=s.n) (X:=.cur st id t' z (cs.set off (.sc v))) (v':=E.v i) (m':=E.m i) (o':=E.o i) (A':=E.A) (c':=s.c) (w':=w.setCells g (off+1) [v]) (Nat.le_refl _) (λj hj _=>hj) hin
  (h.bel.setCells (h.mF i hin g (by rw[em];simp))) (by rw[k1];omega) (λk hk hm=>k2 k (λe=>hm hin (by rw[em,e];simp))) (Nat.le_refl _) (.inl ⟨hin,by rw[hob];rfl,rfl⟩) (λ_ hb=>hb) (λ_ hb=>.inl hb)
  (λb hb=>⟨by rw[k1];exact h.A_lt b hb,h.A_m b hb i hin,λj hj _=>h.A_m b hb j hj⟩) (λb hb=>⟨by rw[k1];exact h.m_lt i hin b hb,λj hj hne=>h.mm i j hin hj (Ne.symm hne) b hb⟩)
  (λb hb=>⟨h.A_o i hin b hb,λj hj hne=>h.oo i j hin hj (Ne.symm hne) b hb⟩) (by
   rintro s' rfl E' rfl hstay;have hAk:∀b,E.A b->(w.setCells g (off+1) [v]).heap[b]? =w.heap[b]?:=λb hb=>k2 b (λe=>h.A_m b hb i hin (by rw[em,e];simp))
   refine⟨g,u,hst,by grind[af],by grind[af],by grind[af],hid,vals.set off v,?_,hz.keep hAk,(hcs.keep hAk).set (.sc hvs .nil),?_⟩
   ·have:=hB.setCells (us:=[v]) (off:=off+1)
    assumption
   ·intro d hdm;rcases List.mem_or_eq_of_mem_set hdm with h1|h1
    ·exact hfl d h1
    grind) (h.mF i hin) (h.oF i hin)
 exact⟨_,hch⟩
structure FU(w0:Cx)(N:Nat)(s s':AS)(a:Act)(w:World)(E:En)(us:List Value)(ds:List DV)(E':En)(f:List Nat):Prop where
 rep:aH w0 N s' a w E'
 own:aR w 0 us ds f
 A:∀b∈f,E'.A b
 o:∀b∈f,∀j,j<s'.n->b∉E'.o j
 from_:∀b∈f,∃j,j<s.n/\(b∈E.m j\/b∈E.o j)
 v:E'.v=E.v
 m':∀i,∀b∈E'.m i,b∈E.m i
 o':∀i,∀b∈E'.o i,b∈E.o i
 A':∀b,E.A b->E'.A b
structure XK(w0:Cx)(N:Nat)(s s':AS)(a:Act)(w:World)(E:En)(us:List Value)(ds:List DV)(E':En)(f:List Nat):Prop extends FU w0 N s s' a w E us ds E' f where
 top:∀u∈us,∀b∈u.ownBlock.toList,∃j,j<s.n/\b∈E.m j
theorem FU.fr{s s':AS}{E E':En}{us:List Value}{ds:List DV}{f:List Nat}(g:FU w0 N s s' a w E us ds E' f)(h:aH w0 N s a w E):∀b∈f,w0.ow b:=λb hb=>by
 obtain⟨j,hj,h1⟩:=g.from_ b hb;exact h1.elim (λh2=>w0.how _ (h.mF j hj b h2)) (h.oF j hj b)
def eT(s s':AS)(xs:List AC)(ds:List DV):Prop:=
 s'.n=s.n/\s'.c=s.c/\s'.sl=s.sl/\(∀i st,s'.lv i=some st->s.lv i=some st)/\
  ∀w0 N a w E us,aH w0 N s a w E->aD w E s.lv s.c xs us->∃E' f,XK w0 N s s' a w E us ds E' f
theorem cC:eT s s [] []:=
 ⟨rfl,rfl,rfl,λ_ _ h=>h,λw0 N a w E us h hc=>⟨E,[],⟨h,by rw[hc.nil'];exact .nil,by simp,by simp,by simp,rfl,λ_ _ h=>h,λ_ _ h=>h,λ_ h=>h⟩,by rw[hc.nil'];simp⟩⟩
theorem dh{s':AS}{v:Value}{xs:List AC}{ds:List DV}(h:eT s s' xs ds):eT s s' (.d (.sc v)::xs) (.sc v::ds):=by
 obtain⟨h1,h2,h3,h4,h5⟩:=h;refine⟨h1,h2,h3,h4,λw0 N a w E us hr hc=>?_⟩;obtain⟨u,us,rfl,c1,c2⟩:=hc.cons';obtain⟨E',f,hg⟩:=h5 w0 N a w E us hr c2;obtain⟨rfl,hs⟩:=aL.scOf c1;refine⟨E',f,⟨hg.rep,.sc hs hg.own,hg.A,hg.o,hg.from_,hg.v,hg.m',hg.o',hg.A'⟩,λx hx b hb=>?_⟩;rcases List.mem_cons.1 hx with rfl|hx
 ·cases x<;>simp[Sc,Value.ownBlock]at hs hb
 ·exact hg.top x hx b hb
theorem co{s':AS}{t k:Nat}{xs:List AC}{ds:List DV}(hk:0<k)(h:eT s s' xs ds):eT s s' (.nil::xs) (.sl t k []::ds):=by
 obtain⟨h1,h2,h3,h4,h5⟩:=h;refine⟨h1,h2,h3,h4,λw0 N a w E us hr hc=>?_⟩;obtain⟨u,us,rfl,c1,c2⟩:=hc.cons';obtain⟨E',f,hg⟩:=h5 w0 N a w E us hr c2;obtain rfl:u=.slice none 0 0:=c1
 refine⟨E',f,⟨hg.rep,?_,hg.A,hg.o,hg.from_,hg.v,hg.m',hg.o',hg.A'⟩,λx hx b hb=>(by
  rcases List.mem_cons.1 hx with rfl|hx
  ·simp[Value.ownBlock]at hb
  ·exact hg.top x hx b hb)⟩
 have:=aR.sl (v:=.slice none 0 0) (t:=t) (k:=k) (es:=[]) (cells:=[]) (g:=[]) (World.ownsRow_nil _ _ _ _) hk (by simp) .nil hg.own (by simpa[Value.ownBlock]using hg.own.nodup)
 assumption
def AS.frz(s:AS)(i st:Nat)(x:DV):AS:={s with ob:=upd s.ob i (.frz st x)}
theorem Hi(h:aH w0 N s a w E){i st:Nat}{X:Ob}{d:DV}(hi:s.own? i st=some X)(hown:aR w 0 [E.v i] [d] (E.m i++E.o i))(hst:st<s.c)(hXs:X.st=some st):
 ∃E',aH w0 N (s.frz i st d) a w E'/\(∀b∈E.m i++E.o i,E'.A b/\∀j,j<s.n->b∉E'.o j)/\E'.v=E.v/\
  (∀j,∀b∈E'.m j,b∈E.m j)/\(∀j,∀b∈E'.o j,b∈E.o j)/\(∀b,E.A b->E'.A b):=by
 obtain⟨hin,hob,hlv⟩:=am hi;refine⟨⟨upd E.v i (E.v i),upd E.m i [],upd E.o i [],λb=>E.A b\/b∈E.m i⟩,?_,?_,?_,?_,?_,λb hb=>.inl hb⟩
 ·refine h.change (i:=i) (n':=s.n) (X:=.frz st d) (v':=E.v i) (m':=[]) (o':=[]) (A':=λb=>E.A b\/b∈E.m i) (c':=s.c) (Nat.le_refl _) (λj hj _=>hj) hin
   h.bel (Nat.le_refl _) (λ_ _ _=>rfl) (Nat.le_refl _) (.inl ⟨hin,by rw[hob,hXs];rfl,rfl⟩) (λ_ hb=>.inl hb) (λb hb=>hb.imp id λhb=>.inr (h.mF i hin b hb)) ?_ (by simp) (by simp) ?_
  ·intro b hb;rcases hb with hb|hb
   ·exact⟨h.A_lt b hb,by simp,λj hj _=>h.A_m b hb j hj⟩
   ·exact⟨h.m_lt i hin b hb,by simp,λj hj hne=>h.mm i j hin hj (Ne.symm hne) b hb⟩
  ·rintro s' rfl E' rfl hstay;refine⟨hst,by grind[af],by grind[af],?_⟩;simp[af];refine hown.rep.mono λb hb=>?_
   rcases List.mem_append.1 hb with hb|hb
   ·grind
   ·exact .inl (h.A_o i hin b hb)
 ·intro b hb;rcases List.mem_append.1 hb with hb|hb
  ·refine⟨.inr hb,λj hj hbo=>?_⟩;by_cases e:j=i
   ·grind[af]
   ·simp[aJ _ _ e]at hbo;exact h.A_m b (h.A_o j hj b hbo) i hin hb
  ·refine⟨.inl (h.A_o i hin b hb),λj hj hbo=>?_⟩;by_cases e:j=i
   ·grind[af]
   ·simp[aJ _ _ e]at hbo;exact h.oo j i hj hin e b hbo hb
 ·funext j;grind[af,aJ]
 ·grind[af,aJ]
 grind[af,aJ]
theorem Tm{i st:Nat}{X:Ob}{d:DV}(hi:s.own? i st=some X):(s.frz i st d).lv=s.lv:=by
 obtain⟨hin,hob,hlv⟩:=am hi;unfold AS.lv at hlv;rw[if_pos hin]at hlv;funext j;unfold AS.lv AS.frz;by_cases e:j=i
 ·subst e;simp[af,hlv];rfl
 grind[aJ]
def Hv(s:AS)(i st:Nat)(d:DV):Prop:=∀w0 N a w E,aH w0 N s a w E->aR w 0 [E.v i] [d] (E.m i++E.o i)/\st<s.c/\∀b∈(E.v i).ownBlock.toList,b∈E.m i
theorem FP{s':AS}{i st:Nat}{X:Ob}{d:DV}{xs:List AC}{ds:List DV}(hi:s.own? i st=some X)(hXs:X.st=some st)(hd:Hv s i st d)(h:eT (s.frz i st d) s' xs ds):eT s s' (.own i st::xs) (d::ds):=by
 obtain⟨h1,h2,h3,h4,h5⟩:=h;have hlv:=Tm (d:=d) hi;rw[hlv]at h4;refine⟨h1,h2,h3,h4,λw0 N a w E us hr hc=>?_⟩;obtain⟨u,us,rfl,c1,c2⟩:=hc.cons';have hu:u=E.v i:=c1.2 (am hi).2.2;subst hu;obtain⟨k2,hst,htp⟩:=hd w0 N a w E hr;obtain⟨E1,k1,k3,k4,k5,k6,k7⟩:=Hi hr hi k2 hst hXs
 have c2':aD w E1 (s.frz i st d).lv (s.frz i st d).c xs us:=by
  rw[hlv];exact c2.stay ⟨λb hb=>⟨k7 b hb,rfl⟩,λj st _ hl=>⟨hl,by rw[k4]⟩,Nat.le_refl _⟩
 obtain⟨E2,f,hg⟩:=h5 w0 N a w E1 us k1 c2';refine⟨E2,(E.m i++E.o i)++f,⟨hg.rep,k2.app hg.own (λb hb hbf=>?_),?_,?_,?_,by rw[hg.v,k4],λj b hb=>k5 j b (hg.m' j b hb),λj b hb=>k6 j b (hg.o' j b hb),λb hb=>hg.A' b (k7 b hb)⟩,λx hx b hb=>?_⟩
 ·obtain⟨j,hj,hbj⟩:=hg.from_ b hbf;rcases hbj with hbj|hbj
  ·exact k1.A_m b (k3 b hb).1 j hj hbj
  ·exact(k3 b hb).2 j hj hbj
 ·intro b hb;rcases List.mem_append.1 hb with hb|hb
  ·exact hg.A' b (k3 b hb).1
  ·exact hg.A b hb
 ·intro b hb j hj hbo;rcases List.mem_append.1 hb with hb|hb
  ·exact(k3 b hb).2 j (by rw[h1]at hj;exact hj) (hg.o' j b hbo)
  ·exact hg.o b hb j hj hbo
 ·intro b hb;rcases List.mem_append.1 hb with hb|hb
  ·grind[am]
  ·obtain⟨j,hj,hbj⟩:=hg.from_ b hb;exact⟨j,hj,hbj.imp (k5 j b) (k6 j b)⟩
 ·rcases List.mem_cons.1 hx with rfl|hx
  ·exact⟨i,(am hi).1,htp b hb⟩
  ·obtain⟨j,hj,hbj⟩:=hg.top x hx b hb;exact⟨j,hj,k5 j b hbj⟩
theorem aR.top{w:World}{base:Nat}{u:Value}{d:DV}{f:List Nat}(h:aR w base [u] [d] f):∀b∈u.ownBlock.toList,b∈f:=by
 cases h with
 |sc h1 _=>intro b hb;cases u<;>simp[Sc,Value.ownBlock]at h1 hb
 |sl=>grind
theorem Nh{i st t k:Nat}{es:List (List DV)}(hi:s.own? i st=some (.row st t k es true)):Hv s i st (.sl t k es):=by
 intro w0 N a w E h;obtain⟨hin,hob,hlv⟩:=am hi;have hO:=h.obj i hin;rw[hob]at hO;obtain⟨cells,hst,h1,h2,h3,h4,h5⟩:=hO;simp[if_pos]at h5;refine⟨?_,hst,λb hb=>by rw[h4];exact hb⟩
 have:=aR.sl (vs:=[]) (ds:=[]) (f:=[]) h1 h2 h3 h5 .nil (by
  rw[List.append_nil,<-h4];refine List.nodup_append.2 ⟨?_,h5.nodup,λb hb b' hb' e=>?_⟩
  ·rw[h4];cases (E.v i).ownBlock<;>simp
  ·subst e;exact h.A_m b (h.A_o i hin b hb') i hin hb)
 rwa [List.append_nil,<-h4]at this
theorem QO{i st:Nat}{d:DV}(hi:s.own? i st=some (.dx st d)):Hv s i st d:=by
 intro w0 N a w E h;obtain⟨hin,hob,hlv⟩:=am hi;have hO:=h.obj i hin;rw[hob]at hO;obtain⟨hst,ho,h1⟩:=hO;rw[ho,List.append_nil];exact⟨h1,hst,h1.top⟩
theorem cK{s':AS}{i st t k:Nat}{es:List (List DV)}{xs:List AC}{ds:List DV}(hi:s.own? i st=some (.row st t k es true))(h:eT (s.frz i st (.sl t k es)) s' xs ds):eT s s' (.own i st::xs) (.sl t k es::ds):=
 FP hi rfl (Nh hi) h
theorem eT.ofFlat{xs:List AC}{ds:List DV}(h:xs=ds.map .d)(hf:pz ds):eT s s xs ds:=by
 subst h
 induction ds with
 |nil=>exact cC
 |cons d ds ih=>
  obtain⟨v,rfl⟩:=hf d (List.mem_cons_self ..);exact dh (ih λd hd=>hf d (List.mem_cons_of_mem _ hd))
theorem Dy{α:Type}{es:List (List α)}{k j off:Nat}{e ds:List α}(hk:∀e∈es,e.length=k)(he:es[j]? =some e)(hl:off+ds.length<=k):(es.set j (plug off ds e)).flatten=plug (j*k+off) ds es.flatten:=by
 induction es generalizing j with
 |nil=>grind
 |cons x es ih=>
  have hx:=hk x (List.mem_cons_self ..)
  cases j with
  |zero=>
   simp at he;subst he;simp only[List.set_cons_zero,List.flatten_cons,Nat.zero_mul,Nat.zero_add,plug];rw[List.take_append_of_le_length (by omega),List.drop_append_of_le_length (by omega)]
   simp
  |succ j=>
   rw[List.set_cons_succ,List.flatten_cons,ih (λe he=>hk e (List.mem_cons_of_mem _ he)) (by assumption),List.flatten_cons];unfold plug;rw[Nat.succ_mul,show j*k+k+off=x.length+(j*k+off)from by omega,List.take_length_add_append,Nat.add_assoc x.length,List.drop_length_add_append];simp
theorem NM{t t':TypeId}{x y:Operand}{i st k j off:Nat}{es:List (List DV)}{e ds:List DV}{xs:List AC}{s':AS}(ho:o.op=.store t x y)(hd:o.dst=none)(hx:s.ev x=.p false [.elt i st k j off])
 (hi:s.own? i st=some (.row st t' k es true)) (he:es[j]? =some e) (hy:bV s (s.ev y)=some xs) (hsz:cG P t=some xs.length) (hl:off+xs.length<=k) (hgv:eT s s' xs ds) (hi':s'.own? i st=some (.row st t' k es true)):
 eb P N o s {s' with ob:=upd s'.ob i (.row st t' k (es.set j (plug off ds e)) true)}:=by
 intro w0 a w E h0;have hp:=aP h0 x;rw[hx]at hp;obtain⟨g,n,cp,e1,e2⟩:=(aE hp).2 (am hi).2.2;obtain⟨c1,c2⟩:=cZ h0 hy (aP h0 y);obtain⟨hn,hcc,_,_,hgv⟩:=hgv;obtain⟨E1,f,hg⟩:=hgv w0 N a w E _ h0 c1;have h:=hg.rep;obtain⟨hin,hob,hlv⟩:=am hi';have hO:=h.obj i hin;rw[hob]at hO;obtain⟨cells,hst,h1,h2,h3,h4,h5⟩:=hO;simp[if_pos]at h5;have hEv:E1.v i=.slice (some ⟨g,0,none⟩) n cp:=by rw[hg.v];exact e1
 obtain⟨A',c',hv',_,_⟩:=ba h1;rw[hEv]at hv';injection hv' with _ hnn _;subst hnn;rw[hEv]at h1 h4;simp[Value.ownBlock,Option.toList_some]at h4;have hlen:(a.eval y).cells.toList.length=xs.length:=c1.1.symm;have hdl:ds.length=xs.length:=by have:=hg.own.rep.len;omega
 have hj:j<es.length:=(List.getElem?_eq_some_iff.1 he).1;have hcl:cells.length=es.length*k:=h1.1;have hjk:(j+1)*k<=es.length*k:=Nat.mul_le_mul_right _ hj;rw[Nat.succ_mul]at hjk
 have bD:=Ao (P:=P) (w:=w) (b:=g) (off:=j*k+off) (v:=a.eval y) (by rw[hlen];exact hsz) (λq hq=>by
  have:=h1.cellAt (j*k+off+q) (by omega)
  rw[this,List.getElem?_eq_getElem (by omega)];rfl) (λq=>h1.frozenAt q) c2
 unfold Oper.wp
 have hrun':(execOp a.eval o).run P w=.ok .skip (w.setCells g (j*k+off) (a.eval y).cells.toList):=by
  simp only[execOp,ho,e2];rw[Sem.run_bind,bD];rfl
 rw[hrun',Oper.upon_skip,hd];obtain⟨k1,k2,k3,k4,k5⟩:=cj (g:=g) (us:=(a.eval y).cells.toList) (off:=j*k+off) (w:=w);have hge:w0.fr g:=h.mF i hin g (by rw[h4];simp);obtain⟨p1,p2⟩:=nh (a.eval y).cells.toList w cells (j*k+off) h1;rw[jS _ _ _ (by omega)]at p1;obtain⟨f1,f2,hf12,q1,q2⟩:=h5.split (j*k+off);obtain⟨f3,f4,hf34,q3,q4⟩:=q2.split (xs.length);have hsub4:∀b∈f4,b∈E1.o i:=by grind
 have hsub1:∀b∈f1,b∈E1.o i:=by grind
 have hfo:∀b∈f,b∉E1.o i:=λb hb=>hg.o b hb i hin
 have hnd:(E1.o i).Nodup:=h5.nodup
 have hnew:aR w 0 (cells.take (j*k+off)++(a.eval y).cells.toList++cells.drop (j*k+off+(a.eval y).cells.toList.length)) ((es.set j (plug off ds e)).flatten) (f1++f++f4):=by
  rw[Dy h3 he (by omega)];unfold plug;rw[List.drop_drop]at q4;refine((q1.app hg.own (λb hb hbf=>hfo b hbf (hsub1 b hb))).app ?_ (λb hb hb4=>?_))
  ·rw[hlen,hdl];rw[List.drop_drop]at q4;exact q4
  grind
 have hch:=h.change (i:=i) (n':=s'.n) (X:=.row st t' k (es.set j (plug off ds e)) true) (v':=E1.v i) (m':=E1.m i) (o':=f1++f++f4) (A':=E1.A) (c':=s'.c) (w':=w.setCells g (j*k+off) (a.eval y).cells.toList) (Nat.le_refl _) (λj hj _=>hj) hin
  (h.bel.setCells hge) (by rw[k1];omega) (λq hk hm=>k2 q (λe=>hm hin (by rw[h4,e];simp))) (Nat.le_refl _) (.inl ⟨hin,by rw[hob];rfl,rfl⟩) (λ_ hb=>hb) (λ_ hb=>.inl hb)
  (λb hb=>⟨by rw[k1];exact h.A_lt b hb,h.A_m b hb i hin,λj hj _=>h.A_m b hb j hj⟩) (λb hb=>⟨by rw[k1];exact h.m_lt i hin b hb,λj hj hne=>h.mm i j hin hj (Ne.symm hne) b hb⟩)
  (λb hb=>by
   simp only[List.mem_append]at hb;rcases hb with(hb|hb)|hb
   ·exact⟨h.A_o i hin b (hsub1 b hb),λj hj hne=>h.oo i j hin hj (Ne.symm hne) b (hsub1 b hb)⟩
   ·exact⟨hg.A b hb,λj hj _=>hg.o b hb j hj⟩
   ·exact⟨h.A_o i hin b (hsub4 b hb),λj hj hne=>h.oo i j hin hj (Ne.symm hne) b (hsub4 b hb)⟩) (by
   rintro s'' rfl E' rfl hstay;refine⟨_,hst,by simp[af,List.length_set,hEv];exact p1,h2,λe' he'=>?_,by simp[af,hEv];exact h4,?_⟩
   ·grind[AY]
   ·simp only[if_pos,af];refine hnew.keep λb hb=>k2 b λe=>?_
    have hA:E1.A b:=by
     simp only[List.mem_append]at hb;rcases hb with(hb|hb)|hb
     ·exact h.A_o i hin b (hsub1 b hb)
     ·exact hg.A b hb
     ·exact h.A_o i hin b (hsub4 b hb)
    exact h.A_m b hA i hin (by rw[h4,e];simp)) (h.mF i hin) (λb hb=>by
   simp only[List.mem_append]at hb;rcases hb with(hb|hb)|hb
   ·exact h.oF i hin b (hsub1 b hb)
   ·exact hg.fr h0 b hb
   ·exact h.oF i hin b (hsub4 b hb))
 exact⟨_,hch⟩
end
end Go.Proofs.YtliknccmjjncbaaGreat
namespace Go.Proofs.YtliknccmjjncbaaGreat
open Go.RowKit
section
variable {P:Program}{w0:Cx}{w w':World}{N:Nat}{s:AS}{a:Act}{E:En}{o:Oper}
structure XJ(w0:Cx)(N:Nat)(s s':AS)(a:Act)(w:World)(E:En)(k:Nat)(v:Value)(news:List (List DV))(E':En)(f:List Nat):Prop where
 lies:∃(A:Option Addr) (cp:Nat) (us:List Value) (S:Nat->Prop),v=.slice A news.length cp/\Rd w S k A news.length cp us/\FU w0 N s s' a w E us news.flatten E' f
 uni:∀e∈news,e.length=k
def VL(s s':AS)(k:Nat)(c:AC)(news:List (List DV)):Prop:=
 s'.n=s.n/\s'.c=s.c/\s'.sl=s.sl/\(∀i st,s'.lv i=some st->s.lv i=some st)/\
  ∀w0 N a w E v,aH w0 N s a w E->dw w E s.lv s.c c v->∃E' f,XJ w0 N s s' a w E k v news E' f
theorem G9(h:aH w0 N s a w E){us:List Value}{ds:List DV}(ho:aR w 0 us ds []):FU w0 N s s a w E us ds E []:=
 ⟨h,ho,by simp,by simp,by simp,rfl,λ_ _ h=>h,λ_ _ h=>h,λ_ h=>h⟩
theorem xZ{A:Nat->Prop}{v:Value}{t k:Nat}{es:List (List DV)}(h:aL w A [v] [.sl t k es]):∃Ad cp us,v=.slice Ad es.length cp/\Rd w A k Ad es.length cp us/\aL w A us es.flatten/\∀e∈es,e.length=k:=by
 generalize hd:DV.sl t k es=d at h;generalize hv:[v]=vs at h;generalize hx:[d]=ds at h
 cases h with
 |nil=>cases hv
 |sc=>grind
 |@sl0 a c t' k' _ _ h1 _=>
  subst hd;simp at hx hv;obtain⟨⟨rfl,rfl,rfl⟩,_⟩:=hx;obtain⟨rfl,_⟩:=hv
  exact⟨a,c,[],rfl,⟨by simp,Nat.zero_le _,h1,λh=>absurd h (by simp)⟩,.nil,by simp⟩
 |@sl b off n c t' k' es' cells _ _ h1 h2 h3 h4 h5 h6 h7 h8 h9 _=>
  subst hd;simp at hx hv;obtain⟨⟨rfl,rfl,rfl⟩,_⟩:=hx;obtain⟨rfl,_⟩:=hv;subst h2;refine⟨_,c,cells,rfl,⟨by rw[h8.len,cO h7],h4,h5,λ_=>⟨_,rfl,h1,λj u hu=>?_⟩⟩,h8,h7⟩;have hadd:(⟨b,off,none⟩:Addr).add j=⟨b,off+j,none⟩:=by unfold Addr.add;split<;>simp_all
  rw[hadd];exact h9 j u hu
theorem lI{t k:Nat}{c:AC}{es:List (List DV)}(hr:CP s c (.sl t k es))(hf:pz es.flatten):VL s s k c es:=by
 refine⟨rfl,rfl,rfl,λ_ _ h=>h,λw0 N a w E v h hc=>?_⟩;obtain⟨A,cp,us,e1,e2,e3,e4⟩:=xZ (BD h hc hr);exact⟨E,[],⟨A,cp,us,_,e1,e2,G9 h (aR.flat e3 hf)⟩,e4⟩
def AS.kill(s:AS)(j:Nat):AS:={s with ob:=upd s.ob j .dead}
theorem uK{j:Nat}:∀i st,(s.kill j).lv i=some st->s.lv i=some st:=by
 intro i st h;unfold AS.lv AS.kill at h
 grind[AS.lv,af,Ob.st,aJ]
theorem JK(h:aH w0 N s a w E){j:Nat}(hj:j<s.n):aH w0 N (s.kill j) a w ⟨upd E.v j (E.v j),upd E.m j [],upd E.o j [],E.A⟩:=
 h.change (i:=j) (n':=s.n) (X:=.dead) (v':=E.v j) (m':=[]) (o':=[]) (A':=E.A) (c':=s.c) (Nat.le_refl _) (λj hj _=>hj) hj h.bel (Nat.le_refl _) (λ_ _ _=>rfl) (Nat.le_refl _) (.inr λst he=>by cases he) (λ_ hb=>hb) (λ_ hb=>.inl hb)
  (λb hb=>⟨h.A_lt b hb,by simp,λi hi _=>h.A_m b hb i hi⟩) (by simp) (by simp) (λ_ _ _ _ _=>trivial)
theorem Pv{j st t k:Nat}{es:List (List DV)}(hj:s.own? j st=some (.row st t k es true)):VL s (s.kill j) k (.own j st) es:=by
 obtain⟨hin,hob,hlv⟩:=am hj;refine⟨rfl,rfl,rfl,uK,λw0 N a w E v h hc=>?_⟩;have hv:v=E.v j:=hc.2 hlv;subst hv;have hO:=h.obj j hin;rw[hob]at hO;obtain⟨cells,hst,h1,h2,h3,h4,h5⟩:=hO;simp[if_pos]at h5
 have hrd:∃A cp,E.v j=.slice A es.length cp/\Rd w (λ_=>True) k A es.length cp cells:=by
  obtain⟨A,cp,e1,_,_⟩:=ba h1;rw[e1]at h1;exact⟨A,cp,e1,(Rd.of_own h1).mono λ_ _=>trivial⟩
 obtain⟨A,cp,e1,e2⟩:=hrd;refine⟨⟨upd E.v j (E.v j),upd E.m j [],upd E.o j [],E.A⟩,E.o j,⟨A,cp,cells,_,e1,e2,JK h hin,h5,h.A_o j hin,?_,λb hb=>⟨j,hin,.inr hb⟩,?_,?_,?_,λ_ h=>h⟩,h3⟩
 ·intro b hb i hi hbo;by_cases e:i=j
  ·grind[af]
  ·simp[aJ _ _ e]at hbo;exact h.oo i j hi hin e b hbo hb
 ·funext i;grind[af,aJ]
 ·grind[af,aJ]
 grind[af,aJ]
theorem AH(h0:aH w0 N s a w E){s':AS}{X Y:Operand}{t el:TypeId}{k i st by_:Nat}{es news:List (List DV)}{zs:List Value}{f:List Nat}{E1:En}
 (ho:o.op=.call ⟨.builtin .append,#[X,Y],#[t,t]⟩) (hd:∀q,o.dst=some q->q<N) (ht:dN P t=some (el,k)) (hz:aT P el=some zs) (hzl:zs.length=k) (hby:dW P el=some by_)
 (hi':s'.own? i st=some (.row st el k es true)) (hX:a.eval X=E.v i) (hsrc:XJ w0 N s s' a w E k (a.eval Y) news E1 f)
 (h63:es.length+news.length<=maxLen) (hbytes:(es.length+news.length)*by_<=140737488355328):
 o.wp P a w (λa' w'=>∃E',aH w0 N ({s' with ob:=upd s'.ob i (.row s'.c el k (es++news) true),c:=s'.c+1}.put o.dst (.p false [.own i s'.c])) a' w' E') (λ_ _ _=>False):=by
 obtain⟨⟨A,cp,us,S,eY,hrd,hg⟩,hun⟩:=hsrc;have h:=hg.rep;obtain⟨hin,hob,hlv⟩:=am hi';have hO:=h.obj i hin;rw[hob]at hO;obtain⟨cells,hst,h1,h2,h3,h4,h5⟩:=hO;simp[if_pos]at h5;obtain⟨hu,hsz⟩:=ka ht;unfold aT at hz;unfold cG at hsz;unfold dW at hby
 cases hi:P.info? el with
 |none=>grind
 |some ie=>
  simp[hi]at hsz hby
  cases hzz:ie.zero with
  |none=>grind
  |some z=>
   simp[hi,hzz]at hz;have hzc:z.cells.size=k:=by rw[<-hzl,<-hz];simp
   have hEv:a.eval X=E1.v i:=by rw[hg.v];exact hX
   unfold Oper.wp;obtain⟨v',w',bD,hown,hgr,hblk⟩:=jH (P:=P) w 0 t o.type el ie z k by_ hu hi hzz hsz hby hzc h2 (E1.v i) es.length cells h1 S A news.length cp us hrd hg.own.rep.one h63 hbytes (Nat.zero_le _)
   have hrun':(execOp a.eval o).run P w=.ok (.value v') w':=by
    simp[execOp,ho,resolve,invoke,builtin,Sem.run_bind,Sem.run_pure,Result.andThen_ok,List.map_toArray,List.map_cons,List.map_nil,hEv,eY,bD]
   rw[hrun',Oper.upon_value];have hmge:∀b,(E1.v i).ownBlock=some b->w0.fr b:=λb hb=>h.mF i hin b (by rw[h4,hb];simp)
   have hbel:GP w0 w':=⟨hgr.os.trans h.bel.os,hgr.tape.trans h.bel.tape,hgr.output.trans h.bel.output,Nat.le_trans h.bel.size hgr.size,λb hb=>(hgr.block b (Nat.lt_of_lt_of_le (Cx.lt hb) h.bel.size) (λe=>hb (hmge b e.symm))).trans (h.bel.block b hb)⟩
   have hm':∀b∈v'.ownBlock.toList,b∈E1.m i\/b=w.heap.size:=by
    grind
   have hAm:∀b,E1.A b->b∉v'.ownBlock.toList:=by
    intro b hbA hbm;rcases hm' b hbm with h6|h6
    ·exact h.A_m b hbA i hin h6
    ·have:=h.A_lt b hbA;omega
   have hfo:∀b∈f,b∉E1.o i:=λb hb=>hg.o b hb i hin
   have hsame:∀b,E1.A b->w'.heap[b]? =w.heap[b]?:=λb hb=>hgr.block b (h.A_lt b hb) (λe=>h.A_m b hb i hin (by rw[h4,<-e];simp))
   have hch:=h.change (i:=i) (n':=s'.n) (X:=.row s'.c el k (es++news) true) (v':=v') (m':=v'.ownBlock.toList) (o':=E1.o i++f) (A':=E1.A) (c':=s'.c+1) (w':=w') (Nat.le_refl _) (λj hj _=>hj) hin
    hbel hgr.size (λq hq hm=>hgr.block q hq (λe=>hm hin (by rw[h4,<-e];simp))) (by omega) (.inr λst he=>by grind[Ob.st]) (λ_ hb=>hb) (λ_ hb=>.inl hb)
    (λb hb=>⟨Nat.lt_of_lt_of_le (h.A_lt b hb) hgr.size,hAm b hb,λj hj _=>h.A_m b hb j hj⟩)
    (λb hb=>⟨(fZ hown (by grind)).2,λj hj hne hbj=>by
     rcases hm' b hb with h6|h6
     ·exact h.mm i j hin hj (Ne.symm hne) b h6 hbj
     ·have:=h.m_lt j hj b hbj;omega⟩)
    (λb hb=>by
     rcases List.mem_append.1 hb with hb|hb
     ·exact⟨h.A_o i hin b hb,λj hj hne=>h.oo i j hin hj (Ne.symm hne) b hb⟩
     ·exact⟨hg.A b hb,λj hj _=>hg.o b hb j hj⟩) (by
     rintro s'' rfl E' rfl hstay;refine⟨_,by omega,by simp[af,List.length_append];exact hown,h2,?_,by grind[af],?_⟩
     ·grind
     ·simp[if_pos,af,List.flatten_append];refine(h5.app hg.own (λb hb hbf=>hfo b hbf hb)).keep λb hb=>hsame b ?_
      rcases List.mem_append.1 hb with hb|hb
      ·exact h.A_o i hin b hb
      ·exact hg.A b hb) (λb hb=>by
     rcases hm' b hb with h6|h6
     ·grind
     ·exact w0.hfr b (by rw[h6];exact h.bel.size)) (λb hb=>by
     rcases List.mem_append.1 hb with hb|hb
     ·exact h.oF i hin b hb
     ·exact hg.fr h0 b hb)
   refine⟨_,hch.put (x:=.p false [.own i s'.c]) ?_ hd⟩;exact aN ⟨by simp,λ_=>by grind[af]⟩
theorem Kv{s':AS}{X Y:Operand}{t el:TypeId}{k i st by_:Nat}{es news:List (List DV)}{zs:List Value}{c:AC}
 (ho:o.op=.call ⟨.builtin .append,#[X,Y],#[t,t]⟩) (hd:∀q,o.dst=some q->q<N) (ht:dN P t=some (el,k)) (hz:aT P el=some zs) (hzl:zs.length=k) (hby:dW P el=some by_)
 (hX:s.ev X=.p false [.own i st]) (hY:s.ev Y=.p false [c]) (hsrc:VL s s' k c news) (hi':s'.own? i st=some (.row st el k es true)) 
 (h63:es.length+news.length<=maxLen) (hbytes:(es.length+news.length)*by_<=140737488355328):
 eb P N o s ({s' with ob:=upd s'.ob i (.row s'.c el k (es++news) true),c:=s'.c+1}.put o.dst (.p false [.own i s'.c])):=by
 intro w0 a w E h;have e1:=aP h X;have e2:=aP h Y;rw[hX]at e1;rw[hY]at e2;obtain⟨_,_,_,hlv,hs⟩:=hsrc;obtain⟨E1,f,hp⟩:=hs w0 N a w E _ h (aE e2);exact AH h ho hd ht hz hzl hby hi' ((aE e1).2 (hlv _ _ (am hi').2.2)) hp h63 hbytes
theorem Ay(h:aH w0 N s a w E){el:TypeId}{k:Nat}(hk:0<k):aH w0 N (s.push (.row s.c el k [] true)) a w ⟨upd E.v s.n (.slice none 0 0),upd E.m s.n [],upd E.o s.n [],λb=>E.A b\/b∈([]:List Nat)⟩:=by
 refine h.pushOb rfl (Below.refl _ _) (by simp) (by simp) (by simp) ?_;rintro E' rfl hstay;refine⟨[],by omega,by simp[af];exact World.ownsRow_nil _ _ _ _,hk,by simp,by simp[af];rfl,?_⟩;simp[if_pos,af];exact .nil
theorem Cv{s':AS}{X Y:Operand}{t el:TypeId}{k by_:Nat}{news:List (List DV)}{zs:List Value}{c:AC}
 (ho:o.op=.call ⟨.builtin .append,#[X,Y],#[t,t]⟩) (hd:∀q,o.dst=some q->q<N) (ht:dN P t=some (el,k)) (hz:aT P el=some zs) (hzl:zs.length=k) (hk:0<k) (hby:dW P el=some by_)
 (hX:s.ev X=.p false [.nil]) (hY:s.ev Y=.p false [c]) (hsrc:VL (s.push (.row s.c el k [] true)) s' k c news) (hi':s'.own? s.n s.c=some (.row s.c el k [] true))
 (h63:news.length<=maxLen) (hbytes:news.length*by_<=140737488355328):
 eb P N o s ({s' with ob:=upd s'.ob s.n (.row s'.c el k news true),c:=s'.c+1}.put o.dst (.p false [.own s.n s'.c])):=by
 intro w0 a w E h;have hp:=Ay (el:=el) h hk;have e1:=aP h X;have e2:=aP hp Y;rw[hX]at e1;have hY':(s.push (.row s.c el k [] true)).ev Y=.p false [c]:=by rw[<-hY];cases Y<;>rfl
 rw[hY']at e2;obtain⟨_,_,_,hlv,hs⟩:=hsrc;obtain⟨E1,f,hq⟩:=hs w0 N a w _ _ hp (aE e2);obtain hX0:a.eval X=.slice none 0 0:=aE e1;have:=AH (es:=[]) hp ho hd ht hz hzl hby hi' (by grind[af]) hq (by grind) (by grind)
 assumption
def AS.cut(s:AS)(i t k n:Nat)(es:List (List DV)):AS:={s with ob:=upd s.ob i (.row s.c t k (es.take n) true),c:=s.c+1}
theorem VE(h:aH w0 N s a w E){i st t k n N0 cp:Nat}{A:Option Addr}{es:List (List DV)}(hi:s.own? i st=some (.row st t k es true))(hE:E.v i=.slice A N0 cp)(hn:n<=es.length):
 ∃o',aH w0 N (s.cut i t k n es) a w ⟨upd E.v i (.slice A n cp),upd E.m i (E.m i),upd E.o i o',E.A⟩:=by
 obtain⟨hin,hob,hlv⟩:=am hi;have hO:=h.obj i hin;rw[hob]at hO;obtain⟨cells,hst,h1,h2,h3,h4,h5⟩:=hO;simp[if_pos]at h5;obtain⟨f1,f2,hf12,q1,q2⟩:=h5.split (n*k);obtain⟨A',c',e6,_,_⟩:=ba h1;rw[hE]at e6;injection e6 with g1 g2 g3;subst g2 g3;rw[hE]at h1;have h1':=DX h1 hn
 have hft:(es.take n).flatten=es.flatten.take (n*k):=by
  have:=eO (l:=0) (m:=n) h3
  grind
 have hs1:∀b∈f1,b∈E.o i:=by grind
 refine⟨f1,h.change (i:=i) (n':=s.n) (X:=.row s.c t k (es.take n) true) (v':=.slice A n cp) (m':=E.m i) (o':=f1) (A':=E.A) (c':=s.c+1) (w':=w) (Nat.le_refl _) (λj hj _=>hj) hin
  h.bel (Nat.le_refl _) (λ_ _ _=>rfl) (by omega) (.inr λst he=>by grind[Ob.st]) (λ_ hb=>hb) (λ_ hb=>.inl hb)
  (λb hb=>⟨h.A_lt b hb,h.A_m b hb i hin,λj hj _=>h.A_m b hb j hj⟩)
  (λb hb=>⟨h.m_lt i hin b hb,λj hj hne=>h.mm i j hin hj (Ne.symm hne) b hb⟩)
  (λb hb=>⟨h.A_o i hin b (hs1 b hb),λj hj hne=>h.oo i j hin hj (Ne.symm hne) b (hs1 b hb)⟩) (by
   rintro s'' rfl E' rfl hstay;refine⟨cells.take (n*k),by omega,?_,h2,λe he=>h3 e (List.mem_of_mem_take he),?_,?_⟩
   ·grind[af,List.length_take,Nat.min_eq_left]
   ·simp[af];rw[h4,hE];cases A<;>rfl
   simp_all[if_pos,af]) (h.mF i hin) (λb hb=>h.oF i hin b (hs1 b hb))⟩
theorem Ke{s':AS}{i st t k n:Nat}{es:List (List DV)}{xs:List AC}{ds:List DV}(hi:s.own? i st=some (.row st t k es true))(hn:n<=es.length)(h:eT (s.kill i) s' xs ds):eT s s' (.sub i st k 0 n::xs) (.sl t k (es.take n)::ds):=by
 obtain⟨h1,h2,h3,h4,h5⟩:=h;refine⟨h1,h2,h3,λj st hl=>uK j st (h4 j st hl),λw0 N a w E us hr hc=>?_⟩;obtain⟨u,us,rfl,c1,c2⟩:=hc.cons';obtain⟨hin,hob,hlv⟩:=am hi;obtain⟨A,N0,cp,B,eE,hle,rfl,eB,-⟩:=c1.2 hlv;obtain rfl:=eB rfl;have hO:=hr.obj i hin;rw[hob]at hO;obtain⟨cells,hst,g1,g2,g3,g4,g5⟩:=hO;simp[if_pos]at g5;obtain⟨f1,f2,hf12,q1,q2⟩:=g5.split (n*k);have hs1:∀b∈f1,b∈E.o i:=by grind
 obtain⟨A',c',e6,_,_⟩:=ba g1;rw[eE]at e6;injection e6 with y1 y2 y3;subst y2 y3;rw[eE]at g1;have h1':=DX g1 hn
 have hft:(es.take n).flatten=es.flatten.take (n*k):=by
  have:=eO (l:=0) (m:=n) g3
  grind
 have hmb:(Value.slice B n cp).ownBlock.toList=E.m i:=by rw[g4,eE];cases B<;>rfl
 have hown:aR w 0 [.slice B n (cp-0)] [.sl t k (es.take n)] (E.m i++f1):=by
  have hl:(es.take n).length=n:=by grind
  rw[<-hl]at h1'
  have:=aR.sl (vs:=[]) (ds:=[]) (f:=[]) (v:=.slice B n cp) (es:=es.take n) (by rw[hl]at h1' ⊢;exact h1') g2 (λe he=>g3 e (List.mem_of_mem_take he)) (by rw[hft];exact q1) .nil (by
   rw[List.append_nil,hmb];refine List.nodup_append.2 ⟨?_,q1.nodup,λb hb b' hb' e=>?_⟩
   ·rw[g4];cases (E.v i).ownBlock<;>simp
   ·subst e;exact hr.A_m b (hr.A_o i hin b (hs1 b hb')) i hin hb)
  rwa [List.append_nil,hmb]at this
 have k1:aH w0 N (s.kill i) a w ⟨upd E.v i (E.v i),upd E.m i [],upd E.o i [],λb=>E.A b\/b∈E.m i⟩:=by
  refine hr.change (i:=i) (n':=s.n) (X:=.dead) (v':=E.v i) (m':=[]) (o':=[]) (A':=λb=>E.A b\/b∈E.m i) (c':=s.c) (Nat.le_refl _) (λj hj _=>hj) hin
   hr.bel (Nat.le_refl _) (λ_ _ _=>rfl) (Nat.le_refl _) (.inr λst he=>by grind[Ob.st]) (λ_ hb=>.inl hb) (λb hb=>hb.imp id λhb=>.inr (hr.mF i hin b hb)) ?_ (by simp) (by simp) ?_
  ·intro b hb;rcases hb with hb|hb
   ·exact⟨hr.A_lt b hb,by simp,λj hj _=>hr.A_m b hb j hj⟩
   ·exact⟨hr.m_lt i hin b hb,by simp,λj hj hne=>hr.mm i j hin hj (Ne.symm hne) b hb⟩
  ·rintro s' rfl E' rfl hstay;exact trivial
 have ev:upd E.v i (E.v i)=E.v:=by
  funext j;grind[af,aJ]
 have c2':aD w ⟨upd E.v i (E.v i),upd E.m i [],upd E.o i [],λb=>E.A b\/b∈E.m i⟩ (s.kill i).lv (s.kill i).c xs us:=
  c2.stay ⟨λb hb=>⟨.inl hb,rfl⟩,λj st _ hl=>⟨uK j st hl,by simp_all⟩,Nat.le_refl _⟩
 obtain⟨E2,f,hg⟩:=h5 w0 N a w _ us k1 c2'
 have dm:∀j,∀b∈upd E.m i [] j,j≠i/\b∈E.m j:=by
  grind[af,aJ]
 have dO:∀j,∀b∈upd E.o i [] j,j≠i/\b∈E.o j:=by
  grind[af,aJ]
 have hfm:∀b∈E.m i++f1,b∈E.m i\/b∈E.o i:=λb hb=>(List.mem_append.1 hb).imp id (hs1 b)
 have dis:∀b∈E.m i++f1,∀j,j<s.n->b∉upd E.m i [] j/\b∉upd E.o i [] j:=by
  intro b hb j hj;rcases hfm b hb with hb|hb
  ·exact⟨λh=>by obtain⟨e,h⟩:=dm j b h;exact hr.mm i j hin hj (Ne.symm e) b hb h,λh=>by obtain⟨e,h⟩:=dO j b h;exact hr.A_m b (hr.A_o j hj b h) i hin hb⟩
  ·exact⟨λh=>by obtain⟨e,h⟩:=dm j b h;exact hr.A_m b (hr.A_o i hin b hb) j hj h,λh=>by obtain⟨e,h⟩:=dO j b h;exact hr.oo i j hin hj (Ne.symm e) b hb h⟩
 refine⟨E2,(E.m i++f1)++f,⟨hg.rep,hown.app hg.own (λb hb hbf=>?_),?_,?_,?_,by rw[hg.v,ev],λj b hb=>(dm j b (hg.m' j b hb)).2,λj b hb=>(dO j b (hg.o' j b hb)).2,λb hb=>hg.A' b (.inl hb)⟩,λx hx b hb=>?_⟩
 ·obtain⟨j,hj,hbj⟩:=hg.from_ b hbf;exact hbj.elim (dis b hb j hj).1 (dis b hb j hj).2
 ·intro b hb;rcases List.mem_append.1 hb with hb|hb
  ·exact hg.A' b ((hfm b hb).elim .inr λh=>.inl (hr.A_o i hin b h))
  ·exact hg.A b hb
 ·intro b hb j hj hbo;rcases List.mem_append.1 hb with hb|hb
  ·exact(dis b hb j (by rw[h1]at hj;exact hj)).2 (hg.o' j b hbo)
  ·exact hg.o b hb j hj hbo
 ·intro b hb;rcases List.mem_append.1 hb with hb|hb
  ·grind
  ·obtain⟨j,hj,hbj⟩:=hg.from_ b hb;exact⟨j,hj,hbj.imp (λh=>(dm j b h).2) (λh=>(dO j b h).2)⟩
 ·rcases List.mem_cons.1 hx with rfl|hx
  ·grind
  ·obtain⟨j,hj,hbj⟩:=hg.top x hx b hb;exact⟨j,hj,(dm j b hbj).2⟩
theorem CK{s':AS}{X Y:Operand}{t el:TypeId}{k k' i st by_ n:Nat}{es news:List (List DV)}{zs:List Value}{c:AC}
 (ho:o.op=.call ⟨.builtin .append,#[X,Y],#[t,t]⟩) (hd:∀q,o.dst=some q->q<N) (ht:dN P t=some (el,k)) (hz:aT P el=some zs) (hzl:zs.length=k) (hby:dW P el=some by_)
 (hX:s.ev X=.p false [.sub i st k' 0 n]) (hi:s.own? i st=some (.row st el k es true)) (hn:n<=es.length) (hY:s.ev Y=.p false [c]) (hsrc:VL (s.cut i el k n es) s' k c news) (hi':s'.own? i s.c=some (.row s.c el k (es.take n) true))
 (h63:(es.take n).length+news.length<=maxLen) (hbytes:((es.take n).length+news.length)*by_<=140737488355328):
 eb P N o s ({s' with ob:=upd s'.ob i (.row s'.c el k (es.take n++news) true),c:=s'.c+1}.put o.dst (.p false [.own i s'.c])):=by
 intro w0 a w E h;have e1:=aP h X;rw[hX]at e1;obtain⟨A,M,cp,B,e2,e3,e4,e5,e6⟩:=(aE e1).2 (am hi).2.2;obtain rfl:=e5 rfl;obtain⟨o',hp⟩:=VE h hi e2 hn;have e7:=aP hp Y;have hY':(s.cut i el k n es).ev Y=.p false [c]:=by rw[<-hY];cases Y<;>rfl
 rw[hY']at e7;obtain⟨_,_,_,hlv,hs⟩:=hsrc;obtain⟨E1,f,hq⟩:=hs w0 N a w _ _ hp (aE e7)
 grind[AH,af]
theorem nI(t ty e:TypeId)(i:TypeInfo)(size:Nat)(ht:P.underlying t=some (.slice e))(hi:P.info? e=some i)(hsize:i.size=size)(X Y:Option Addr)(c:Nat):
 (Builtin.append_ #[t,t] ty #[.slice X 0 0,.slice Y 0 c]).run P w=.ok (.slice X 0 0) w:=by
 cases X<;>cases Y<;>simp[Builtin.append_,run_underlying ht,sizeOf,typeInfo,hi,Builtin.lenOf,Builtin.firstCells,loadCells,loadCellsFrom,storeCells]
theorem jx(t ty e:TypeId)(i:TypeInfo)(z:Value)(size bytes:Nat)(ht:P.underlying t=some (.slice e))(hi:P.info? e=some i)(hz:i.zero=some z)
 (hsize:i.size=size) (hby:i.bytes=bytes) (hzs:z.cells.size=size) (hsz:0<size) (X:Option Addr)
 (S:Nat->Prop) (A:Option Addr) (m c:Nat) (news:List Value) (hr:Rd w S size A m c news) (h1:∀u∈news,u.oneCell'=true)
 (h63:m<=maxLen) (hbytes:m*bytes<=140737488355328) (hm:0<m):
 ∃v' w',(Builtin.append_ #[t,t] ty #[.slice X 0 0,.slice A m c]).run P w=.ok v' w'/\w'.ownsRow w.heap.size e size v' m news/\Below w.heap.size w w':=by
 have hown:w.ownsRow w.heap.size e size (.slice none 0 0) 0 []:=World.ownsRow_nil _ _ _ _;obtain⟨v',w',bD,h2,h3,h4⟩:=jH (P:=P) w w.heap.size t ty e i z size bytes ht hi hz hsize hby hzs hsz (.slice none 0 0) 0 [] hown S A m c news hr h1 (by omega) (by grind) (Nat.le_refl _);refine⟨v',w',?_,by grind,(Below.refl _ _).grown h3 (Nat.le_refl _) (by simp[Value.ownBlock])⟩;rw[<-bD];have hnc:Builtin.nextslicecap m 0=m:=by unfold Builtin.nextslicecap;rw[if_pos (by omega)]
 have hb:¬m*bytes>281474976710656:=by omega
 have hl:∀Y w,(Builtin.firstCells size 0 (.slice Y 0 0)).run P w=.ok #[] w:=by
  intro Y w;cases Y<;>simp[Builtin.firstCells,loadCells,loadCellsFrom]
 have key:∀Y,(Builtin.append_ #[t,t] ty #[.slice Y 0 0,.slice A m c]).run P w=(do
  let newCap <-choose (.appendCap m 0 e)
  askRoom (newCap*bytes)
  let new <-Builtin.firstCells size m (.slice A m c)
  let zz <-zeroValue e
  pure (Value.slice (some (<-newRow e (#[]++new++Builtin.zeroCells zz.cells (newCap-m)))) m newCap)).run P w:=by
  intro Y;have hno:¬(m=0):=by omega
  have h9:¬(9223372036854775807<(m:Int)/\bytes=0):=by unfold maxLen at h63;omega
  simp[Builtin.append_,run_underlying ht,sizeOf,typeInfo,hi,hsize,hby,Builtin.lenOf,hno,hnc,hb,hl,h9]
 rw[key X,key none]
theorem LG(dp:Bool)(h:aH w0 N s a w E){i st t k:Nat}{ds:List (List DV)}(hi:s.own? i st=some (.arr st t k (ds.map λe=>e.map .d)))(hf:dp=true->pz ds.flatten):aH w0 N {s with ob:=upd s.ob i (.row st t k ds dp)} a w ⟨upd E.v i (E.v i),upd E.m i (E.m i),upd E.o i [],E.A⟩:=by
 obtain⟨hin,hob,hlv⟩:=am hi;have hO:=h.obj i hin;rw[hob]at hO;obtain⟨g,vals,hst,e1,em,eo,hge,hmx,hB,hk,hun,hcs⟩:=hO;have hun':∀e∈ds,e.length=k:=λe he=>by have:=hun (e.map .d) (List.mem_map.2 ⟨e,he,rfl⟩);grind
 have hrep:aL w E.A vals ds.flatten:=by
  have hfl:(ds.map λe=>e.map AC.d).flatten=ds.flatten.map .d:=by rw[List.map_flatten]
  rw[hfl]at hcs;clear hfl e1 hob hi hun hun' hB hmx;clear hf;generalize ds.flatten=l at hcs
  induction l generalizing vals with
  |nil=>rw[aD.nil' hcs];exact .nil
  |cons d l ih=>
   obtain⟨u,us,rfl,c1,c2⟩:=aD.cons' hcs;exact aL.cons c1 (ih us c2)
 rw[List.length_map]at e1 hmx;have hlen:vals.length=ds.length*k:=by rw[hrep.len,cO hun']
 refine h.change (i:=i) (n':=s.n) (X:=.row st t k ds dp) (v':=E.v i) (m':=E.m i) (o':=[]) (A':=E.A) (c':=s.c) (Nat.le_refl _) (λj hj _=>hj) hin h.bel (Nat.le_refl _) (λ_ _ _=>rfl) (Nat.le_refl _)
  (.inl ⟨hin,by rw[hob];rfl,rfl⟩) (λ_ hb=>hb) (λ_ hb=>.inl hb) (λb hb=>⟨h.A_lt b hb,h.A_m b hb i hin,λj hj _=>h.A_m b hb j hj⟩) (λb hb=>⟨h.m_lt i hin b hb,λj hj hne=>h.mm i j hin hj (Ne.symm hne) b hb⟩) (by simp) ?_ (h.mF i hin)
 rintro s' rfl E' rfl hstay;refine⟨vals,hst,?_,hk,hun',by simp[af,e1,em];rfl,?_⟩
 ·simp[af,e1];exact⟨hlen,.inr ⟨g,ds.length,vals.toArray,rfl,hge,hB,Nat.le_refl _,hmx,by omega,by rw[<-hlen];simp⟩⟩
 ·cases dp
  ·simp[af];exact hrep
  ·simp[af];exact aR.flat hrep (hf rfl)
end
end Go.Proofs.YtliknccmjjncbaaGreat
namespace Go.Proofs.YtliknccmjjncbaaGreat
open Go.RowKit
def AQ(w0:Cx)(N:Nat)(Q:Exit->AS->Prop):Exit->Act->World->Prop:=λe a w=>∃s E,Q e s/\aH w0 N s a w E
def tN(P:Program)(N:Nat)(c:Code)(Q:Exit->AS->Prop)(s:AS):Prop:=∀w0 a w E,aH w0 N s a w E->c.wp P (AQ w0 N Q) a w
def lu(P:Program)(N:Nat)(ops:Array Oper)(l:List Oper)(Q:Exit->AS->Prop)(s:AS):Prop:=∀w0 a w E,aH w0 N s a w E->wpList P ops (AQ w0 N Q) l a w
section
variable {P:Program}{N:Nat}{Q:Exit->AS->Prop}{s:AS}{o:Oper}
theorem Oper.wp_mono2{a:Act}{w:World}{K K':Act->World->Prop}{Q':Exit->Act->World->Prop}(h:∀a w,K a w->K' a w)(hh:o.wp P a w K (λ_ _ _=>False)):o.wp P a w K' Q':=by
 unfold Oper.wp at *;generalize (execOp a.eval o).run P w=r at*
 cases r with
 |ok x w'=>
  cases x<;>simp[Oper.upon]at hh ⊢
  case value v=>grind
  case skip=>grind
  case defer d=>grind
  case enter f args=>
   refine Calls.mono hh λe w'' he=>?_
   cases e with
   |returned v=>grind
   |panicked c=>grind
   |outgrown=>obtain⟨_,_,h⟩:=he;grind
  case row row args=>exact Rows.mono hh λv w'' he=>h _ _ he
 |halt x w'=>
  cases x<;>simp[Oper.upon]at hh ⊢
theorem F4{ops:Array Oper}(h:Q .normal s):lu P N ops [] Q s:=λw0 a w E hr=>⟨s,E,h,hr⟩
theorem Dh{ops:Array Oper}{rest:List Oper}{s':AS}(hg:o.guard=none)(h:eb P N o s s')(hk:lu P N ops rest Q s'):lu P N ops (o::rest) Q s:=by
 intro w0 a w E hr;refine wpList_plain hg λK hK=>?_
 exact Oper.wp_mono2 (λa' w' ⟨E',h'⟩=>hK _ _ (hk w0 a' w' E' h')) (h w0 a w E hr)
def kb(ops:Array Oper)(g:Nat):Option Nat:=(ops[g]?).bind (·.dst)
theorem rW{ops:Array Oper}{w0:Cx}{w:World}{a:Act}{E:En}(h:aH w0 N s a w E){g t:Nat}{b:Bool}(hg:kb ops g=some t)(hs:s.sl t=.p false [.d (.sc (.bool b))])(ht:t<N):yielded ops a.tmps g=some b:=by
 have:=h.slot t;rw[hs]at this;have:=bA this;unfold yielded;unfold kb at hg;rw[hg];have hz:t<a.tmps.size:=by rw[h.size];exact ht
 simp_all
theorem jC{ops:Array Oper}{rest:List Oper}{s':AS}{g t:Nat}{want:Bool}(hg:o.guard=some (g,want))(hs:kb ops g=some t)(hb:s.sl t=.p false [.d (.sc (.bool want))])(ht:t<N)(h:eb P N o s s')(hk:lu P N ops rest Q s'):lu P N ops (o::rest) Q s:=by
 intro w0 a w E hr;unfold wpList;have hy:=rW hr hs hb ht;rw[if_pos (by simp[Region.wanted,hg,hy])];exact .inl (Oper.wp_mono2 (λa' w' ⟨E',h'⟩=>hk w0 a' w' E' h') (h w0 a w E hr))
theorem gX{ops:Array Oper}{rest:List Oper}{g t:Nat}{want b:Bool}(hg:o.guard=some (g,want))(hs:kb ops g=some t)(hb:s.sl t=.p false [.d (.sc (.bool b))])(ht:t<N)(hne:b≠want)(hd:∀k,o.dst=some k->k<N)(hk:lu P N ops rest Q (s.put o.dst (.tup []))):lu P N ops (o::rest) Q s:=by
 intro w0 a w E hr;unfold wpList;have hy:=rW hr hs hb ht;rw[if_neg (by simp[Region.wanted,hg,hy,hne])];exact hk w0 _ w E (hr.put ⟨[],rfl,rfl,λj b cs u h _=>by grind⟩ hd)
theorem ms{ops:Array Oper}{rest:List Oper}{g t:Nat}{want:Bool}(hg:o.guard=some (g,want))(hs:kb ops g=some t)(hb:s.sl t=.tup [])(ht:t<N)(hd:∀k,o.dst=some k->k<N)(hk:lu P N ops rest Q (s.put o.dst (.tup []))):lu P N ops (o::rest) Q s:=by
 intro w0 a w E hr;unfold wpList
 have hy:yielded ops a.tmps g=none:=by
  have:=hr.slot t;rw[hb]at this;obtain⟨vs,h1,h2,-⟩:=this;obtain rfl:vs=[]:=List.length_eq_zero_iff.1 h2.symm;unfold yielded;unfold kb at hs;rw[hs];have hz:t<a.tmps.size:=by rw[hr.size];exact ht
  simp_all
 rw[if_neg (by simp[Region.wanted,hg,hy])];exact hk w0 _ w E (hr.put ⟨[],rfl,rfl,λj b cs u h _=>by grind⟩ hd)
end
def PV(k:AS->Prop)(Q:Exit->AS->Prop):Exit->AS->Prop
 |.normal,s=>k s
 |e,s=>Q e s
def Fg(id:Nat)(Q:Exit->AS->Prop):Exit->AS->Prop
 |.exit id',s=>if id'=id then Q .normal s else Q (.exit id') s
 |e,s=>Q e s
def Ov(I:AS->Nat->Prop)(m:Nat)(Q:Exit->AS->Prop):Exit->AS->Prop
 |.normal,s=>∃k m',k<=s.n/\m'<m/\I {s with n:=k} m'
 |e,s=>Q e s
def kV(K:AS->Prop)(d:Option Nat)(s:AS):Option AV->Prop
 |some x=>K (s.put d x)
 |none=>False
def Kn(K:AS->Prop)(d:Option Nat)(s:AS)(t:TypeId):Option (List AC)->Prop
 |some cs=>K ((s.push (.var s.c t cs)).put d (.p false [.ptr s.n s.c 0]))
 |none=>False
def PH(K:AS->Prop)(d:Option Nat)(s:AS):Option (List AC)->Prop
 |some cs=>K (s.put d (.p true cs))
 |none=>False
def I1(P:Program)(K:AS->Prop)(d:Option Nat)(s:AS)(t:TypeId)(parts:List (Nat×Operand)):Bool->Option (List AC)->Prop
 |true,some z=>PH K d s (iy P s t parts z)
 |_,_=>False
def Pt(K:AS->Prop)(d:Option Nat)(s:AS)(el k:Nat):Option (List (List AC))->Prop
 |some es=>K ((s.push (.arr s.c el k es)).put d (.p false [.own s.n s.c]))
 |none=>False
def XX(P:Program)(K:AS->Prop)(d:Option Nat)(s:AS)(len:Nat)(parts:List (Nat×Operand)):Option (TypeId×Nat)->Prop
 |some (el,k)=>((aT P el).isSome=true/\0<k/\parts.length=len/\len*k<=16777216)/\Pt K d s el k (t9 s k parts 0)
 |none=>False
def Qc(P:Program)(K:AS->Prop)(s:AS)(t:TypeId)(i st off:Nat):Option Ob->Option (List AC)->Prop
 |some (.var _ t' cs),some xs=>(cG P t=some xs.length/\off+xs.length<=cs.length)/\K {s with ob:=upd s.ob i (.var st t' (plug off xs cs))}
 |_,_=>False
def rB(P:Program)(N:Nat)(o:Oper)(K:AS->Prop)(s:AS):Prop:=∃s',eb P N o s s'/\K s'
def Ye(P:Program)(N:Nat)(o:Oper)(K:AS->Prop)(s:AS)(t:TypeId)(y:Operand):AV->Prop
 |.p false [.ptr i st off]=>o.dst=none/\Qc P K s t i st off (s.own? i st) (bV s (s.ev y))
 |_=>rB P N o K s
def XW(P:Program)(N:Nat)(o:Oper)(K:AS->Prop)(s:AS)(args:List Operand)(ts:List TypeId):Callee->Prop
 |.builtin .len=>kV K o.dst s (tu P s (.builtin .len) args ts)
 |_=>rB P N o K s
def K5(P:Program)(N:Nat)(o:Oper)(K:AS->Prop)(s:AS):Op->Prop
 |.alloc t=>Kn K o.dst s t (aY P t)
 |.box t x=>Kn K o.dst s t (bV s (s.ev x))
 |.build t parts=>I1 P K o.dst s t parts.toList (Co P t) (aY P t)
 |.buildSlice t len parts=>XX P K o.dst s len parts.toList (dN P t)
 |.store t x y=>Ye P N o K s t y (s.ev x)
 |.call c=>XW P N o K s c.args.toList c.argTypes.toList c.callee
 |.makeSlice _ _ _=>rB P N o K s
 |op=>kV K o.dst s (hV P s op)
def dB(N:Nat):Option Nat->Bool
 |some k=>decide (k<N)
 |none=>true
def kG(P:Program)(N:Nat)(o:Oper)(K:AS->Prop)(s:AS)(want:Bool):AV->Prop
 |.p false [.d (.sc (.bool b))]=>if b=want then K5 P N o K s o.op else K (s.put o.dst (.tup []))
 |.tup []=>K (s.put o.dst (.tup []))
 |_=>False
def X6(P:Program)(N:Nat)(o:Oper)(K:AS->Prop)(s:AS)(want:Bool):Option Nat->Prop
 |some t=>t<N/\kG P N o K s want (s.sl t)
 |none=>False
def XS(P:Program)(N:Nat)(ops:Array Oper)(o:Oper)(K:AS->Prop)(s:AS):Option (Nat×Bool)->Prop
 |none=>K5 P N o K s o.op
 |some (g,want)=>X6 P N o K s want (kb ops g)
def SN(P:Program)(N:Nat)(ops:Array Oper):List Oper->(Exit->AS->Prop)->AS->Prop
 |[],Q,s=>Q .normal s
 |o::r,Q,s=>dB N o.dst=true/\XS P N ops o (SN P N ops r Q) s o.guard
def kC(x y:AS->Prop)(s:AS):AV->Prop
 |.p false [.d (.sc (.bool b))]=>if b then x s else y s
 |_=>False
def aw(P:Program)(N:Nat):Code->(Exit->AS->Prop)->AS->Prop
 |.skip,Q,s=>Q .normal s
 |.exit id,Q,s=>Q (.exit id) s
 |.ret,Q,s=>Q .ret s
 |.seq x y,Q,s=>aw P N x (PV (aw P N y Q) Q) s
 |.block id x,Q,s=>aw P N x (Fg id Q) s
 |.cond c x y,Q,s=>kC (aw P N x Q) (aw P N y Q) s (s.ev c)
 |.region _ ops false,Q,s=>SN P N ops ops.toList Q s
 |c,Q,s=>tN P N c Q s
section
variable {P:Program}{N:Nat}{Q:Exit->AS->Prop}{s:AS}{o:Oper}
theorem cn{d:Option Nat}(h:dB N d=true):∀k,d=some k->k<N:=by
 grind[dB]
theorem Se{K:AS->Prop}{x:Option AV}(hd:dB N o.dst=true)(hx:∀y,x=some y->dH P o s y [])(h:kV K o.dst s x):rB P N o K s:=by
 cases x with
 |none=>exact h.elim
 |some y=>exact⟨_,(hx y rfl).toO (cn hd),h⟩
theorem Lm{K:AS->Prop}(hd:dB N o.dst=true){op:Op}(ho:o.op=op)(h:K5 P N o K s op):rB P N o K s:=by
 unfold K5 at h;split at h
 ·rename_i t;unfold Kn at h;split at h
  ·rename_i cs hz;exact⟨_,(Ja ho hz).toO (cn hd),h⟩
  grind
 ·rename_i t x;unfold Kn at h;split at h
  ·rename_i cs hz;exact⟨_,(Sg ho hz).toO (cn hd),h⟩
  grind
 ·rename_i t parts;unfold I1 at h;split at h
  ·rename_i z h1 h2;unfold PH at h;split at h
   ·rename_i cs h3;exact⟨_,(ER ho h1 h2 h3).toO (cn hd),h⟩
   grind
  grind
 ·rename_i t len parts;unfold XX at h;split at h
  ·rename_i el k ht;obtain⟨⟨h1,h2,h3,h4⟩,h⟩:=h;unfold Pt at h;split at h
   ·rename_i es h5;exact⟨_,(mM ho ht h1 h2 h3 h4 h5).toO (cn hd),h⟩
   grind
  grind
 ·rename_i t x y;unfold Ye at h;split at h
  ·rename_i i st off he;obtain⟨hdn,h⟩:=h;unfold Qc at h;split at h
   ·rename_i st' t' cs xs h1 h2;obtain⟨⟨h3,h4⟩,h⟩:=h
    have hst:st'=st:=by
     have:=(am h1).2;have h5:=this.2;simp_all[AS.lv,if_pos,am,Ob.st]
    subst hst;exact⟨_,Nq ho hdn he h1 h2 h3 h4,h⟩
   grind
  omega
 ·rename_i c;unfold XW at h;split at h
  ·rename_i hc;refine Se hd (λy hy=>Fp ?_) h;rw[ho];show tu P s c.callee c.args.toList c.argTypes.toList=some y;rw[hc];exact hy
  omega
 ·exact h
 grind[Se,Fp]
theorem xf{ops:Array Oper}:∀{l:List Oper} {s:AS},SN P N ops l Q s->lu P N ops l Q s
 |[],s,h=>F4 h
 |o::r,s,h=>by
  obtain⟨hd,h⟩:=h
  cases hg:o.guard with
  |none=>
   rw[hg]at h;obtain⟨s',h1,h2⟩:=Lm hd rfl h
   exact Dh hg h1 (xf h2)
  |some gw=>
   obtain⟨g,want⟩:=gw;rw[hg]at h;simp[XS]at h;unfold X6 at h;split at h
   ·rename_i t ht;obtain⟨htN,h⟩:=h;unfold kG at h;split at h
    ·rename_i b hb;split at h
     ·rename_i hw;subst hw;obtain⟨s',h1,h2⟩:=Lm hd rfl h;exact jC hg ht hb htN h1 (xf h2)
     ·rename_i hw;exact gX hg ht hb htN hw (cn hd) (xf h)
    ·rename_i hb;exact ms hg ht hb htN (cn hd) (xf h)
    grind
   grind
theorem Sz:∀{c:Code} {Q:Exit->AS->Prop} {s:AS},aw P N c Q s->tN P N c Q s:=by
 intro c
 induction c with
 |skip=>intro Q s h w0 a w E hr;exact wp_skip ⟨s,E,h,hr⟩
 |exit id=>intro Q s h w0 a w E hr;exact wp_exit ⟨s,E,h,hr⟩
 |ret=>intro Q s h w0 a w E hr;exact wp_ret ⟨s,E,h,hr⟩
 |seq x y ih1 ih2=>
  intro Q s h w0 a w E hr;refine wp_seq (Code.wp_mono (λe a w he=>?_) (ih1 (show aw P N x (PV (aw P N y Q) Q) s from h) w0 a w E hr));obtain⟨s',E',h1,h2⟩:=he
  cases e with
  |normal=>exact ih2 h1 w0 a w E' h2
  |_=>exact⟨s',E',h1,h2⟩
 |block id x ih=>
  intro Q s h w0 a w E hr;refine wp_block (Code.wp_mono (λe a w he=>?_) (ih (show aw P N x (Fg id Q) s from h) w0 a w E hr));obtain⟨s',E',h1,h2⟩:=he
  cases e with
  |exit id'=>
   simp[Fg]at h1;show(if id'=id then AQ w0 N Q .normal _ _ else AQ w0 N Q (.exit id') _ _);split
   ·rename_i he;rw[if_pos he]at h1;exact⟨s',E',h1,h2⟩
   ·rename_i he;rw[if_neg he]at h1;exact⟨s',E',h1,h2⟩
  |_=>exact⟨s',E',h1,h2⟩
 |cond c x y ih1 ih2=>
  intro Q s h w0 a w E hr;have h:kC (aw P N x Q) (aw P N y Q) s (s.ev c):=h;unfold kC at h;split at h
  ·rename_i b hb;have:=aP hr c;rw[hb]at this;refine wp_cond_split (bA this) (λhb=>?_) (λhb=>?_)
   ·subst hb;exact ih1 h w0 a w E hr
   ·subst hb;exact ih2 h w0 a w E hr
  grind
 |region id ops draw=>
  intro Q s h
  cases draw with
  |false=>
   intro w0 a w E hr;refine wp_region_list ?_
   exact xf (show SN P N ops ops.toList Q s from h) w0 a w E hr
  |true=>exact h
 |loop x ih=>intro Q s h;exact h
 |rangeFunc=>intro Q s h;exact h
 |scope=>intro Q s h;exact h
 |label=>intro Q s h;exact h
 |goto=>intro Q s h;exact h
 |refuse=>intro Q s h;exact h
theorem tQ{c:Code}(I:AS->Nat->Prop)(m:Nat)(h0:I s m)(round:∀s m,I s m->aw P N c (Ov I m Q) s):tN P N (.loop c) Q s:=by
 intro w0 a w E hrep b k cs
 have key:∀m s a w E,I s m->aH w0 N s a w E->∃e a' w',AQ w0 N Q e a' w'/\Arrives P (lone (b.at a (.code c::.inLoop c::k)) cs w) b k cs e a' w':=by
  intro m
  induction m using Nat.strongRecOn with
  |_ m ih=>
   intro s a w E hI hr;obtain⟨e,a₁,w₁,⟨s1,E1,hq,hr1⟩,harr⟩:=Sz (round s m hI) w0 a w E hr b (.inLoop c::k) cs
   cases e with
   |normal=>
    obtain⟨kk,m',hk,hlt,hI'⟩:=hq;obtain⟨e₂,a₂,w₂,hq₂,harr₂⟩:=ih m' hlt _ a₁ w₁ E1 hI' (hr1.weaken (s':={s1 with n:=kk}) hk (Nat.le_refl _) (λ_ _=>.inl rfl) (λ_=>.inl rfl))
    exact⟨e₂,a₂,w₂,hq₂,.of_steps (Steps.trans harr (.one step_inLoop)) harr₂⟩
   |exit id=>exact⟨_,a₁,w₁,⟨s1,E1,hq,hr1⟩,.pass (x:=.inLoop c) rfl (λ_ _=>.inl (by simp)) harr⟩
   |goto l=>exact⟨_,a₁,w₁,⟨s1,E1,hq,hr1⟩,.pass (x:=.inLoop c) rfl (λ_ _=>.inl (by simp)) harr⟩
   |ret=>exact⟨_,a₁,w₁,⟨s1,E1,hq,hr1⟩,.pass (x:=.inLoop c) rfl (λ_ _=>.inl (by simp)) harr⟩
   |panic ch=>exact⟨_,a₁,w₁,⟨s1,E1,hq,hr1⟩,.pass (x:=.inLoop c) rfl (λ_ _=>.inl (by simp)) harr⟩
   |outgrown=>exact⟨_,a₁,w₁,⟨s1,E1,hq,hr1⟩,.pass (x:=.inLoop c) rfl (λ_ _=>.inl (by simp)) harr⟩
 obtain⟨e,a',w',hq,harr⟩:=key m s a w E h0 hrep;exact⟨e,a',w',hq,.of_steps (.one step_loop) harr⟩
def O8(P:Program)(s:AS):ResultVar->Option AV
 |.tmp t=>some (s.sl t)
 |.cell t ty=>G7 P s ty (s.sl t)
def VS(f:List AC->Prop)(b:Bool):Option AV->Prop
 |some (.p b' cs)=>b'=b/\f cs
 |_=>False
def c9(P:Program)(s0:AS):List ResultVar->List Rs->AS->Prop
 |[],[],_=>True
 |rv::rvs,(b,ds,dp)::rs,s=>dp=true/\VS (λcs=>∃s',eT s s' cs ds/\c9 P s0 rvs rs s') b (O8 P s0 rv)
 |_,_,_=>False
def lD(P:Program)(s:AS):List ResultVar->List Rs->Prop
 |[],[]=>True
 |rv::rvs,(b,ds,dp)::rs=>dp=false/\VS (λcs=>IA s cs ds) b (O8 P s rv)/\lD P s rvs rs
 |_,_=>False
def DO(P:Program)(rvs:List ResultVar)(rs:List Rs):Exit->AS->Prop
 |.normal,s=>c9 P s rvs rs s\/lD P s rvs rs
 |.ret,s=>c9 P s rvs rs s\/lD P s rvs rs
 |_,_=>False
def lF(args:List (Bool×List DV)):AS:={sl:=λt=>match args[t]? with|some (b,ds)=>.p b (ds.map .d)|none=>.und,ob:=λ_=>.dead,n:=0,c:=0}
end
end Go.Proofs.YtliknccmjjncbaaGreat
namespace Go.Proofs.YtliknccmjjncbaaGreat
open Go.RowKit
section
variable {w w':World}{base:Nat}{vs:List Value}{ds:List DV}{f:List Nat}
end
section
variable {P:Program}{w0:Cx}{w w':World}{N:Nat}{s:AS}{a:Act}{E:En}{o:Oper}
theorem Rk{α:Type}(f:Nat->α)(i:Nat)(x y:α):upd (upd f i x) i y=upd f i y:=by
 funext j;grind[upd]
end
end Go.Proofs.YtliknccmjjncbaaGreat
namespace Go.Proofs.YtliknccmjjncbaaGreat
open Go
def cH(n m:Nat):Array Bool:=Array.replicate n true++Array.replicate m false
def HH(md:Region.Mode)(l:List Oper)(n:Nat):Bool:=
 Region.noSelect l.toArray&&(decide (n<=l.length)&&((decide (n=l.length)||(decide (n<l.length)&&(Region.sinkB md l.toArray n&&Region.chainB md l.toArray n)))&&
 (Region.seqB md l.toArray (l.length-n) n (cH n (l.length-n))&&
 ((List.range n).all λi=>((l[i]?).map λoi=>(oi.after.all λe=>!Region.binds md e||decide (e.on<i))&&
  ((List.range n).all λj=>((l[j]?).map λoj=>match oj.dst with|some d=>!(oi.looksAt l.toArray).contains d||Region.waitsFor md l.toArray i j|none=>true).getD true)).getD true))))
section
variable {P:Program}{l:List Oper}{md:Region.Mode}{aF:Act}{S:World->Prop}{Q:Exit->Act->World->Prop}{n:Nat}
structure Agree(l:List Oper)(n:Nat)(aF:Act)(listed:Array Bool)(a:Act):Prop where
 defers:a.defers=aF.defers
 size:a.tmps.size=aF.tmps.size
 slot:∀t,(∀j o,j<n->l[j]? =some o->o.dst=some t->listed.getD j false=true)->a.tmps[t]? =aF.tmps[t]?
def RY(n:Nat)(listed:Array Bool):Nat:=((List.range n).filter λi=>!listed.getD i false).length
theorem ru{α:Type}(p q:α->Bool)(h:∀x,q x=true->p x=true):∀(l:List α) (y:α),y∈l->p y=true->q y=false->l.Nodup->(∀x,p x=true->x≠y->q x=true)->(l.filter p).length=(l.filter q).length+1
 |[],y,hy,_,_,_,_=>by cases hy
 |x::l,y,hy,hp,hq,hnd,hpq=>by
  rw[List.nodup_cons]at hnd;by_cases e:x=y
  ·subst e;rw[List.filter_cons_of_pos hp,List.filter_cons_of_neg (by grind)]
   have:l.filter p=l.filter q:=List.filter_congr λz hz=>by
    have hzx:z≠x:=λe=>hnd.1 (e▸hz)
    cases hpz:p z with
    |true=>rw[hpq z hpz hzx]
    |false=>grind
   rw[this];rfl
  ·have hy':y∈l:=by grind
   have ih:=ru p q h l y hy' hp hq hnd.2 hpq
   grind
theorem mU(h:HH md l n=true):Region.noSelect l.toArray=true/\n<=l.length/\(n=l.length\/(n<l.length/\Region.sinkB md l.toArray n=true/\Region.chainB md l.toArray n=true))/\
 Region.seqB md l.toArray (l.length-n) n (cH n (l.length-n))=true/\
 ∀i oi,i<n->l[i]? =some oi->(∀e∈oi.after,Region.binds md e=true->e.on<i)/\∀j oj,j<n->l[j]? =some oj->∀d,oj.dst=some d->d∈oi.looksAt l.toArray->Region.waitsFor md l.toArray i j=true:=by
 simp only[HH,Bool.and_eq_true,Bool.or_eq_true,decide_eq_true_eq]at h;obtain⟨h1,h2,h3,h4,h5⟩:=h;refine⟨h1,h2,h3,h4,λi oi hi hoi=>?_⟩;have h6:=List.all_eq_true.1 h5 i (List.mem_range.2 hi);rw[hoi]at h6;simp only[Option.map_some,Option.getD_some,Bool.and_eq_true]at h6;refine⟨λe he hb=>?_,λj oj hj hoj d hd hmem=>?_⟩
 ·have:=Array.all_eq_true_iff_forall_mem.1 h6.1 e he
  grind
 grind
theorem G1{listed:Array Bool}(inv:HeadInv md l.toArray n listed)(hn:n<=l.length)(h:RY n listed=0):listed=cH n (l.length-n):=by
 have hz:∀i,i<n->listed.getD i false=true:=by
  intro i hi;have h0:=List.eq_nil_of_length_eq_zero h;simp_all
 have hsz:listed.size=l.length:=by rw[inv.size];simp
 apply Array.ext
 ·grind[cH]
 ·intro i h1 h2;by_cases hi:i<n
  ·have:=hz i hi;simp[h1]at this
   grind[cH]
  ·have:=inv.tail i (by omega) (by grind);simp[h1]at this
   grind[cH]
end
end Go.Proofs.YtliknccmjjncbaaGreat
