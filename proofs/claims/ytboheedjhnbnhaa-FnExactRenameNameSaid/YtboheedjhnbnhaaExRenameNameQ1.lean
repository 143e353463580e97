/- Proved: for every input the law 'FnExactRenameName' returns true and its arguments read behind the call as before: part 1 of its proof. No condition. -/
import Derived.WalkKit
import Derived.Lib.Hide
import Derived.WalkSpells
import Derived.Laws.OwnMore
import Derived.Deep.AppendLies
import Derived.Deep.Draws
import Derived.Maps.AppendAt
import Derived.RegionTactic
import Derived.OwnWalk
import Derived.Below
import Derived.Laws.AppendOwnNone
import Derived.Deep.QuietTactic
import Derived.BigQuiet
import Derived.StillTailTactics
import Derived.Laws.Cells
import Derived.Laws.IdiomCopy
import Derived.ChangeKeysEq
import Derived.Laws.BytesArg
import Derived.Laws.StructEq
import Derived.Laws.Tables
import Derived.Great.BuildSlice
import Derived.StillTail
import Derived.OrdersHeld
import Derived.Test.YtboheedjhnbnhaaExRenameNameQ0
set_option linter.unusedVariables false
set_option linter.unusedSimpArgs false
namespace Go.Proofs.Ytboheedjhnbnhaa
open Go.RowKit
section
variable {P : Program} {N : Nat} {s : AS} {w0 : Cx} {w w' : World} {a : Act} {E : En}
theorem init_ok {args : List (Bool × List DV)} {vs : List Value} {B fr : Nat→Prop} {hfr : ∀ b,w.heap.size≤b→fr b} {cu : Option (Nat × Value)} {ow : Nat→Prop} {how : ∀ b,fr b→ow b} (hB : ∀ b,B b→b < w.heap.size) (ha : ArgsR w B vs args) (hN : vs.length≤N) :
    RepE ⟨w,B,fr,hfr,cu,ow,how⟩ N (initS args) { tmps:=vs.toArray ++ Array.replicate (N - vs.toArray.size) undef,defers:=[] } w ⟨fun _=>undef,fun _=>[],fun _=>[],B⟩:=by
  refine ⟨by simp;omega,rfl,⟨rfl,rfl,rfl,Nat.le_refl _,fun _ _=>rfl⟩,fun i hi=>by simp [initS] at hi,fun t=>?_,hB,fun b hb i hi=>by simp [initS] at hi,fun i hi=>by simp [initS] at hi,fun i j hi=>by simp [initS] at hi,fun i j hi=>by simp [initS] at hi,fun i hi=>by simp [initS] at hi,fun b hb=>.inl hb,fun i hi=>by simp [initS] at hi,fun i hi=>by simp [initS] at hi⟩
  simp only [initS]
  split
  · rename_i b ds hx
    have hlt : t < vs.length:=by rw [ha.1];exact (List.getElem?_eq_some_iff.1 hx).1
    have hv : (vs.toArray ++ Array.replicate (N - vs.toArray.size) undef).getD t undef = vs[t]:=by
      simp [Array.getElem?_append,hlt]
    rw [hv]
    have:=ha.2 t _ _ (List.getElem?_eq_getElem hlt) hx
    unfold ArgR at this
    show PartR _ _ _ _ b _ _
    unfold PartR
    cases b with
    | true=>obtain ⟨vals,h1,h2⟩:=this;exact ⟨vals,h1,CellsR.ofRep h2⟩
    | false=>exact CellsR.ofRep this
  · trivial
def rvRun (tmps : Array Value) : ResultVar→Sem Value
  | .tmp t=>pure (tmps.getD t undef)
  | .cell a t=>do loadVar t (← asAddr (tmps.getD a undef))
theorem rv_ok (h : RepE w0 N s a w E) {rv : ResultVar} {x : AV} (hx : rvV P s rv = some x) : ∃ v,(rvRun a.tmps rv).run P w = .ok v w∧SlotR w E s.lv s.c x v:=by
  cases rv with
  | tmp t=>simp only [rvV] at hx;injection hx with hx;subst hx;exact ⟨_,rfl,h.slot t⟩
  | cell t ty =>
    obtain ⟨u,h1,h2⟩:=ldA_ok (P:=P) h hx (h.slot t)
    refine ⟨u,?_,h2⟩
    simp only [rvRun]
    cases hv : a.tmps.getD t undef with
    | pointer ad =>
      rw [hv] at h1
      cases ad with
      | none=>simp [Instr.loadAt,Instr.sureAddr] at h1
      | some ad=>simpa [Instr.loadAt,Instr.sureAddr,asAddr] using h1
    | _=>rw [hv] at h1;simp [Instr.loadAt,Instr.sureAddr] at h1
def RunsTo (P : Program) (w : World) (tmps : Array Value) : List ResultVar→List Value→Prop
  | [],[]=>True
  | rv :: rvs,v :: vs=>(rvRun tmps rv).run P w = .ok v w∧RunsTo P w tmps rvs vs
  | _,_=>False
theorem runs_mapM {tmps : Array Value} : ∀ {rvs : List ResultVar} {vs : List Value},RunsTo P w tmps rvs vs→(rvs.mapM (rvRun tmps)).run P w = .ok vs w
  | [],[],_=>rfl
  | rv :: rvs,v :: vs,h=>by simp [List.mapM_cons,h.1,runs_mapM h.2]
  | [],_ :: _,h=>h.elim
  | _ :: _,[],h=>h.elim
theorem run_results {fn : Func} {tmps : Array Value} {vs : List Value} (h : RunsTo P w tmps fn.results.toList vs) : ∃ v,(results fn tmps).run P w = .ok v w∧if vs.length = 1 then vs = [v] else v = .tuple vs.toArray:=by
  have h1 : (fn.results.mapM (rvRun tmps)).run P w = .ok vs.toArray w:=by
    rw [Array.mapM_eq_mapM_toList]
    simp [runs_mapM h]
  have h2 : results fn tmps = (do let vs ← fn.results.mapM (rvRun tmps);pure (if h : vs.size = 1 then vs[0] else .tuple vs)):=by
    unfold results
    congr 1
  rw [h2]
  by_cases hl : vs.length = 1
  · match vs,hl with
    | [v],_=>exact ⟨v,by simp [h1],by simp⟩
  · refine ⟨.tuple vs.toArray,by simp [h1,hl],by simp [hl]⟩
theorem rvP_ok {f : List AC→Prop} {b : Bool} {x : Option AV} (h : rvP f b x) : ∃ cs,x = some (.p b cs)∧f cs:=by
  unfold rvP at h
  split at h
  · rename_i b' cs;obtain ⟨rfl,h⟩:=h;exact ⟨cs,rfl,h⟩
  · exact h.elim
theorem retDeep_ok2 {s0 : AS} {E0 : En} (h0 : RepE w0 N s0 a w E0) : ∀ {rvs : List ResultVar} {rs : List Rs} {s : AS} {E : En},RetDeep P s0 rvs rs s→RepE w0 N s a w E→Stay w E0 s0.lv s0.c w E s.lv s.c →
    ∃ (vs : List Value) (fs : List (List Nat)),RunsTo P w a.tmps rvs vs∧vs.length = rs.length∧fs.length = rs.length∧fs.flatten.Nodup∧(∀ b ∈ fs.flatten,∃ j,j < s.n∧(b ∈ E.m j ∨ b ∈ E.o j)) ∧
      ∀ (j : Nat) u r f,vs[j]? = some u→rs[j]? = some r→fs[j]? = some f→r.2.2 = true∧∃ vals : List Value,(if r.1 then u = .agg vals.toArray else vals = [u])∧OwnL w 0 vals r.2.1 f∧∀ x ∈ vals,∀ b ∈ x.ownBlock.toList,∃ j,j < s.n∧b ∈ E.m j
  | [],[],s,E,_,h,_=>⟨[],[],trivial,rfl,rfl,List.nodup_nil,by simp,fun j u r f h1=>by simp at h1⟩
  | rv :: rvs,(b,ds,dp) :: rs,s,E,hd,h,hst=>by
    obtain ⟨hdp,hd⟩:=hd
    obtain ⟨cs,hcs,s',hg,hd⟩:=rvP_ok hd
    obtain ⟨v,hv1,hv2⟩:=rv_ok h0 hcs
    obtain ⟨vals,hp,hcell⟩:=part_get (show PartR w E0 s0.lv s0.c b cs v from hv2)
    obtain ⟨g1,g2,g3,g4,g5⟩:=hg
    obtain ⟨E',f,hgp⟩:=g5 w0 N a w E vals h (hcell.stay hst)
    have hst' : Stay w E0 s0.lv s0.c w E' s'.lv s'.c:=by
      refine ⟨fun b hb=>⟨hgp.A' b (hst.A b hb).1,rfl⟩,fun i st hlt hl=>?_,by rw [g2];exact hst.c⟩
      obtain ⟨k1,k2⟩:=hst.L i st hlt (g4 i st hl)
      exact ⟨k1,by rw [hgp.v];exact k2⟩
    obtain ⟨vs,fs,r1,r2,r3,r4,r5,r6⟩:=retDeep_ok2 h0 hd hgp.rep hst'
    refine ⟨v :: vs,f :: fs,⟨hv1,r1⟩,by simp [r2],by simp [r3],?_,?_,?_⟩
    · rw [List.flatten_cons]
      refine List.nodup_append.2 ⟨hgp.own.nodup,r4,fun x hx y hy e=>?_⟩
      subst e
      obtain ⟨j,hj,hbj⟩:=r5 x hy
      rcases hbj with hbj | hbj
      · exact hgp.rep.A_m x (hgp.A x hx) j hj hbj
      · exact hgp.o x hx j hj hbj
    · intro x hx
      rw [List.flatten_cons] at hx
      rcases List.mem_append.1 hx with hx | hx
      · exact hgp.from_ x hx
      · obtain ⟨j,hj,hbj⟩:=r5 x hx
        exact ⟨j,by rw [g1] at hj;exact hj,hbj.imp (hgp.m' j x) (hgp.o' j x)⟩
    · intro j u r f' k1 k2 k3
      cases j with
      | zero=>simp at k1 k2 k3;subst k1 k2 k3;exact ⟨hdp,vals,hp,hgp.own,hgp.top⟩
      | succ j =>
        obtain ⟨q1,vals,q2,q3,q4⟩:=r6 j u r f' (by simpa using k1) (by simpa using k2) (by simpa using k3)
        exact ⟨q1,vals,q2,q3,fun x hx b hb=>by obtain ⟨j,hj,h1⟩:=q4 x hx b hb;exact ⟨j,by rw [g1] at hj;exact hj,hgp.m' j b h1⟩⟩
  | [],_ :: _,_,_,hd,_,_=>hd.elim
  | _ :: _,[],_,_,hd,_,_=>hd.elim
theorem retDeep_ok {s0 : AS} {E0 : En} (h0 : RepE w0 N s0 a w E0) {rvs : List ResultVar} {rs : List Rs} {s : AS} {E : En} (hd : RetDeep P s0 rvs rs s) (h : RepE w0 N s a w E) (hst : Stay w E0 s0.lv s0.c w E s.lv s.c) :
    ∃ (vs : List Value) (fs : List (List Nat)),RunsTo P w a.tmps rvs vs∧vs.length = rs.length∧fs.length = rs.length∧fs.flatten.Nodup∧(∀ b ∈ fs.flatten,∃ j,j < s.n∧(b ∈ E.m j ∨ b ∈ E.o j)) ∧
      ∀ (j : Nat) u r f,vs[j]? = some u→rs[j]? = some r→fs[j]? = some f→r.2.2 = true∧∃ vals : List Value,(if r.1 then u = .agg vals.toArray else vals = [u])∧OwnL w 0 vals r.2.1 f:=by
  obtain ⟨vs,fs,r1,r2,r3,r4,r5,r6⟩:=retDeep_ok2 h0 hd h hst
  refine ⟨vs,fs,r1,r2,r3,r4,r5,fun j u r f k1 k2 k3=>?_⟩
  obtain ⟨q1,vals,q2,q3,-⟩:=r6 j u r f k1 k2 k3
  exact ⟨q1,vals,q2,q3⟩
theorem retRd_ok (h : RepE w0 N s a w E) : ∀ {rvs : List ResultVar} {rs : List Rs},RetRd P s rvs rs →
    ∃ (vs : List Value),RunsTo P w a.tmps rvs vs∧vs.length = rs.length∧∀ (j : Nat) u r,vs[j]? = some u→rs[j]? = some r→r.2.2 = false∧∃ vals : List Value,(if r.1 then u = .agg vals.toArray else vals = [u])∧RepL w (AM s E) vals r.2.1
  | [],[],_=>⟨[],trivial,rfl,fun j u r h1=>by simp at h1⟩
  | rv :: rvs,(b,ds,dp) :: rs,hd=>by
    obtain ⟨hdp,hd,hrest⟩:=hd
    obtain ⟨cs,hcs,hrd⟩:=rvP_ok hd
    obtain ⟨v,hv1,hv2⟩:=rv_ok h hcs
    obtain ⟨vals,hp,hcell⟩:=part_get (show PartR w E s.lv s.c b cs v from hv2)
    obtain ⟨vs,r1,r2,r6⟩:=retRd_ok h hrest
    refine ⟨v :: vs,⟨hv1,r1⟩,by simp [r2],?_⟩
    intro j u r k1 k2
    cases j with
    | zero=>simp at k1 k2;subst k1 k2;exact ⟨hdp,vals,hp,rdL_ok h hcell hrd⟩
    | succ j=>exact r6 j u r (by simpa using k1) (by simpa using k2)
  | [],_ :: _,hd=>hd.elim
  | _ :: _,[],hd=>hd.elim
def cxR (w : World) (B : Nat→Prop) : Cx:=⟨w,B,fun b=>w.heap.size≤b,fun _ h=>h,none,fun b=>w.heap.size≤b,fun _ h=>h⟩
theorem OwnL.hi {w : World} {b0 b1 : Nat} {vs : List Value} {ds : List DV} {f : List Nat} (h : OwnL w b0 vs ds f) (hf : ∀ b ∈ f,b1≤b) : OwnL w b1 vs ds f:=by
  induction h with
  | nil=>exact .nil
  | sc h1 _ ih=>exact .sc h1 (ih hf)
  | sl h1 h2 h3 _ _ h6 ih1 ih2 =>
    refine .sl ?_ h2 h3 (ih1 fun b hb=>hf b (by simp [hb])) (ih2 fun b hb=>hf b (by simp [hb])) h6
    refine ⟨h1.1,?_⟩
    rcases h1.2 with h | ⟨g,cap,cur,rfl,k2,k3,k4⟩
    · exact .inl h
    · exact .inr ⟨g,cap,cur,rfl,hf g (by simp [Value.ownBlock]),k3,k4⟩
theorem Bel.below0 {w w' : World} {B : Nat→Prop} (h : Bel (cxR w B) w') : Below w.heap.size w w':=⟨h.os,h.tape,h.output,h.size,fun b hb=>h.block b (fun hf=>Nat.lt_irrefl _ (Nat.lt_of_lt_of_le hb hf))⟩
theorem ret_done {fn : Func} {B : Nat→Prop} {w w' : World} {a' : Act} {s : AS} {E : En} {res : List Rs} (hr : RepE (cxR w B) N s a' w' E) (hq : RetDeep P s fn.results.toList res s ∨ RetRd P s fn.results.toList res) :
    a'.defers = []∧∃ v,(results fn a'.tmps).run P w' = .ok v w'∧RetV w B res (.returned v) w':=by
  refine ⟨hr.defers,?_⟩
  rcases hq with hq | hq
  · obtain ⟨us,fs,r1,r2,r3,r4,r5,r6⟩:=retDeep_ok hr hq hr Stay.refl
    obtain ⟨v,k1,k2⟩:=run_results r1
    refine ⟨v,k1,v,rfl,⟨us,fs,by rw [r2] at k2;exact k2,r2,r3,r4,fun j u r f e1 e2 e3=>?_⟩,hr.bel.below0⟩
    obtain ⟨q1,vals,q2,q3⟩:=r6 j u r f e1 e2 e3
    refine ⟨vals,q2,?_⟩
    rw [if_pos q1]
    refine q3.hi fun b hb=>?_
    obtain ⟨j,hj,h1⟩:=r5 b (List.mem_flatten.2 ⟨f,List.mem_of_getElem? e3,hb⟩)
    exact h1.elim (hr.mF j hj b) (hr.oF j hj b)
  · obtain ⟨us,r1,r2,r6⟩:=retRd_ok hr hq
    obtain ⟨v,k1,k2⟩:=run_results r1
    refine ⟨v,k1,v,rfl,⟨us,List.replicate res.length [],by rw [r2] at k2;exact k2,r2,by simp,by simp,fun j u r f e1 e2 e3=>?_⟩,hr.bel.below0⟩
    obtain ⟨q1,vals,q2,q3⟩:=r6 j u r e1 e2
    have hf0 : f = []:=List.eq_of_mem_replicate (List.mem_of_getElem? e3)
    refine ⟨vals,q2,?_⟩
    rw [if_neg (by simp [q1])]
    refine ⟨hf0,q3.mono fun b hb=>?_⟩
    have hlt : b < w'.heap.size:=by
      rcases hb with hb | ⟨i,hi,hnd,hb⟩
      · exact hr.A_lt b hb
      · exact hr.m_lt i hi b hb
    by_cases hge : w.heap.size≤b
    · exact .inr ⟨hge,hlt,by simp⟩
    · left
      rcases hb with hb | ⟨i,hi,hnd,hb⟩
      · exact (hr.anc b hb).resolve_right hge
      · exact absurd (hr.mF i hi b hb) hge
end
end Go.Proofs.Ytboheedjhnbnhaa
namespace Go.Proofs.Ytboheedjhnbnhaa
open Go.RowKit
section
variable {P : Program} {N : Nat} {s : AS} {o : Oper} {K : AS→Prop}
def ixE (k : Nat) : Option (TypeId × Nat)→Option (List DV)→Option AV
  | some (_,k'),some e=>if k' = k then some (.p false [.rd e]) else none
  | _,_=>none
def ixO (id st j : Nat) : Option (TypeId × Nat)→Option Ob→Option AV
  | some (_,k'),some (.row _ _ k es _)=>if k' = k∧j < es.length then some (.p false [.elt id st k j 0]) else none
  | some (_,k'),some (.arr _ _ k es)=>if k' = k∧j < es.length then some (.p false [.elt id st k j 0]) else none
  | some (el,k'),some (.frz _ (.sl _ k es))=>ixE k (some (el,k')) es[j]?
  | _,_=>none
theorem idx_d {t t' k : Nat} {es : List (List DV)} {i : Int} (h0 : 0≤i) : idxV P s t (.d (.sl t' k es)) i = ixE k (tel P t) es[i.toNat]?:=by
  unfold idxV
  rw [if_pos h0]
  cases h1 : tel P t with
  | none=>rfl
  | some p=>cases h2 : es[i.toNat]? <;> simp [ixE,h2]
theorem idx_o {t id st : Nat} {i : Int} (h0 : 0≤i) : idxV P s t (.own id st) i = ixO id st i.toNat (tel P t) (s.own? id st):=by
  unfold idxV
  rw [if_pos h0]
  cases h1 : tel P t with
  | none=>rfl
  | some p =>
    cases h2 : s.own? id st with
    | none=>simp [ixO,h2]
    | some ob =>
      cases ob with
      | frz st' x =>
        cases x with
        | sc v=>simp [ixO,h2]
        | sl t' k es=>cases h3 : es[i.toNat]? <;> simp [ixO,ixE,h2,h3]
      | _=>simp [ixO,h2]
end
end Go.Proofs.Ytboheedjhnbnhaa
namespace Go.Proofs.Ytboheedjhnbnhaa
open Go.RowKit
section
variable {P : Program} {s s' : AS}
structure Alike (s s' : AS) (xs : List Operand) : Prop where
  ob : s'.ob = s.ob
  n : s'.n = s.n
  sl : ∀ t,Operand.tmp t ∈ xs→s'.sl t = s.sl t
theorem Alike.ev {xs : List Operand} (h : Alike s s' xs) {x : Operand} (hx : x ∈ xs) : s'.ev x = s.ev x:=by
  cases x with
  | tmp t=>exact h.sl t hx
  | const v=>rfl
  | global g=>rfl
  | func f=>rfl
theorem Alike.own {xs : List Operand} (h : Alike s s' xs) (i st : Nat) : s'.own? i st = s.own? i st:=by unfold AS.own?;rw [h.ob,h.n]
theorem Alike.sub {xs ys : List Operand} (h : Alike s s' xs) (hy : ∀ y ∈ ys,y ∈ xs) : Alike s s' ys:=⟨h.ob,h.n,fun t ht=>h.sl t (hy _ ht)⟩
theorem hV_alike {op : Op} (h : Alike s s' op.operands.toList) : hV P s' op = hV P s op:=by
  have ho:=fun i st=>h.own i st
  have hoo : s'.own? = s.own?:=by funext i st;exact ho i st
  cases op <;> try rfl
  case move x=>simp only [hV,h.ev (x:=x) (by simp [Op.operands])]
  case assign x=>simp only [hV,h.ev (x:=x) (by simp [Op.operands])]
  case pick c x y=>simp only [hV,h.ev (x:=x) (by simp [Op.operands]),h.ev (x:=y) (by simp [Op.operands]),h.ev (x:=c) (by simp [Op.operands])]
  case load t x=>simp only [hV,h.ev (x:=x) (by simp [Op.operands])];unfold ldA;rw [hoo]
  case fieldAddr t x f=>simp only [hV,h.ev (x:=x) (by simp [Op.operands])];unfold faV;rw [hoo]
  case field t x f=>simp only [hV,h.ev (x:=x) (by simp [Op.operands])]
  case indexAddr t x ix=>simp only [hV,h.ev (x:=x) (by simp [Op.operands]),h.ev (x:=ix) (by simp [Op.operands])];unfold idxV;rw [hoo]
  case index t x ix=>simp only [hV,h.ev (x:=x) (by simp [Op.operands]),h.ev (x:=ix) (by simp [Op.operands])]
  case binOp op t x y ty=>simp only [hV,h.ev (x:=x) (by simp [Op.operands]),h.ev (x:=y) (by simp [Op.operands])]
  case unOp op t x=>simp only [hV,h.ev (x:=x) (by simp [Op.operands])]
  case convert a b x =>
    have hrd : rdO s' = rdO s:=by funext c;unfold rdO;rw [h.ob,h.n]
    have hcv : ∀ y,cvE P s' a b y = cvE P s a b y:=by intro y;unfold cvE cvB;rw [hrd]
    simp only [hV,h.ev (x:=x) (by simp [Op.operands]),hcv]
  case nilCheck x=>simp only [hV,h.ev (x:=x) (by simp [Op.operands])];unfold ncV;rw [hoo]
  case extract x ix=>simp only [hV,h.ev (x:=x) (by simp [Op.operands])]
  case slice t x lo hi mx =>
    cases mx with
    | some _=>rfl
    | none =>
      have e1 : s'.evI lo = s.evI lo:=by
        cases lo with
        | none=>rfl
        | some y=>simp only [AS.evI,h.ev (x:=y) (by simp [Op.operands])]
      have e2 : s'.evI hi = s.evI hi:=by
        cases hi with
        | none=>rfl
        | some y=>simp only [AS.evI,h.ev (x:=y) (by simp [Op.operands])]
      simp only [hV,e1,e2,h.ev (x:=x) (by simp [Op.operands])]
      unfold slcV;rw [hoo]
  case call c =>
    obtain ⟨callee,args,ts⟩:=c
    simp only [hV]
    unfold lenC
    split
    · rename_i y t h1 h2
      have : y ∈ (Op.call ⟨.builtin .len,args,ts⟩).operands.toList:=by simp [Op.operands,Call.operands,← h1];simpa using congrArg (y ∈ ·) h1
      rw [h.ev this];unfold lenV;rw [hoo]
    · rename_i y z h1
      have m1 : y ∈ (Op.call ⟨.builtin .max,args,ts⟩).operands.toList:=by simp [Op.operands,Call.operands];simp [← Array.mem_toList_iff,h1]
      have m2 : z ∈ (Op.call ⟨.builtin .max,args,ts⟩).operands.toList:=by simp [Op.operands,Call.operands];simp [← Array.mem_toList_iff,h1]
      rw [h.ev m1,h.ev m2]
    · rename_i y z h1
      have m1 : y ∈ (Op.call ⟨.builtin .min,args,ts⟩).operands.toList:=by simp [Op.operands,Call.operands];simp [← Array.mem_toList_iff,h1]
      have m2 : z ∈ (Op.call ⟨.builtin .min,args,ts⟩).operands.toList:=by simp [Op.operands,Call.operands];simp [← Array.mem_toList_iff,h1]
      rw [h.ev m1,h.ev m2]
    · rfl
end
end Go.Proofs.Ytboheedjhnbnhaa
namespace Go.Proofs.Ytboheedjhnbnhaa
open Go.RowKit
inductive HK where
  | v (x : AV)
  | c (res : List Rs)
  | b (el k : Nat) (parts : List (Nat × Operand))
  | a (t : TypeId) (cs : List AC)
  | p (op : Op)
def PureV (P : Program) (a : Act) (v : Value) : Op→Prop
  | .build t parts=>∃ us : List Value,v = .agg us.toArray∧P.built t (parts.map fun x=>(x.1,a.eval x.2)).toList = some us.toArray
  | .move x=>v = a.eval x
  | .assign x=>v = a.eval x
  | .extract x ix=>∃ vs : List Value,a.eval x = .tuple vs.toArray∧vs[ix]? = some v
  | .call ⟨.builtin .append,args,_⟩=>∃ X Y,args = #[X,Y]∧v = a.eval X
  | _=>False
def isPure : Op→Bool
  | .build _ _=>true
  | .move _=>true
  | .assign _=>true
  | .extract _ _=>true
  | _=>false
def hvRes (rs : List Rs) : AV:=match rs.map fun r=>(r.1,r.2.1.map AC.d) with | [(b,cs)]=>.p b cs | l=>.tup l
def catV (a : Act) (parts : List (Nat × Operand)) : List Value:=parts.flatMap fun x=>(a.eval x.2).cells.toList
def dL : List AC→Option (List DV)
  | []=>some []
  | .d x :: r=>match dL r with | some xs=>some (x :: xs) | none=>none
  | _ :: _=>none
def dLL : List (List AC)→Option (List (List DV))
  | []=>some []
  | e :: r=>match dL e,dLL r with | some x,some xs=>some (x :: xs) | _,_=>none
def bView (el k : Nat) (es : List (List AC)) : AV:=if es.isEmpty then .p false [.emp] else match dLL es with | some ds=>.p false [.d (.sl el k ds)] | none=>.und
def isEmp : AV→Bool
  | .p false [.emp]=>true
  | .p false [.nil]=>true
  | _=>false
def solidC : AC→Bool
  | .d (.sc _)=>true
  | .nil=>true
  | .own _ _=>true
  | .ptr _ _ _=>true
  | .elt _ _ _ _ _=>true
  | .sub _ _ _ _ _=>true
  | .emp=>true
  | _=>false
def finV (pr : Bool) (x : AV) : AV:=if pr then x else match x with
  | .p b cs=>if cs.all solidC then .p b cs else .und
  | _=>.und
def hVb (P : Program) (s : AS) : Op→Option AV
  | .build t parts=>if tpl P t then (match zeroAC P t with | some z=>(match fillA P s t parts.toList z with | some cs=>some (.p true cs) | none=>none) | none=>none) else none
  | op=>hV P s op
def HRun (P : Program) (pr : Bool) (h q : AS) (o : Oper) (kd : HK) (x : AV) (q' : AS) : Prop :=
  (∃ y,hVb P h o.op = some y∧kd = .v y∧x = y∧q' = q.put o.dst (finV pr y)) ∨
  (∃ f args ts ys res,o.op = .call ⟨.value (.func f),args,ts⟩∧Meets P f ys res∧argsRd h args.toList ys∧res.all (·.2.2) = true∧(pr = true→resO false res 0 = [])∧kd = .c res∧x = hvRes res∧q' = (q.pushL (resO false res q.c)).put o.dst (resAV res q.n q.c)) ∨
  (∃ t len parts el k es esq,o.op = .buildSlice t len parts∧pr = false∧tel P t = some (el,k)∧(tzero P el).isSome = true∧0 < k∧parts.toList.length = len∧len * k≤16777216∧bsF h k parts.toList 0 = some es∧bsF q k parts.toList 0 = some esq ∧
    kd = .b el k parts.toList∧x = bView el k es∧q' = (q.push (.arr q.c el k esq)).put o.dst (.p false [.own q.n q.c])) ∨
  (∃ t cs,o.op = .alloc t∧pr = false∧zeroAC P t = some cs∧kd = .a t cs∧x = .und∧q' = (q.push (.var q.c t cs)).put o.dst (.p false [.ptr q.n q.c 0])) ∨
  (∃ y z,isPure o.op = true∧pr = false∧hVb P h o.op = some y∧hVb P q o.op = some z∧kd = .p o.op∧x = y∧q' = q.put o.dst z) ∨
  (∃ X Y t el k by_ c t2 es zs res,o.op = .call ⟨.builtin .append,#[X,Y],#[t,t]⟩∧pr = false∧tel P t = some (el,k)∧tzero P el = some zs∧zs.length = k∧0 < k∧tby P el = some by_∧isEmp (h.ev X) = true∧h.ev Y = .p false [c]∧rdC h c (.sl t2 k es)∧es ≠ []∧Flat es.flatten ∧
    es.length≤maxLen∧es.length * by_≤140737488355328∧res = [(false,[.sl el k es],true)]∧kd = .c res∧x = hvRes res∧q' = (q.pushL (resO false res q.c)).put o.dst (resAV res q.n q.c)) ∨
  (∃ X Y t el k c t2 k2,o.op = .call ⟨.builtin .append,#[X,Y],#[t,t]⟩∧pr = false∧tel P t = some (el,k)∧isEmp (h.ev X) = true∧h.ev Y = .p false [c]∧rdC h c (.sl t2 k2 [])∧kd = .p o.op∧x = h.ev X∧q' = q.put o.dst (q.ev X)) ∨
  (∃ f args ts ys r,o.op = .call ⟨.value (.func f),args,ts⟩∧pr = false∧Meets P f ys [r]∧argsRdF h args.toList ys∧r.2.2 = false∧kd = .v (hvRes [r])∧x = hvRes [r]∧q' = q.put o.dst (finV pr (hvRes [r])))
def En.plus (E : En) (m M : Nat) : En:={ E with A:=fun b=>E.A b ∨ (m≤b∧b < M) }
def Fact (P : Program) (m : Nat) (E : En) (L : Nat→Option Nat) (c : Nat) (a : Act) (w : World) (v : Value) (f : List Nat) : HK→Prop
  | .v x=>f = []
  | .c res=>∃ vs fs,(if res.length = 1 then vs = [v] else v = .tuple vs.toArray)∧ResQs w m (fun _=>False) vs res fs∧f = fs.flatten∧f.Nodup∧∀ r ∈ res,r.2.2 = true
  | .b el k parts=>∃ g,v = .slice (some ⟨g,0,none⟩) parts.length parts.length∧f = [g]∧m≤g∧Blk w g el (catV a parts).toArray
  | .a t cs=>∃ g vals,v = .pointer (some ⟨g,0,none⟩)∧f = [g]∧m≤g∧Blk w g t (vals : List Value).toArray∧∀ w E L c,CellsR w E L c cs vals
  | .p op=>f = []∧PureV P a v op
section
variable {P : Program} {w0 : Cx} {w w' : World} {N m : Nat} {s h H : AS} {a : Act} {E : En} {o : Oper}
theorem ResQs.keep {b0 : Nat} {A : Nat→Prop} (hk : ∀ b,b < w.heap.size→w'.heap[b]? = w.heap[b]?) : ∀ {vs : List Value} {rs : List Rs} {fs : List (List Nat)},(∀ r ∈ rs,r.2.2 = true)→ResQs w b0 A vs rs fs→ResQs w' b0 A vs rs fs
  | [],[],[],_,_=>trivial
  | v :: vs,r :: rs,f :: fs,hd,h=>by
    refine ⟨?_,ResQs.keep hk (fun r hr=>hd r (List.mem_cons_of_mem _ hr)) h.2⟩
    obtain ⟨vals,h1,h2⟩:=h.1
    have hr:=hd r (List.mem_cons_self ..)
    rw [if_pos hr] at h2
    exact ⟨vals,h1,by rw [if_pos hr];exact h2.keep fun b hb=>hk b (h2.blocks b hb).2⟩
  | [],_ :: _,_,_,h=>by cases h
  | [],[],_ :: _,_,h=>by cases h
  | _ :: _,[],_,_,h=>by cases h
  | _ :: _,_ :: _,[],_,h=>by cases h
theorem ResQs.blocks {b0 : Nat} {A : Nat→Prop} : ∀ {vs : List Value} {rs : List Rs} {fs : List (List Nat)},(∀ r ∈ rs,r.2.2 = true)→ResQs w b0 A vs rs fs→∀ b ∈ fs.flatten,b0≤b∧b < w.heap.size
  | [],[],[],_,_=>by simp
  | v :: vs,r :: rs,f :: fs,hd,h=>by
    intro b hb
    rw [List.flatten_cons] at hb
    rcases List.mem_append.1 hb with hb | hb
    · obtain ⟨vals,h1,h2⟩:=h.1
      rw [if_pos (hd r (List.mem_cons_self ..))] at h2
      exact h2.blocks b hb
    · exact ResQs.blocks (fun r hr=>hd r (List.mem_cons_of_mem _ hr)) h.2 b hb
  | [],_ :: _,_,_,h=>by cases h
  | [],[],_ :: _,_,h=>by cases h
  | _ :: _,[],_,_,h=>by cases h
  | _ :: _,_ :: _,[],_,h=>by cases h
theorem ResQs.lo {b0 b1 : Nat} {A : Nat→Prop} (hb : b1≤b0) : ∀ {vs : List Value} {rs : List Rs} {fs : List (List Nat)},(∀ r ∈ rs,r.2.2 = true)→ResQs w b0 A vs rs fs→ResQs w b1 A vs rs fs
  | [],[],[],_,_=>trivial
  | v :: vs,r :: rs,f :: fs,hd,h=>by
    refine ⟨?_,ResQs.lo hb (fun r hr=>hd r (List.mem_cons_of_mem _ hr)) h.2⟩
    obtain ⟨vals,h1,h2⟩:=h.1
    have hr:=hd r (List.mem_cons_self ..)
    rw [if_pos hr] at h2
    exact ⟨vals,h1,by rw [if_pos hr];exact h2.lo hb⟩
  | [],_ :: _,_,_,h=>by cases h
  | [],[],_ :: _,_,h=>by cases h
  | _ :: _,[],_,_,h=>by cases h
  | _ :: _,_ :: _,[],_,h=>by cases h
theorem ResQs.parts {b0 : Nat} {A : Nat→Prop} {L : Nat→Option Nat} {c : Nat} (hA : ∀ b,b0≤b→b < w.heap.size→E.A b) : ∀ {vs : List Value} {rs : List Rs} {fs : List (List Nat)},(∀ r ∈ rs,r.2.2 = true)→ResQs w b0 A vs rs fs→PartsR w E L c (rs.map fun r=>(r.1,r.2.1.map AC.d)) vs
  | [],[],[],_,_=>trivial
  | v :: vs,r :: rs,f :: fs,hd,h=>by
    refine ⟨?_,ResQs.parts hA (fun r hr=>hd r (List.mem_cons_of_mem _ hr)) h.2⟩
    obtain ⟨vals,h1,h2⟩:=h.1
    rw [if_pos (hd r (List.mem_cons_self ..))] at h2
    exact part_mk h1 (CellsR.ofRep (h2.rep.mono fun b hb=>hA b (h2.blocks b hb).1 (h2.blocks b hb).2))
  | [],_ :: _,_,_,h=>by cases h
  | [],[],_ :: _,_,h=>by cases h
  | _ :: _,[],_,_,h=>by cases h
  | _ :: _,_ :: _,[],_,h=>by cases h
theorem hvRes_ok {L : Nat→Option Nat} {c : Nat} {rs : List Rs} {vs : List Value} {v : Value} (h : PartsR w E L c (rs.map fun r=>(r.1,r.2.1.map AC.d)) vs) (hv : if rs.length = 1 then vs = [v] else v = .tuple vs.toArray) : SlotR w E L c (hvRes rs) v:=by
  obtain ⟨h1,h2⟩:=partsR_get h
  unfold hvRes
  split
  · rename_i b cs he
    have hl : rs.length = 1:=by have:=congrArg List.length he;simpa using this
    rw [he] at h
    rw [if_pos hl] at hv
    subst hv
    exact h.1
  · rename_i hne
    have : ¬ rs.length = 1:=by
      intro e
      match rs,e with
      | [r],_=>exact hne _ _ rfl
    rw [if_neg this] at hv
    exact ⟨vs,hv,h1,h2⟩
theorem cellsOk_alike {xs : List Operand} (hal : Alike h H xs) (x : AV) : cellsOk H x = cellsOk h x:=by
  have hoo : H.own? = h.own?:=by funext i st;exact hal.own i st
  have hok : okC H = okC h:=by funext c;cases c <;> simp [okC,hoo]
  unfold cellsOk;rw [hok]
theorem fillA_alike {t : TypeId} : ∀ {parts : List (Nat × Operand)} {z : List AC},Alike h H (parts.map (·.2))→fillA P H t parts z = fillA P h t parts z
  | [],z,_=>rfl
  | (i,x) :: r,z,hal=>by
    have e1:=hal.ev (x:=x) (by simp)
    simp only [fillA,e1,cellsOk_alike hal]
    split
    · split
      · exact fillA_alike (hal.sub (fun y hy=>by simp at hy ⊢;exact .inr hy))
      · rfl
    · rfl
theorem bsF_alike {k : Nat} : ∀ {parts : List (Nat × Operand)} {j : Nat},Alike h H (parts.map (·.2))→bsF H k parts j = bsF h k parts j
  | [],j,_=>rfl
  | (i,x) :: r,j,hal=>by
    have e1:=hal.ev (x:=x) (by simp)
    simp only [bsF,e1,cellsOk_alike hal,bsF_alike (parts:=r) (hal.sub (fun y hy=>by simp at hy ⊢;exact .inr hy))]
theorem rdL_alike {xs : List Operand} (hal : Alike h H xs) (cs : List AC) (ds : List DV) : rdL H cs ds = rdL h cs ds:=by
  have e0 : rdC0 H = rdC0 h:=by funext c x;cases c <;> simp [rdC0,hal.ob,hal.n]
  have e1 : rdL0 H = rdL0 h:=by
    funext c x
    induction c generalizing x with
    | nil=>cases x <;> rfl
    | cons a c ih=>cases x with
      | nil=>rfl
      | cons y x=>simp [rdL0,e0,ih]
  have e2 : rdLL0 H = rdLL0 h:=by
    funext c x
    induction c generalizing x with
    | nil=>cases x <;> rfl
    | cons a c ih=>cases x with
      | nil=>rfl
      | cons y x=>simp [rdLL0,e1,ih]
  have e3 : rdC H = rdC h:=by funext c x;cases c <;> simp [rdC,hal.ob,hal.n,e2]
  induction cs generalizing ds with
  | nil=>cases ds <;> rfl
  | cons a c ih=>cases ds with
    | nil=>rfl
    | cons y x=>simp [rdL,e3,ih]
theorem argsRd_alike : ∀ {xs : List Operand} {ys : List (Bool × List DV)},Alike h H xs→argsRd h xs ys→argsRd H xs ys
  | [],[],_,_=>trivial
  | [],_ :: _,_,h=>h.elim
  | _ :: _,[],_,h=>h.elim
  | x :: xs,y :: ys,hal,hr=>by
    refine ⟨?_,argsRd_alike (hal.sub fun z hz=>List.mem_cons_of_mem _ hz) hr.2⟩
    have:=hr.1
    rw [hal.ev (List.mem_cons_self ..)]
    split
    · rename_i b cs he;rw [he] at this;exact ⟨this.1,by rw [rdL_alike hal];exact this.2⟩
    · rename_i hne
      split at this
      · rename_i b cs he;exact absurd he (hne b cs)
      · exact this
theorem rdFL_alike {xs : List Operand} (hal : Alike h H xs) (cs : List AC) (ds : List DV) : rdFL H cs ds = rdFL h cs ds:=by
  have e1 : rdF H = rdF h:=by funext c x;cases c <;> simp [rdF,hal.ob,hal.n]
  induction cs generalizing ds with
  | nil=>cases ds <;> rfl
  | cons a c ih=>cases ds with
    | nil=>rfl
    | cons y x=>simp [rdFL,e1,ih]
theorem argsRdF_alike : ∀ {xs : List Operand} {ys : List (Bool × List DV)},Alike h H xs→argsRdF h xs ys→argsRdF H xs ys
  | [],[],_,_=>trivial
  | [],_ :: _,_,h=>h.elim
  | _ :: _,[],_,h=>h.elim
  | x :: xs,y :: ys,hal,hr=>by
    refine ⟨?_,argsRdF_alike (hal.sub fun z hz=>List.mem_cons_of_mem _ hz) hr.2⟩
    have:=hr.1
    rw [hal.ev (List.mem_cons_self ..)]
    split
    · rename_i b cs he;rw [he] at this;exact ⟨this.1,by rw [rdFL_alike hal];exact this.2⟩
    · rename_i hne
      split at this
      · rename_i b cs he;exact absurd he (hne b cs)
      · exact this
theorem bs_cat (hr : RepE w0 N h a w E) {k : Nat} : ∀ {parts : List (Nat × Operand)} {j : Nat} {es : List (List AC)},bsF h k parts j = some es→CellsR w E h.lv h.c es.flatten (catV a parts)∧(catV a parts).length = parts.length * k
  | [],j,es,hf=>by simp only [bsF] at hf;injection hf with hf;subst hf;exact ⟨CellsR.nil,by simp [catV]⟩
  | (i,x) :: r,j,es,hf=>by
    simp only [bsF] at hf
    split at hf
    · rename_i cs es' h1 h2
      split at hf
      · rename_i hl
        injection hf with hf;subst hf
        obtain ⟨c1,_⟩:=cellsOk_ok hr h1 (ev_ok hr x)
        obtain ⟨c2,c3⟩:=bs_cat hr h2
        have hcat : catV a ((i,x) :: r) = (a.eval x).cells.toList ++ catV a r:=by simp [catV]
        rw [hcat,List.flatten_cons]
        refine ⟨c1.app c2,?_⟩
        rw [List.length_append,c3,← c1.1,hl.2,List.length_cons,Nat.succ_mul];omega
      · cases hf
    · cases hf
theorem fill_cat (hr : RepE w0 N h a w E) {k : Nat} : ∀ {parts : List (Nat × Operand)} {j : Nat} {es : List (List AC)} {done rest : List Value}, bsF h k parts j = some es → done.length = j * k → rest.length = parts.length * k →
      Instr.fill (fun i=>some (i * k,k)) (done ++ rest).toArray (parts.map fun x=>(x.1,a.eval x.2)) = some (done ++ catV a parts).toArray
  | [],j,es,done,rest,hf,hd,hr'=>by
    have : rest = []:=List.eq_nil_of_length_eq_zero (by simpa using hr')
    subst this
    simp [Instr.fill,catV]
  | (i,x) :: r,j,es,done,rest,hf,hd,hr'=>by
    simp only [bsF] at hf
    split at hf
    · rename_i cs es' h1 h2
      split at hf
      · rename_i hl
        obtain ⟨rfl,hl⟩:=hl
        obtain ⟨c1,_⟩:=cellsOk_ok hr h1 (ev_ok hr x)
        have hsz : (a.eval x).cells.toList.length = k:=by rw [← c1.1];exact hl
        rw [List.length_cons,Nat.succ_mul] at hr'
        have e1:=fill_cat hr (done:=done ++ (a.eval x).cells.toList) (rest:=rest.drop k) h2 (by rw [List.length_append,hsz,hd,Nat.succ_mul]) (by rw [List.length_drop];omega)
        have hcat : catV a ((i,x) :: r) = (a.eval x).cells.toList ++ catV a r:=by simp [catV]
        rw [List.map_cons,Instr.fill]
        have hsz' : (a.eval x).cells.size = k:=by simpa using hsz
        have hle : i * k + (a.eval x).cells.size≤(done ++ rest).toArray.size:=by rw [hsz'];simp;omega
        simp only
        rw [if_neg (by simp [hsz'];omega),fill_step hle]
        have : plug (i * k) (a.eval x).cells.toList (done ++ rest).toArray.toList = done ++ (a.eval x).cells.toList ++ rest.drop k:=by
          unfold plug
          rw [hsz]
          rw [show (done ++ rest).toArray.toList = done ++ rest from rfl,← hd,List.take_left,List.drop_length_add_append]
        rw [this,e1,hcat,List.append_assoc]
      · cases hf
    · cases hf
theorem dL_ok {L : Nat→Option Nat} {c : Nat} : ∀ {cs : List AC} {ds : List DV} {vals : List Value},dL cs = some ds→CellsR w E L c cs vals→RepL w E.A vals ds
  | [],ds,vals,hd,hc=>by simp only [dL] at hd;injection hd with hd;subst hd;rw [hc.nil'];exact .nil
  | x :: r,ds,vals,hd,hc=>by
    cases x with
    | d y =>
      simp only [dL] at hd
      split at hd
      · rename_i xs hx
        injection hd with hd;subst hd
        obtain ⟨u,us,rfl,c1,c2⟩:=hc.cons'
        exact RepL.cons c1 (dL_ok hx c2)
      · cases hd
    | _=>simp only [dL] at hd;cases hd
theorem dLL_ok {L : Nat→Option Nat} {c : Nat} : ∀ {es : List (List AC)} {ds : List (List DV)} {vals : List Value},dLL es = some ds→CellsR w E L c es.flatten vals→RepL w E.A vals ds.flatten∧ds.length = es.length∧∀ k,(∀ e ∈ es,e.length = k)→∀ e ∈ ds,e.length = k
  | [],ds,vals,hd,hc=>by simp only [dLL] at hd;injection hd with hd;subst hd;rw [hc.nil'];exact ⟨.nil,rfl,by simp⟩
  | e :: r,ds,vals,hd,hc=>by
    simp only [dLL] at hd
    split at hd
    · rename_i x xs h1 h2
      injection hd with hd;subst hd
      rw [List.flatten_cons] at hc
      have hl : e.length≤vals.length:=by rw [← hc.1];simp
      have c1 : CellsR w E L c e (vals.take e.length):=by have:=hc.take e.length;rwa [List.take_left] at this
      have c2 : CellsR w E L c r.flatten (vals.drop e.length):=by have:=hc.drop e.length;rwa [List.drop_left] at this
      have r1:=dL_ok h1 c1
      obtain ⟨r2,r3,r4⟩:=dLL_ok h2 c2
      refine ⟨?_,by simp [r3],fun k hk y hy=>?_⟩
      · have:=r1.app r2
        rwa [List.take_append_drop] at this
      · rcases List.mem_cons.1 hy with rfl | hy
        · have:=r1.len;have h5:=hk e (List.mem_cons_self ..);rw [List.length_take] at this;omega
        · exact r4 k (fun e he=>hk e (List.mem_cons_of_mem _ he)) y hy
    · cases hd
end
end Go.Proofs.Ytboheedjhnbnhaa
namespace Go.Proofs.Ytboheedjhnbnhaa
open Go.RowKit
def HOut (P : Program) (m : Nat) (L : Nat→Option Nat) (c : Nat) (o : Oper) (a : Act) (w : World) (E : En) (kd : HK) (x : AV) (a' : Act) (w' : World) : Prop :=
  ∃ v f,a' = a.put o.dst v∧Below w.heap.size w w'∧(∀ b ∈ f,w.heap.size≤b∧b < w'.heap.size)∧Fact P m E L c a w' v f kd∧SlotR w' (E.plus m w'.heap.size) L c x v
section
variable {P : Program} {w0 : Cx} {w w' : World} {N m : Nat} {s h H q q' : AS} {a : Act} {E : En} {o : Oper}
theorem plus_stay {L : Nat→Option Nat} {c : Nat} (hb : Below w.heap.size w w') (hA : ∀ b,E.A b→b < w.heap.size) : Stay w (E.plus m w.heap.size) L c w' (E.plus m w'.heap.size) L c:=by
  refine ⟨fun b hb'=>?_,fun i st _ h=>⟨h,rfl⟩,Nat.le_refl _⟩
  have hs:=hb.size
  rcases hb' with h1 | h1
  · exact ⟨.inl h1,hb.block b (hA b h1)⟩
  · exact ⟨.inr ⟨h1.1,by omega⟩,hb.block b h1.2⟩
theorem fill_build {t : TypeId} {parts : Array (Nat × Operand)} : (parts.toList.map (·.2)) = (Op.build t parts).operands.toList:=by simp [Op.operands]
theorem fill_bs {t : TypeId} {len : Nat} {parts : Array (Nat × Operand)} : (parts.toList.map (·.2)) = (Op.buildSlice t len parts).operands.toList:=by simp [Op.operands]
theorem hVb_ok {x : AV} (hx : hVb P H o.op = some x) : HStep P o H x []:=by
  unfold hVb at hx
  split at hx
  · rename_i t parts ho
    split at hx
    · rename_i h1
      split at hx
      · rename_i z h2
        split at hx
        · rename_i cs h3;injection hx with hx;subst hx;exact h_build ho h1 h2 h3
        · cases hx
      · cases hx
    · cases hx
  · exact hV_ok hx
theorem hVb_run {x : AV} (hx : hVb P s o.op = some x) : ∀ w0 N a w E,RepE w0 N s a w E→∃ v,(execOp a.eval o).run P w = .ok (.value v) w∧SlotR w E s.lv s.c x v:=by
  unfold hVb at hx
  split at hx
  · rename_i t parts ho
    split at hx
    · rename_i h1
      split at hx
      · rename_i z h2
        split at hx
        · rename_i cs h3
          injection hx with hx;subst hx
          intro w0 N a w E h
          obtain ⟨us,k1,k2⟩:=build_rep (o:=o) h1 h2 h3 h
          exact ⟨.agg us.toArray,build_run ho k1 w,us,rfl,k2⟩
        · cases hx
      · cases hx
    · cases hx
  · exact hV_run hx
theorem hVb_alike {op : Op} (hal : Alike h H op.operands.toList) : hVb P H op = hVb P h op:=by
  cases op with
  | build t parts=>simp only [hVb,fillA_alike (parts:=parts.toList) (hal.sub (by rw [fill_build (t:=t)];exact fun _ h=>h))]
  | _=>exact hV_alike (P:=P) hal
theorem emp_shape {x : AV} {v : Value} {L : Nat→Option Nat} {c : Nat} (hx : isEmp x = true) (hv : SlotR w E L c x v) : ∃ A,v = .slice A 0 0:=by
  unfold isEmp at hx
  split at hx
  · exact slot_one hv
  · obtain rfl : v = _:=slot_one hv
    exact ⟨none,rfl⟩
  · cases hx
theorem app_emp_ok {X Y : Operand} {t el : TypeId} {k by_ t2 : Nat} {c : AC} {es : List (List DV)} {zs : List Value} (ho : o.op = .call ⟨.builtin .append,#[X,Y],#[t,t]⟩) (ht : tel P t = some (el,k)) (hz : tzero P el = some zs) (hzl : zs.length = k) (hk : 0 < k) (hby : tby P el = some by_)
    (hX : isEmp (H.ev X) = true) (hY : H.ev Y = .p false [c]) (hrd : rdC H c (.sl t2 k es)) (hne : es ≠ []) (hfl : Flat es.flatten) (h63 : es.length≤maxLen) (hbytes : es.length * by_≤140737488355328) (hrep : RepE w0 N H a w E) :
    ∃ v' w',(execOp a.eval o).run P w = .ok (.value v') w'∧Below w.heap.size w w'∧OwnL w' w.heap.size [v'] [.sl el k es] v'.ownBlock.toList:=by
  obtain ⟨A0,hA⟩:=emp_shape hX (ev_ok hrep X)
  have e2:=ev_ok hrep Y
  rw [hY] at e2
  obtain ⟨Ad,cp,us,hv,hR,hru,hek⟩:=rep_rd (rdC_ok hrep (slot_one e2) hrd)
  obtain ⟨hu,hsz⟩:=tel_u ht
  unfold tzero at hz
  unfold tsz at hsz
  unfold tby at hby
  cases hi : P.info? el with
  | none=>simp [hi] at hsz
  | some ie =>
    simp [hi] at hsz hby
    cases hzz : ie.zero with
    | none=>simp [hi,hzz] at hz
    | some z =>
      simp [hi,hzz] at hz
      have hzc : z.cells.size = k:=by rw [← hzl,← hz];simp
      have hpos : 0 < es.length:=by cases es with
        | nil=>exact absurd rfl hne
        | cons=>simp
      obtain ⟨v',w',hrun,hown,hbl⟩:=run_append_emp (P:=P) (w:=w) t o.type el ie z k by_ hu hi hzz hsz hby hzc hk A0 _ Ad es.length cp us hR hru.one h63 hbytes hpos
      refine ⟨v',w',?_,hbl,?_⟩
      · simp only [execOp,ho,resolve,invoke,builtin,Sem.run_bind,Sem.run_pure,Result.andThen_ok,List.map_toArray,List.map_cons,List.map_nil,hA,hv,hrun]
      · have hcl : OwnL w' w.heap.size us es.flatten []:=(OwnL.flat hru hfl).keep (by simp)
        have:=OwnL.sl (vs:=[]) (ds:=[]) (f:=[]) hown hk hek hcl .nil (by
          rw [List.append_nil,List.append_nil]
          cases v'.ownBlock <;> simp)
        rwa [List.append_nil,List.append_nil] at this
theorem app_none_run {X Y : Operand} {t el : TypeId} {k t2 k2 : Nat} {c : AC} (ho : o.op = .call ⟨.builtin .append,#[X,Y],#[t,t]⟩) (ht : tel P t = some (el,k)) (hX : isEmp (H.ev X) = true) (hY : H.ev Y = .p false [c]) (hrd : rdC H c (.sl t2 k2 [])) (hrep : RepE w0 N H a w E) :
    (execOp a.eval o).run P w = .ok (.value (a.eval X)) w:=by
  obtain ⟨A0,hA⟩:=emp_shape hX (ev_ok hrep X)
  have e2:=ev_ok hrep Y
  rw [hY] at e2
  obtain ⟨A1,c1,hv,_,_⟩:=(rdC_ok hrep (slot_one e2) hrd).slShape
  obtain ⟨hu,hsz⟩:=tel_u ht
  unfold tsz at hsz
  cases hi : P.info? el with
  | none=>simp [hi] at hsz
  | some ie =>
    simp [hi] at hsz
    have hrun:=run_append_none (P:=P) (w:=w) t o.type el ie k hu hi hsz A0 A1 c1
    simp only [List.length_nil] at hv
    simp only [execOp,ho,resolve,invoke,builtin,Sem.run_bind,Sem.run_pure,Result.andThen_ok,List.map_toArray,List.map_cons,List.map_nil,hA,hv,hrun]
theorem hrun_ok {pr : Bool} {kd : HK} {x : AV} (hr : HRun P pr h q o kd x q') (hal : Alike h H o.op.operands.toList) (hrep : RepE w0 N H a w (E.plus m w.heap.size)) (hA : ∀ b,E.A b→b < w.heap.size) (hm : m≤w.heap.size) :
    o.wp P a w (HOut P m H.lv H.c o a w E kd x) (fun _ _ _=>False):=by
  rcases hr with ⟨y,h1,rfl,rfl,-⟩ | ⟨f,args,ts,ys,res,ho,hmt,har,hdp,-,rfl,rfl,-⟩ | ⟨t,len,parts,el,k,es,esq,ho,-,ht,hz,hk,hl,hs,hf,-,rfl,rfl,-⟩ | ⟨t,cs,ho,-,hz,rfl,rfl,-⟩ | ⟨y,z,hpu,-,h1,-,rfl,rfl,-⟩ | ⟨X,Y,t,el,k,by_,c,t2,es,zs,res,ho,-,ht,hz,hzl,hk,hby,hX,hY,hrd,hne,hfl,h63,hbt,rfl,rfl,rfl,-⟩ | ⟨X,Y,t,el,k,c,t2,k2,ho,-,ht,hX,hY,hrd,rfl,rfl,-⟩ | ⟨f,args,ts,ys,r,ho,-,hmt,har,hro,rfl,rfl,-⟩
  · rw [← hVb_alike hal] at h1
    refine Oper.wp_mono (fun a' w' hp=>?_) (hVb_ok h1 w0 N a w _ hrep)
    obtain ⟨v,E',rfl,hb,hext,hrep',hsl⟩:=hp
    refine ⟨v,[],rfl,hb,by simp,rfl,?_⟩
    refine hsl.stay ⟨fun b hbA=>⟨?_,rfl⟩,fun i st _ hl=>⟨hl,?_⟩,Nat.le_refl _⟩
    · have hlt:=hrep'.A_lt b hbA
      rcases hext.A' b hbA with h2 | h2
      · exact h2.imp id fun h2=>⟨h2.1,hlt⟩
      · exact .inr ⟨by omega,hlt⟩
    · have hin : i < H.n:=by
        unfold AS.lv at hl;split at hl
        · assumption
        · cases hl
      exact ((hext.same i hin).1).symm
  · have hdp' : ∀ r ∈ res,r.2.2 = true:=fun r hx=>by simpa using List.all_eq_true.1 hdp r hx
    unfold Oper.wp
    rw [run_call ho hmt.1,Oper.upon_enter]
    have har' : argsRd H args.toList ys:=argsRd_alike (hal.sub (fun y hy=>by rw [ho];simp [Op.operands,Call.operands];right;simpa using hy)) har
    refine (hmt.2 w (AM H (E.plus m w.heap.size)) _ (fun b hb=>?_) (argsRd_ok hrep har')).mono ?_
    · rcases hb with hb | ⟨i,hi,_,hb⟩
      · exact hrep.A_lt b hb
      · exact hrep.m_lt i hi b hb
    · rintro e w' ⟨v,rfl,⟨vs,fs,hv,hl1,hl2,hnd,hrr⟩,hb⟩
      have hq : ResQs w' w.heap.size (fun _=>False) vs res fs:=resQs_of hl1 hl2 hrr (.inr hdp')
      refine ⟨v,fs.flatten,rfl,hb,ResQs.blocks hdp' hq,⟨vs,fs,hv,ResQs.lo hm hdp' hq,rfl,hnd,hdp'⟩,?_⟩
      exact hvRes_ok (ResQs.parts (E:=E.plus m w'.heap.size) (b0:=w.heap.size) (fun b h1 h2=>Or.inr ⟨by omega,h2⟩) hdp' hq) hv
  · have hal':=hal
    rw [ho,← fill_bs] at hal'
    rw [← bsF_alike hal'] at hf
    obtain ⟨hu,hsz⟩:=tel_u ht
    obtain ⟨zs,hz⟩:=Option.isSome_iff_exists.1 hz
    obtain ⟨hl1,hl2⟩:=bsF_len hf
    obtain ⟨hc1,hc2⟩:=bs_cat hrep hf
    have hrun : (execOp a.eval o).run P w = .ok (.value (.slice (some ⟨w.heap.size,0,none⟩) len len)) (w.alloc (.cells (catV a parts.toList).toArray el)):=by
      unfold tzero at hz
      unfold tsz at hsz
      cases hi : P.info? el with
      | none=>simp [hi] at hsz
      | some ie =>
        simp [hi] at hsz
        cases hzz : ie.zero with
        | none=>simp [hi,hzz] at hz
        | some z =>
          rcases Nat.eq_zero_or_pos len with h0 | h0
          · subst h0
            obtain rfl : parts = #[]:=by
              have hp : parts.toList = []:=List.eq_nil_of_length_eq_zero hl
              cases parts;simp_all
            simp [execOp,ho,Instr.buildSlice,run_underlying hu,sizeOf,typeInfo,hi,hsz,Instr.fill,newRow,catV]
            rw [show Array.map (fun (_ : Nat)=>(default : Value)) (Array.range 0) = #[] from Array.ext (by simp) (fun i h1 h2=>by simp at h1)]
          · obtain ⟨us,e1,e2⟩:=bsF_ok (w:=w) (a:=a) hrep (done:=[]) (rest:=((Array.range (len * k)).map (z.cells[· % z.cells.size]!)).toList) hf (by simp) (by simp [hl])
            have hus : us = catV a parts.toList:=by
              have h1:=fill_cat (a:=a) (k:=k) hrep hf (done:=[]) (rest:=((Array.range (len * k)).map (z.cells[· % z.cells.size]!)).toList) (by simp) (by simp [hl])
              rw [e1] at h1
              simpa using h1
            subst hus
            have hr:=run_buildSlice (P:=P) w t el len (parts.map fun x=>(x.1,a.eval x.2)) (catV a parts.toList).toArray ie z hu hi hzz (by rw [hsz];omega) (by rw [hsz];exact Nat.ne_of_gt (Nat.mul_pos h0 hk)) (by
              rw [hsz]
              have e3:=e1
              rw [List.nil_append,List.nil_append,Array.toArray_toList] at e3
              rw [← e3];simp)
            simp only [execOp,ho]
            rw [Sem.run_bind]
            rw [show (parts.map fun (x : Nat × Operand)=>match x with | (i,x)=>(i,a.eval x)) = (parts.map fun x=>(x.1,a.eval x.2)) from rfl,hr];rfl
    unfold Oper.wp
    rw [hrun,Oper.upon_value]
    have hb : Below w.heap.size w (w.alloc (.cells (catV a parts.toList).toArray el)):=(Below.refl _ _).alloc (Nat.le_refl _) _
    refine ⟨_,[w.heap.size],rfl,hb,by simp,⟨w.heap.size,by rw [hl],rfl,hm,Blk.new _ _ _⟩,?_⟩
    unfold bView
    split
    · rename_i hem
      have : len = 0:=by rw [← hl,← hl1];simpa using hem
      subst this
      exact slot_one_mk ⟨_,rfl⟩
    split
    · rename_i ds hds
      have hc3:=hc1.stay (plus_stay (m:=m) (L:=H.lv) (c:=H.c) hb hA)
      obtain ⟨r1,r2,r3⟩:=dLL_ok hds hc3
      refine slot_one_mk ?_
      have hlen : ds.length = len:=by rw [r2,hl1,hl]
      rcases Nat.eq_zero_or_pos len with h0 | h0
      · have : ds = []:=List.eq_nil_of_length_eq_zero (by omega)
        subst this
        rw [h0];exact RepL.sl0 (Nat.zero_le _) .nil
      · refine RepL.sl (.inr ⟨hm,by simp⟩) hlen.symm h0 (Nat.le_refl _) ?_ hk (r3 k hl2) r1 ?_ .nil
        · have : len * 1≤len * k:=Nat.mul_le_mul_left _ hk
          unfold maxLen;omega
        · simpa using blk_at (Blk.new w el (catV a parts.toList).toArray) 0
    · trivial
  · unfold zeroAC at hz
    split at hz
    · rename_i vs hz0
      obtain ⟨zz,e1,e2⟩:=tzero_run hz0 w
      have hrun : (execOp a.eval o).run P w = .ok (.value (.pointer (some ⟨w.heap.size,0,none⟩))) (w.alloc (.cells vs.toArray t)):=by
        simp [execOp,ho,Instr.alloc,e1,newVar,newRow,e2]
      unfold Oper.wp
      rw [hrun,Oper.upon_value]
      have hb : Below w.heap.size w (w.alloc (.cells vs.toArray t)):=(Below.refl _ _).alloc (Nat.le_refl _) _
      exact ⟨_,[w.heap.size],rfl,hb,by simp,⟨w.heap.size,vs,rfl,rfl,hm,Blk.new _ _ _,fun _ _ _ _=>zAC_ok hz⟩,trivial⟩
    · cases hz
  · have hal':=hal
    cases hop : o.op with
    | build t parts =>
      rw [← hVb_alike hal,hop] at h1
      simp only [hVb] at h1
      split at h1
      · rename_i g1
        split at h1
        · rename_i zz g2
          split at h1
          · rename_i cs g3
            injection h1 with h1;subst h1
            obtain ⟨us,b1,b2⟩:=build_rep (o:=o) g1 g2 g3 hrep
            unfold Oper.wp
            rw [build_run hop b1 w,Oper.upon_value]
            exact ⟨_,[],rfl,Below.refl _ _,by simp,⟨rfl,us,rfl,b1⟩,us,rfl,b2⟩
          · cases h1
        · cases h1
      · cases h1
    | move u =>
      rw [hop] at h1 hal'
      simp only [hVb,hV] at h1
      injection h1 with h1
      have e:=ev_ok hrep u
      rw [hal'.ev (x:=u) (by simp [Op.operands]),h1] at e
      unfold Oper.wp
      have hrun : (execOp a.eval o).run P w = .ok (.value (a.eval u)) w:=by simp [execOp,hop]
      rw [hrun,Oper.upon_value]
      exact ⟨_,[],rfl,Below.refl _ _,by simp,⟨rfl,rfl⟩,e⟩
    | assign u =>
      rw [hop] at h1 hal'
      simp only [hVb,hV] at h1
      injection h1 with h1
      have e:=ev_ok hrep u
      rw [hal'.ev (x:=u) (by simp [Op.operands]),h1] at e
      unfold Oper.wp
      have hrun : (execOp a.eval o).run P w = .ok (.value (a.eval u)) w:=by simp [execOp,hop]
      rw [hrun,Oper.upon_value]
      exact ⟨_,[],rfl,Below.refl _ _,by simp,⟨rfl,rfl⟩,e⟩
    | extract u ix =>
      rw [hop] at h1 hal'
      simp only [hVb,hV] at h1
      have e:=ev_ok hrep u
      rw [hal'.ev (x:=u) (by simp [Op.operands])] at e
      unfold xtV at h1
      split at h1
      · rename_i xs hxs
        split at h1
        · rename_i b cs hb
          injection h1 with h1;subst h1
          rw [hxs] at e
          obtain ⟨vs,e1,e2,e3⟩:=e
          have hlt : ix < vs.length:=by rw [← e2];exact (List.getElem?_eq_some_iff.1 hb).1
          have hg:=List.getElem?_eq_getElem hlt
          unfold Oper.wp
          have hrun : (execOp a.eval o).run P w = .ok (.value vs[ix]) w:=by
            simp [execOp,hop,e1,Instr.extract,hlt]
          rw [hrun,Oper.upon_value]
          exact ⟨_,[],rfl,Below.refl _ _,by simp,⟨rfl,vs,e1,hg⟩,e3 ix b cs _ hb hg⟩
        · cases h1
      · cases h1
    | _=>rw [hop] at hpu;cases hpu
  · have hal':=hal
    rw [ho] at hal'
    have eX : H.ev X = h.ev X:=hal'.ev (x:=X) (by simp [Op.operands,Call.operands])
    have eY : H.ev Y = h.ev Y:=hal'.ev (x:=Y) (by simp [Op.operands,Call.operands])
    rw [← eX] at hX;rw [← eY] at hY
    have hrd' : rdC H c (.sl t2 k es):=by have:=rdL_alike hal' [c] [.sl t2 k es];simp only [rdL,and_true] at this;rw [this];exact hrd
    obtain ⟨v',w',hrun,hb,hown⟩:=app_emp_ok ho ht hz hzl hk hby hX hY hrd' hne hfl h63 hbt hrep
    unfold Oper.wp
    rw [hrun,Oper.upon_value]
    have hq : ResQs w' w.heap.size (fun _=>False) [v'] [(false,[.sl el k es],true)] [v'.ownBlock.toList]:=⟨⟨[v'],rfl,hown⟩,trivial⟩
    have hd' : ∀ r ∈ [(false,[DV.sl el k es],true)],r.2.2 = true:=by simp
    refine ⟨v',v'.ownBlock.toList,rfl,hb,hown.blocks,⟨[v'],[v'.ownBlock.toList],rfl,ResQs.lo hm hd' hq,by simp,by cases v'.ownBlock <;> simp,hd'⟩,?_⟩
    exact hvRes_ok (ResQs.parts (E:=E.plus m w'.heap.size) (b0:=w.heap.size) (fun b h1 h2=>Or.inr ⟨by omega,h2⟩) hd' hq) rfl
  · have hal':=hal
    rw [ho] at hal'
    have eX : H.ev X = h.ev X:=hal'.ev (x:=X) (by simp [Op.operands,Call.operands])
    have eY : H.ev Y = h.ev Y:=hal'.ev (x:=Y) (by simp [Op.operands,Call.operands])
    have hX':=hX;have hY':=hY
    rw [← eX] at hX';rw [← eY] at hY'
    have hrd' : rdC H c (.sl t2 k2 []):=by have:=rdL_alike hal' [c] [.sl t2 k2 []];simp only [rdL,and_true] at this;rw [this];exact hrd
    have hrun:=app_none_run (P:=P) ho ht hX' hY' hrd' hrep
    unfold Oper.wp
    rw [hrun,Oper.upon_value]
    have e:=ev_ok hrep X
    rw [eX] at e
    exact ⟨_,[],rfl,Below.refl _ _,by simp,⟨rfl,by rw [ho];exact ⟨X,Y,rfl,rfl⟩⟩,e⟩
  · unfold Oper.wp
    rw [run_call ho hmt.1,Oper.upon_enter]
    have har' : argsRdF H args.toList ys:=argsRdF_alike (hal.sub (fun y hy=>by rw [ho];simp [Op.operands,Call.operands];right;simpa using hy)) har
    refine (hmt.2 w (E.plus m w.heap.size).A _ (fun b hb=>hrep.A_lt b hb) (argsRdF_ok hrep har')).mono ?_
    rintro e w' ⟨v,rfl,⟨vs,fs,hv,hl1,hl2,hnd,hrr⟩,hb⟩
    refine ⟨v,[],rfl,hb,by simp,rfl,?_⟩
    have hv : vs = [v]:=by simpa using hv
    subst hv
    match fs,hl2 with
    | [f0],_ =>
      obtain ⟨vals,h1,h2⟩:=hrr 0 v r f0 rfl rfl rfl
      rw [hro] at h2
      simp only [Bool.false_eq_true,if_false] at h2
      have h3 : RepL w' (E.plus m w'.heap.size).A vals r.2.1:=h2.2.mono fun b hb'=>by
        have hs:=hb.size
        rcases hb' with (h | h) | h
        · exact .inl h
        · exact .inr ⟨h.1,by omega⟩
        · exact .inr ⟨by omega,h.2.1⟩
      exact hvRes_ok (rs:=[r]) (vs:=[v]) (v:=v) ⟨part_mk h1 (CellsR.ofRep h3),trivial⟩ (by simp)
end
end Go.Proofs.Ytboheedjhnbnhaa
namespace Go.Proofs.Ytboheedjhnbnhaa
open Go.RowKit
def gAV : Option Bool→AV
  | some b=>.p false [.d (.sc (.bool b))]
  | none=>.tup []
def HStp (P : Program) (N : Nat) (pr : Bool) (ops : Array Oper) (h q : AS) (o : Oper) (kd : HK) (x : AV) (q' : AS) : Option (Nat × Bool)→Prop
  | none=>HRun P pr h q o kd x q'
  | some (g,want)=>∃ t b,gslot ops g = some t∧t < N∧h.sl t = gAV b∧if b = some want then HRun P pr h q o kd x q' else (kd = .v (.tup [])∧x = .tup []∧q' = q.put o.dst (finV pr (.tup [])))
def Heads (P : Program) (N : Nat) (pr : Bool) (ops : Array Oper) : List Oper→AS→AS→List HK→List AV→AS→Prop
  | [],h,q,[],[],q'=>q' = q
  | o :: r,h,q,kd :: kds,x :: xs,q'=>(∃ d,o.dst = some d∧d < N)∧∃ q1,HStp P N pr ops h q o kd x q1 o.guard∧Heads P N pr ops r (h.put o.dst x) q1 kds xs q'
  | _,_,_,_,_,_=>False
def hAt (s : AS) : List Oper→List AV→AS
  | o :: l,x :: xs=>hAt (s.put o.dst x) l xs
  | _,_=>s
def dsts (l : List Oper) : List Nat:=l.filterMap (·.dst)
def undL (q : AS) (ds : List Nat) : AS:={ q with sl:=fun t=>if ds.contains t then .und else q.sl t }
section
variable {P : Program} {w0 : Cx} {w w' : World} {N m : Nat} {s h H q q' : AS} {a : Act} {E : En} {o : Oper} {pr : Bool} {ops : Array Oper}
theorem hAt_same : ∀ {l : List Oper} {xs : List AV} {s : AS},(hAt s l xs).ob = s.ob∧(hAt s l xs).n = s.n∧(hAt s l xs).c = s.c
  | [],xs,s=>by cases xs <;> exact ⟨rfl,rfl,rfl⟩
  | o :: l,[],s=>⟨rfl,rfl,rfl⟩
  | o :: l,x :: xs,s=>by
    obtain ⟨h1,h2,h3⟩:=hAt_same (l:=l) (xs:=xs) (s:=s.put o.dst x)
    exact ⟨h1.trans (AS.put_ob ..),h2.trans (AS.put_n ..),h3.trans (AS.put_c ..)⟩
theorem put_sl_ne {d : Option Nat} {x : AV} {t : Nat} (h : d ≠ some t) : (s.put d x).sl t = s.sl t:=by
  cases d with
  | none=>rfl
  | some d=>exact upd_ne _ _ (fun e=>h (by rw [e]))
theorem hAt_out : ∀ {l : List Oper} {xs : List AV} {s : AS} {t : Nat},(∀ o ∈ l,o.dst ≠ some t)→(hAt s l xs).sl t = s.sl t
  | [],xs,s,t,_=>by cases xs <;> rfl
  | o :: l,[],s,t,_=>rfl
  | o :: l,x :: xs,s,t,h=>by
    rw [hAt,hAt_out fun o ho=>h o (List.mem_cons_of_mem _ ho)]
    exact put_sl_ne (h o (List.mem_cons_self ..))
theorem hAt_in : ∀ {l : List Oper} {xs : List AV} {s : AS} {t j : Nat} {o : Oper} {x : AV},(dsts l).Nodup→l[j]? = some o→xs[j]? = some x→o.dst = some t→(hAt s l xs).sl t = x
  | [],xs,s,t,j,o,x,_,h,_,_=>by simp at h
  | o' :: l,[],s,t,j,o,x,_,_,h,_=>by simp at h
  | o' :: l,x' :: xs,s,t,j,o,x,hnd,h1,h2,h3=>by
    rw [hAt]
    have hnd' : (dsts l).Nodup:=by
      unfold dsts at hnd ⊢
      rw [List.filterMap_cons] at hnd
      split at hnd
      · exact hnd
      · exact (List.nodup_cons.1 hnd).2
    cases j with
    | zero =>
      simp at h1 h2;subst h1 h2
      rw [hAt_out]
      · rw [h3];exact upd_same _ _ _
      · intro o2 ho2 he
        unfold dsts at hnd
        rw [List.filterMap_cons,h3] at hnd
        exact (List.nodup_cons.1 hnd).1 (List.mem_filterMap.2 ⟨o2,ho2,he⟩)
    | succ j=>exact hAt_in hnd' (by simpa using h1) (by simpa using h2) h3
theorem heads_at : ∀ {l : List Oper} {h q q' : AS} {kds : List HK} {xs : List AV},Heads P N pr ops l h q kds xs q'→∀ (i : Nat) o,l[i]? = some o→∃ kd x qi qi',kds[i]? = some kd∧xs[i]? = some x∧(∃ d,o.dst = some d∧d < N)∧HStp P N pr ops (hAt h (l.take i) xs) qi o kd x qi' o.guard
  | [],h,q,q',kds,xs,_,i,o,ho=>by simp at ho
  | o' :: l,h,q,q',[],xs,hh,i,o,ho=>hh.elim
  | o' :: l,h,q,q',kd :: kds,[],hh,i,o,ho=>hh.elim
  | o' :: l,h,q,q',kd :: kds,x :: xs,hh,i,o,ho=>by
    obtain ⟨hd,q1,h1,h2⟩:=hh
    cases i with
    | zero=>simp at ho;subst ho;exact ⟨kd,x,q,q1,rfl,rfl,hd,h1⟩
    | succ i =>
      obtain ⟨kd',x',qi,qi',k1,k2,k3,k4⟩:=heads_at h2 i o (by simpa using ho)
      exact ⟨kd',x',qi,qi',by simpa using k1,by simpa using k2,k3,by rw [List.take_succ_cons,hAt];exact k4⟩
def FactsL (P : Program) (m : Nat) (E : En) (L : Nat→Option Nat) (c : Nat) (a : Act) (w : World) : List Oper→List HK→List AV→List (List Nat)→Prop
  | [],[],[],[]=>True
  | o :: l,kd :: kds,x :: xs,f :: fs=>(∀ d,o.dst = some d→Fact P m E L c a w (a.tmps.getD d undef) f kd∧SlotR w (E.plus m w.heap.size) L c x (a.tmps.getD d undef))∧FactsL P m E L c a w l kds xs fs
  | _,_,_,_=>False
def NoFwd (ops : Array Oper) : List Oper→Prop
  | []=>True
  | o :: r=>(∀ t ∈ o.looksAt ops,t ∉ dsts (o :: r))∧NoFwd ops r
theorem undL_push {ds : List Nat} {x : Ob} : (undL q ds).push x = undL (q.push x) ds:=rfl
theorem undL_pushL {ds : List Nat} : ∀ {l : List Ob} {q : AS},(undL q ds).pushL l = undL (q.pushL l) ds
  | [],q=>rfl
  | x :: l,q=>by rw [AS.pushL,AS.pushL,undL_push,undL_pushL]
theorem reslot (h : RepE w0 N s a w E) {sl' : Nat→AV} (hs : ∀ t,SlotR w E s.lv s.c (sl' t) (a.tmps.getD t undef)) : RepE w0 N { s with sl:=sl' } a w E :=
  ⟨h.size,h.defers,h.bel,h.obj,hs,h.A_lt,h.A_m,h.A_o,h.mm,h.oo,h.m_lt,h.anc,h.mF,h.oF⟩
theorem solid_stay {L L' : Nat→Option Nat} {c c' : Nat} {E1 E2 : En} {x : AC} {u : Value} (h : CellR w E1 L c x u) (hs : solidC x = true) (hL : ∀ i st,st < c→L' i = some st→L i = some st∧E2.v i = E1.v i) (hc : c≤c') : CellR w E2 L' c' x u:=by
  cases x with
  | d y =>
    cases y with
    | sc v=>obtain ⟨rfl,hv⟩:=RepL.scOf h;exact RepL.sc hv .nil
    | sl=>simp [solidC] at hs
  | nil=>exact h
  | own i st=>exact ⟨Nat.lt_of_lt_of_le h.1 hc,fun hl=>by obtain ⟨h1,h2⟩:=hL i st h.1 hl;rw [h2];exact h.2 h1⟩
  | ptr i st off=>exact ⟨Nat.lt_of_lt_of_le h.1 hc,fun hl=>by obtain ⟨h1,h2⟩:=hL i st h.1 hl;rw [h2];exact h.2 h1⟩
  | elt i st kk j off=>exact ⟨Nat.lt_of_lt_of_le h.1 hc,fun hl=>by obtain ⟨h1,h2⟩:=hL i st h.1 hl;rw [h2];exact h.2 h1⟩
  | sub i st kk lo n=>exact ⟨Nat.lt_of_lt_of_le h.1 hc,fun hl=>by obtain ⟨h1,h2⟩:=hL i st h.1 hl;rw [h2];exact h.2 h1⟩
  | emp=>exact h
  | rd=>simp [solidC] at hs
theorem fin_slot {L L' : Nat→Option Nat} {c c' : Nat} {E2 : En} {x : AV} {v : Value} (h : SlotR w E L c x v) (hL : ∀ i st,st < c→L' i = some st→L i = some st∧E2.v i = E.v i) (hc : c≤c') (hpr : pr = true→∀ b,E.A b→E2.A b) : SlotR w E2 L' c' (finV pr x) v:=by
  unfold finV
  split
  · rename_i hp;exact h.stay ⟨fun b hb=>⟨hpr hp b hb,rfl⟩,hL,hc⟩
  · split
    · rename_i b cs
      split
      · rename_i hall
        obtain ⟨vals,h1,h2⟩:=part_get (show PartR w E L c b cs v from h)
        exact part_mk h1 ⟨h2.1,fun j x u hx hu=>solid_stay (h2.2 j x u hx hu) (List.all_eq_true.1 hall x (List.mem_of_getElem? hx)) hL hc⟩
      · trivial
    · trivial
theorem adO_flat : ∀ {ds : List DV} {c b0 : Nat} {vals : List Value} {f : List Nat},adO false ds c = []→OwnL w b0 vals ds f→f = []
  | [],c,b0,vals,f,_,h=>by cases h;rfl
  | .sc v :: ds,c,b0,vals,f,h,ho=>by cases ho with | sc _ ho=>exact adO_flat (show adO false ds c = [] from h) ho
  | .sl t k es :: ds,c,b0,vals,f,h,_=>by simp [adO] at h
theorem resO_flat {A : Nat→Prop} {b0 : Nat} : ∀ {rs : List Rs} {vs : List Value} {fs : List (List Nat)} {c : Nat},(∀ r ∈ rs,r.2.2 = true)→resO false rs c = []→ResQs w b0 A vs rs fs→fs.flatten = []
  | [],[],[],_,_,_,_=>rfl
  | (b,ds,dp) :: rs,v :: vs,f :: fs,c,hd,h,hq=>by
    have hdp : dp = true:=hd _ (List.mem_cons_self ..)
    subst hdp
    simp only [resO,List.append_eq_nil_iff] at h
    obtain ⟨vals,_,h2⟩:=hq.1
    have h2 : OwnL w b0 vals ds f:=h2
    rw [List.flatten_cons,adO_flat h.1 h2,resO_flat (fun r hr=>hd r (List.mem_cons_of_mem _ hr)) h.2 hq.2];rfl
  | [],_ :: _,_,_,_,_,h=>by cases h
  | [],[],_ :: _,_,_,_,h=>by cases h
  | _ :: _,[],_,_,_,_,h=>by cases h
  | _ :: _,_ :: _,[],_,_,_,h=>by cases h
theorem put_und {ds : List Nat} {d : Nat} {x : AV} (hd : d ∉ ds) (h : RepE w0 N (undL q (d :: ds)) a w E) (hx : SlotR w E q.lv q.c x (a.tmps.getD d undef)) : RepE w0 N (undL (q.put (some d) x) ds) a w E:=by
  have:=reslot h (sl':=fun t=>if ds.contains t then .und else (q.put (some d) x).sl t) (fun t=>?_)
  · exact this
  · split
    · trivial
    · rename_i ht
      by_cases e : t = d
      · subst e;simp only [AS.put,upd_same];exact hx
      · simp only [AS.put,upd_ne _ _ e]
        have:=h.slot t
        simp only [undL] at this
        rw [if_neg (by simp only [List.contains_cons];simp [e];simpa using ht)] at this
        exact this
theorem heads_fin {s0 : AS} (hw : w0.heap.size≤m) : ∀ {l : List Oper} {h q q' : AS} {kds : List HK} {xs : List AV} {fs : List (List Nat)} {Eq : En},Heads P N pr ops l h q kds xs q'→(dsts l).Nodup→NoFwd ops l→FactsL P m E s0.lv s0.c a w l kds xs fs →
    RepE w0 N (undL q (dsts l)) a w Eq→(∀ i st,st < s0.c→q.lv i = some st→s0.lv i = some st∧Eq.v i = E.v i)→s0.c≤q.c→(pr = true→∀ b,(E.plus m w.heap.size).A b→Eq.A b) →
    fs.flatten.Nodup→(pr = true ∨ ∀ b ∈ fs.flatten,¬ Eq.A b)→(∀ b ∈ fs.flatten,b < w.heap.size∧∀ j,j < q.n→b ∉ Eq.m j∧b ∉ Eq.o j)→∃ E',RepE w0 N q' a w E'
  | [],h,q,q',kds,xs,fs,Eq,hh,_,_,_,hr,_,_,_,_,_,_=>by
    cases kds with
    | cons=>exact hh.elim
    | nil=>cases xs with
      | cons=>exact hh.elim
      | nil =>
        obtain rfl : q' = q:=hh
        refine ⟨Eq,?_⟩
        have : undL q' (dsts []) = q':=by unfold undL dsts;simp
        rw [this] at hr;exact hr
  | o :: l,h,q,q',[],xs,fs,Eq,hh,_,_,_,_,_,_,_,_,_,_=>hh.elim
  | o :: l,h,q,q',kd :: kds,[],fs,Eq,hh,_,_,_,_,_,_,_,_,_,_=>hh.elim
  | o :: l,h,q,q',kd :: kds,x :: xs,[],Eq,hh,_,_,hfa,_,_,_,_,_,_,_=>hfa.elim
  | o :: l,h,q,q',kd :: kds,x :: xs,f :: fs,Eq,hh,hnd,hnf,hfa,hr,hL,hc,hpr,hfd,hfA,hff=>by
    obtain ⟨⟨d,hd,hdN⟩,q1,hst,hh⟩:=hh
    obtain ⟨hfact,hfa⟩:=hfa
    obtain ⟨hfk,hsl⟩:=hfact d hd
    have hds : dsts (o :: l) = d :: dsts l:=by unfold dsts;rw [List.filterMap_cons,hd]
    rw [hds] at hnd hr
    have hdl:=(List.nodup_cons.1 hnd).1
    have hnd':=(List.nodup_cons.1 hnd).2
    rw [List.flatten_cons] at hfd hfA hff
    have hfd':=List.nodup_append.1 hfd
    have caseV : ∀ y,SlotR w (E.plus m w.heap.size) s0.lv s0.c y (a.tmps.getD d undef)→q1 = q.put o.dst (finV pr y)→∃ E',RepE w0 N q' a w E':=by
      intro y hy e
      subst e
      rw [hd] at hh
      have hsl:=fin_slot (pr:=pr) (E2:=Eq) (L':=q.lv) (c':=q.c) hy (fun i st h1 h2=>hL i st h1 h2) hc hpr
      refine heads_fin hw hh hnd' hnf.2 hfa (put_und hdl hr hsl) (by rw [AS.put_lv];exact hL) (by rw [AS.put_c];exact hc) hpr hfd'.2.1 (hfA.imp id fun h b hb=>h b (List.mem_append_right _ hb)) (fun b hb=>by rw [AS.put_n];exact hff b (List.mem_append_right _ hb))
    have caseC : ∀ res : List Rs,res.all (·.2.2) = true→(pr = true→resO false res 0 = [])→kd = .c res→q1 = (q.pushL (resO false res q.c)).put o.dst (resAV res q.n q.c)→∃ E',RepE w0 N q' a w E':=by
      intro res hdp hpo hkd e
      subst hkd
      subst e
      rw [hd] at hh
      have hdp' : ∀ r ∈ res,r.2.2 = true:=fun r hx=>by simpa using List.all_eq_true.1 hdp r hx
      obtain ⟨vs,gs,hv,hq,rfl,hgn,_⟩:=hfk
      have hgA : ∀ b ∈ gs.flatten,¬ Eq.A b:=by
        intro b hb
        rcases hfA with hp | hA
        · rw [resO_flat hdp' (hpo hp) hq] at hb;cases hb
        · exact hA b (List.mem_append_left _ hb)
      obtain ⟨E2,k1,k2,k3⟩:=adoptRs (b0:=m) hw res hr (fun _ h=>h.elim) hq hgn (fun b hb=>⟨hgA b hb,(hff b (List.mem_append_left _ hb)).2⟩)
      have hc' : (undL q (d :: dsts l)).c = q.c:=rfl
      have hn' : (undL q (d :: dsts l)).n = q.n:=rfl
      rw [hc',hn'] at k2
      rw [hc'] at k1 k3
      rw [undL_pushL] at k1 k2 k3
      rw [hn'] at k3
      obtain ⟨p1,p2,p3,p4⟩:=pushL_n (resO false res q.c) q
      have hlvn : ∀ i st,st < q.c→(q.pushL (resO false res q.c)).lv i = some st→q.lv i = some st∧i < q.n:=by
        intro i st hst hl
        unfold AS.lv at hl
        split at hl
        · rename_i hi
          by_cases hiq : i < q.n
          · rw [p4 i hiq] at hl
            unfold AS.lv;rw [if_pos hiq];exact ⟨hl,hiq⟩
          · obtain ⟨st',h1,h2⟩:=pushL_new _ q i (by omega) hi (resO_st false res q.c)
            rw [hl] at h1;injection h1 with h1;omega
        · cases hl
      refine heads_fin hw hh hnd' hnf.2 hfa (put_und hdl k1 (resAV_ok k2 hv)) ?_ (by rw [AS.put_c,p2];omega) (fun hp b hb=>k3.A b (hpr hp b hb)) hfd'.2.1 ?_ ?_
      · intro i st hst hl
        rw [AS.put_lv] at hl
        obtain ⟨h1,h2⟩:=hlvn i st (by omega) hl
        obtain ⟨h3,h4⟩:=hL i st hst h1
        exact ⟨h3,((k3.same i h2).1).trans h4⟩
      · rcases hfA with hp | hA
        · exact .inl hp
        · right
          intro b hb hbA
          rcases k3.A' b hbA with h1 | h1
          · exact hA b (List.mem_append_right _ hb) h1
          · exact hfd'.2.2 b h1 b hb rfl
      · intro b hb
        obtain ⟨g1,g2⟩:=hff b (List.mem_append_right _ hb)
        refine ⟨g1,fun j hj=>?_⟩
        rw [AS.put_n] at hj
        have hbg : b ∉ gs.flatten:=fun hbg=>hfd'.2.2 b hbg b hb rfl
        by_cases hjq : j < q.n
        · obtain ⟨_,e2,e3⟩:=k3.same j hjq
          rw [e2,e3];exact g2 j hjq
        · exact ⟨fun hm=>hbg (k3.new j (by omega) hj b (.inl hm)),fun hm=>hbg (k3.new j (by omega) hj b (.inr hm))⟩
    have caseR : HRun P pr h q o kd x q1→∃ E',RepE w0 N q' a w E':=by
      rintro (⟨y,_,rfl,rfl,e⟩ | ⟨fn,args,ts,ys,res,ho,hmt,_,hdp,hpo,rfl,rfl,e⟩ | ⟨t,len,parts,el,k,es,esq,ho,hp0,ht,hz,hk,hl,hs,_,hfq,rfl,rfl,e⟩ | ⟨t,cs,ho,hp0,hz,rfl,rfl,e⟩ | ⟨y,z,hpu,hp0,_,hz,rfl,rfl,e⟩ | ⟨X,Y,t,el,k,by_,c,t2,es,zs,res,ho,hp0,ht,hz,hzl,hk,hby,hX,hY,hrd,hne,hfl,h63,hbt,hres,rfl,rfl,e⟩ | ⟨X,Y,t,el,k,c,t2,k2,ho,hp0,ht,hX,hY,hrd,rfl,rfl,e⟩ | ⟨_,_,_,_,_,ho,hp0,_,_,_,rfl,rfl,e⟩)
      · exact caseV _ hsl e
      · exact caseC res hdp hpo rfl e
      · subst e
        rw [hd] at hh
        obtain ⟨g,hv,rfl,hmg,hB⟩:=hfk
        obtain ⟨hg1,hg2⟩:=hff g (by simp)
        have hgA : ¬ Eq.A g:=by
          rcases hfA with hp | hA
          · rw [hp0] at hp;cases hp
          · exact hA g (by simp)
        have hal : Alike q (undL q (d :: dsts l)) (parts.toList.map (·.2)):=by
          refine ⟨rfl,rfl,fun t' ht'=>?_⟩
          have h1 : t' ∈ o.looksAt ops:=by
            unfold Oper.looksAt
            refine List.mem_append_left _ (List.mem_filterMap.2 ⟨.tmp t',?_,rfl⟩)
            rw [ho,← fill_bs];exact ht'
          have h2:=hnf.1 t' h1
          rw [hds] at h2
          simp only [undL]
          rw [if_neg (by simpa using h2)]
        rw [← bsF_alike hal] at hfq
        obtain ⟨c1,c2⟩:=bs_cat hr hfq
        obtain ⟨hl1,hl2⟩:=bsF_len hfq
        have hpush:=hr.pushOb (X:=.arr q.c el k esq) (v':=.slice (some ⟨g,0,none⟩) parts.toList.length parts.toList.length) (m':=[g]) (o':=[]) rfl (Below.refl _ _)
          (fun b hb=>by simp at hb;subst hb;exact ⟨hg1,hgA,fun j hj=>(hg2 j hj).1⟩) (by simp) (by simp) (by
            rintro E' rfl hstay
            have hmx : esq.length≤maxLen:=by
              have : len * 1≤len * k:=Nat.mul_le_mul_left _ hk
              rw [hl1,hl];unfold maxLen;omega
            refine ⟨g,catV a parts.toList,by exact Nat.lt_succ_self _,?_,?_,?_,Nat.zero_le _,hmx,hB,hk,hl2,c1.stay hstay⟩
            · show upd Eq.v q.n _ q.n = _
              rw [upd_same,hl1]
            · show upd Eq.m q.n _ q.n = _
              rw [upd_same]
            · show upd Eq.o q.n _ q.n = _
              rw [upd_same]) (fun b hb=>by simp at hb;subst hb;exact w0.hfr _ (Nat.le_trans hw hmg))
        rw [undL_push] at hpush
        have hqn : (undL q (d :: dsts l)).n = q.n:=rfl
        rw [hqn] at hpush
        refine heads_fin hw hh hnd' hnf.2 hfa (put_und hdl hpush ?_) ?_ (by rw [AS.put_c];simp [AS.push];omega) (fun hp b hb=>.inl (hpr hp b hb)) hfd'.2.1 ?_ ?_
        · refine slot_one_mk ⟨by simp [AS.push],fun _=>?_⟩
          simp only [upd_same];exact hv
        · intro i st hst hl
          rw [AS.put_lv] at hl
          unfold AS.lv AS.push at hl
          by_cases e : i = q.n
          · subst e
            simp only [upd_same,Ob.st] at hl
            split at hl
            · injection hl with hl;omega
            · cases hl
          · simp only [upd_ne _ _ e] at hl ⊢
            refine hL i st hst ?_
            unfold AS.lv
            split at hl
            · rename_i hi;rw [if_pos (by omega)];exact hl
            · cases hl
        · rcases hfA with hp | hA
          · exact .inl hp
          · right
            intro b hb hbA
            rcases hbA with h1 | h1
            · exact hA b (List.mem_append_right _ hb) h1
            · cases h1
        · intro b hb
          obtain ⟨g1,g2⟩:=hff b (List.mem_append_right _ hb)
          refine ⟨g1,fun j hj=>?_⟩
          rw [AS.put_n] at hj
          by_cases e : j = q.n
          · subst e
            simp only [upd_same]
            exact ⟨fun hm=>by simp at hm;exact hfd'.2.2 g (by simp) b hb hm.symm,by simp⟩
          · simp only [upd_ne _ _ e]
            exact g2 j (by simp [AS.push] at hj;omega)
      · subst e
        rw [hd] at hh
        obtain ⟨g,vals,hv,rfl,hmg,hB,hcs⟩:=hfk
        obtain ⟨hg1,hg2⟩:=hff g (by simp)
        have hgA : ¬ Eq.A g:=by
          rcases hfA with hp | hA
          · rw [hp0] at hp;cases hp
          · exact hA g (by simp)
        have hpush:=hr.pushOb (X:=.var q.c t cs) (v':=.pointer (some ⟨g,0,none⟩)) (m':=[g]) (o':=[]) rfl (Below.refl _ _)
          (fun b hb=>by simp at hb;subst hb;exact ⟨hg1,hgA,fun j hj=>(hg2 j hj).1⟩) (by simp) (by simp) (by
            rintro E' rfl hstay
            refine ⟨g,vals,by exact Nat.lt_succ_self _,?_,?_,?_,Nat.zero_le _,hB,hcs _ _ _ _⟩
            · show upd Eq.v q.n _ q.n = _
              rw [upd_same]
            · show upd Eq.m q.n _ q.n = _
              rw [upd_same]
            · show upd Eq.o q.n _ q.n = _
              rw [upd_same]) (fun b hb=>by simp at hb;subst hb;exact w0.hfr _ (Nat.le_trans hw hmg))
        rw [undL_push] at hpush
        have hqn : (undL q (d :: dsts l)).n = q.n:=rfl
        rw [hqn] at hpush
        refine heads_fin hw hh hnd' hnf.2 hfa (put_und hdl hpush ?_) ?_ (by rw [AS.put_c];simp [AS.push];omega) (fun hp b hb=>.inl (hpr hp b hb)) hfd'.2.1 ?_ ?_
        · refine slot_one_mk ⟨by simp [AS.push],fun _=>?_⟩
          simp only [upd_same];exact ⟨g,rfl,hv⟩
        · intro i st hst hl
          rw [AS.put_lv] at hl
          unfold AS.lv AS.push at hl
          by_cases e : i = q.n
          · subst e
            simp only [upd_same,Ob.st] at hl
            split at hl
            · injection hl with hl;omega
            · cases hl
          · simp only [upd_ne _ _ e] at hl ⊢
            refine hL i st hst ?_
            unfold AS.lv
            split at hl
            · rename_i hi;rw [if_pos (by omega)];exact hl
            · cases hl
        · rcases hfA with hp | hA
          · exact .inl hp
          · right
            intro b hb hbA
            rcases hbA with h1 | h1
            · exact hA b (List.mem_append_right _ hb) h1
            · cases h1
        · intro b hb
          obtain ⟨g1,g2⟩:=hff b (List.mem_append_right _ hb)
          refine ⟨g1,fun j hj=>?_⟩
          rw [AS.put_n] at hj
          by_cases e : j = q.n
          · subst e
            simp only [upd_same]
            exact ⟨fun hm=>by simp at hm;exact hfd'.2.2 g (by simp) b hb hm.symm,by simp⟩
          · simp only [upd_ne _ _ e]
            exact g2 j (by simp [AS.push] at hj;omega)
      · subst e
        rw [hd] at hh
        obtain ⟨rfl,hpv⟩:=hfk
        have hev : ∀ u,u ∈ o.op.operands.toList→SlotR w Eq q.lv q.c (q.ev u) (a.eval u):=by
          intro u hu
          have hal : Alike q (undL q (d :: dsts l)) [u]:=by
            refine ⟨rfl,rfl,fun t' ht'=>?_⟩
            have ht' : Operand.tmp t' = u:=by simpa using ht'
            have h1 : t' ∈ o.looksAt ops:=by
              unfold Oper.looksAt
              exact List.mem_append_left _ (List.mem_filterMap.2 ⟨.tmp t',by rw [ht'];exact hu,rfl⟩)
            have h2:=hnf.1 t' h1
            rw [hds] at h2
            simp only [undL]
            rw [if_neg (by simpa using h2)]
          have e:=ev_ok hr u
          rw [hal.ev (List.mem_cons_self ..)] at e
          exact e
        have hsz : SlotR w Eq q.lv q.c z (a.tmps.getD d undef):=by
          cases hop : o.op with
          | build t parts =>
            have hal : Alike q (undL q (d :: dsts l)) o.op.operands.toList:=by
              refine ⟨rfl,rfl,fun t' ht'=>?_⟩
              have h1 : t' ∈ o.looksAt ops:=by
                unfold Oper.looksAt
                exact List.mem_append_left _ (List.mem_filterMap.2 ⟨.tmp t',ht',rfl⟩)
              have h2:=hnf.1 t' h1
              rw [hds] at h2
              simp only [undL]
              rw [if_neg (by simpa using h2)]
            rw [← hVb_alike hal] at hz
            rw [hop] at hz hpv
            obtain ⟨us,u1,u2⟩:=hpv
            simp only [hVb] at hz
            split at hz
            · rename_i g1
              split at hz
              · rename_i zz g2
                split at hz
                · rename_i cs g3
                  injection hz with hz;subst hz
                  obtain ⟨us',b1,b2⟩:=build_rep (o:=o) g1 g2 g3 hr
                  rw [u2] at b1
                  injection b1 with b1
                  have b1 : us = us':=by simpa using congrArg Array.toList b1
                  subst b1
                  rw [u1];exact ⟨us,rfl,b2⟩
                · cases hz
              · cases hz
            · cases hz
          | move u =>
            rw [hop] at hz hpv hev
            simp only [hVb,hV] at hz
            injection hz with hz
            have hpv : a.tmps.getD d undef = a.eval u:=hpv
            rw [hpv,← hz]
            exact hev u (by simp [Op.operands])
          | assign u =>
            rw [hop] at hz hpv hev
            simp only [hVb,hV] at hz
            injection hz with hz
            have hpv : a.tmps.getD d undef = a.eval u:=hpv
            rw [hpv,← hz]
            exact hev u (by simp [Op.operands])
          | extract u ix =>
            rw [hop] at hz hpv hev
            simp only [hVb,hV] at hz
            have e:=hev u (by simp [Op.operands])
            obtain ⟨vs,e1,e2⟩:=(show ∃ vs : List Value,a.eval u = .tuple vs.toArray∧vs[ix]? = some (a.tmps.getD d undef) from hpv)
            unfold xtV at hz
            split at hz
            · rename_i xs' hxs
              split at hz
              · rename_i b cs hb
                injection hz with hz;subst hz
                rw [hxs] at e
                obtain ⟨vs',f1,f2,f3⟩:=e
                rw [e1] at f1
                injection f1 with f1
                have f1 : vs = vs':=by simpa using congrArg Array.toList f1
                subst f1
                exact f3 ix b cs _ hb e2
              · cases hz
            · cases hz
          | _=>rw [hop] at hpu;cases hpu
        refine heads_fin hw hh hnd' hnf.2 hfa (put_und hdl hr hsz) (by rw [AS.put_lv];exact hL) (by rw [AS.put_c];exact hc) hpr hfd'.2.1 (hfA.imp id fun h b hb=>h b (List.mem_append_right _ hb)) (fun b hb=>by rw [AS.put_n];exact hff b (List.mem_append_right _ hb))
      · subst hres
        exact caseC _ rfl (fun hp=>by rw [hp0] at hp;cases hp) rfl e
      · subst e
        rw [hd] at hh
        obtain ⟨rfl,hpv⟩:=hfk
        rw [ho] at hpv
        obtain ⟨X',Y',hXY,hva⟩:=hpv
        have hXX : X' = X:=by injection hXY with hXY;injection hXY with h1 h2;exact h1.symm
        subst hXX
        have hsz : SlotR w Eq q.lv q.c (q.ev X') (a.tmps.getD d undef):=by
          have hal : Alike q (undL q (d :: dsts l)) [X']:=by
            refine ⟨rfl,rfl,fun t' ht'=>?_⟩
            have ht' : Operand.tmp t' = X':=by simpa using ht'
            have h1 : t' ∈ o.looksAt ops:=by
              unfold Oper.looksAt
              exact List.mem_append_left _ (List.mem_filterMap.2 ⟨.tmp t',by rw [ho,ht'];simp [Op.operands,Call.operands],rfl⟩)
            have h2:=hnf.1 t' h1
            rw [hds] at h2
            simp only [undL]
            rw [if_neg (by simpa using h2)]
          have e:=ev_ok hr X'
          rw [hal.ev (List.mem_cons_self ..)] at e
          rw [hva];exact e
        refine heads_fin hw hh hnd' hnf.2 hfa (put_und hdl hr hsz) (by rw [AS.put_lv];exact hL) (by rw [AS.put_c];exact hc) hpr hfd'.2.1 (hfA.imp id fun h b hb=>h b (List.mem_append_right _ hb)) (fun b hb=>by rw [AS.put_n];exact hff b (List.mem_append_right _ hb))
      · exact caseV _ hsl e
    cases hgd : o.guard with
    | none=>rw [hgd] at hst;exact caseR hst
    | some gw =>
      rw [hgd] at hst
      obtain ⟨t,b,_,_,_,hb⟩:=hst
      split at hb
      · exact caseR hb
      · obtain ⟨_,hx,e⟩:=hb
        exact caseV (.tup []) (by rw [← hx];exact hsl) e
end
end Go.Proofs.Ytboheedjhnbnhaa
namespace Go.Proofs.Ytboheedjhnbnhaa
open Go.RowKit
section
variable {P : Program} {w0 : Cx} {ws w w' : World} {N m n : Nat} {s h H q q' qF : AS} {a : Act} {E : En} {o : Oper} {pr : Bool} {l : List Oper} {kds : List HK} {xs : List AV} {Q : Exit→AS→Prop}
def lds (l : List Oper) (n : Nat) (listed : Array Bool) : List Nat:=(List.range n).filterMap fun j=>if listed.getD j false then (l[j]?).bind (·.dst) else none
theorem mem_lds {listed : Array Bool} {t : Nat} : t ∈ lds l n listed ↔ ∃ j o,j < n∧listed.getD j false = true∧l[j]? = some o∧o.dst = some t:=by
  unfold lds
  rw [List.mem_filterMap]
  constructor
  · rintro ⟨j,hj,h⟩
    split at h
    · rename_i hl
      cases ho : l[j]? with
      | none=>simp [ho] at h
      | some o=>simp [ho] at h;exact ⟨j,o,List.mem_range.1 hj,hl,ho,h⟩
    · cases h
  · rintro ⟨j,o,hj,hl,ho,hd⟩
    exact ⟨j,List.mem_range.2 hj,by rw [if_pos hl];simp [ho,hd]⟩
def plH : Op→Bool
  | .call ⟨.value _,_,_⟩=>false
  | .call ⟨.builtin .append,_,_⟩=>false
  | .alloc _=>false
  | .buildSlice _ _ _=>false
  | _=>true
def PlL (l : List Oper) (n : Nat) : Prop:=∀ o ∈ l.take n,plH o.op = true
theorem hrun_plain {pr : Bool} {h q q' : AS} {kd : HK} {x : AV} (hr : HRun P pr h q o kd x q') (hp : plH o.op = true) : ∃ y,hVb P h o.op = some y:=by
  have hb : ∀ y,hVb P h o.op = some y→hVb P h o.op = some y:=fun _ h=>h
  rcases hr with ⟨y,h1,_⟩ | ⟨f,args,ts,ys,res,ho,_⟩ | ⟨t,len,parts,el,k,es,esq,ho,_⟩ | ⟨t,cs,ho,_⟩ | ⟨y,z,_,_,h1,_⟩ | ⟨_,_,_,_,_,_,_,_,_,_,_,ho,_⟩ | ⟨_,_,_,_,_,_,_,_,ho,_⟩ | ⟨_,_,_,_,_,ho,_⟩
  · exact ⟨y,hb y h1⟩
  · rw [ho] at hp;cases hp
  · rw [ho] at hp;cases hp
  · rw [ho] at hp;cases hp
  · exact ⟨y,hb y h1⟩
  · rw [ho] at hp;cases hp
  · rw [ho] at hp;cases hp
  · rw [ho] at hp;cases hp
structure HInv (P : Program) (w0 : Cx) (ws : World) (N m n : Nat) (s : AS) (E : En) (l : List Oper) (kds : List HK) (xs : List AV) (listed : Array Bool) (a : Act) (w : World) (fs : Nat→List Nat) : Prop where
  rep : RepE w0 N (undL s (lds l n listed)) a w E
  le : m≤w.heap.size
  fact : ∀ j o d kd x,j < n→listed.getD j false = true→l[j]? = some o→o.dst = some d→kds[j]? = some kd→xs[j]? = some x→Fact P m E s.lv s.c a w (a.tmps.getD d undef) (fs j) kd∧SlotR w (E.plus m w.heap.size) s.lv s.c x (a.tmps.getD d undef)
  blk : ∀ j,j < n→listed.getD j false = true→∀ b ∈ fs j,m≤b∧b < w.heap.size
  dis : ∀ i j,i < n→j < n→listed.getD i false = true→listed.getD j false = true→i ≠ j→∀ b ∈ fs i,b ∉ fs j
  bl : PlL l n→w.heap = ws.heap
theorem growA (h : RepE w0 N s a w E) (hw : w0.heap.size≤m) (hm : ∀ i,i < s.n→∀ b ∈ E.m i,b < m) : RepE w0 N s a w (E.plus m w.heap.size):=by
  have hst : Stay w E s.lv s.c w (E.plus m w.heap.size) s.lv s.c:=⟨fun b hb=>⟨.inl hb,rfl⟩,fun i st _ h=>⟨h,rfl⟩,Nat.le_refl _⟩
  refine ⟨h.size,h.defers,h.bel,fun i hi=>(h.obj i hi).stay hst rfl rfl rfl (fun _ _=>rfl) (fun b hb=>h.A_o i hi b hb),fun t=>(h.slot t).stay hst,fun b hb=>?_,fun b hb i hi hbm=>?_,fun i hi b hb=>.inl (h.A_o i hi b hb),h.mm,h.oo,h.m_lt,fun b hb=>?_,h.mF,h.oF⟩
  · rcases hb with hb | hb
    · exact h.A_lt b hb
    · exact hb.2
  · rcases hb with hb | hb
    · exact h.A_m b hb i hi hbm
    · have:=hm i hi b hbm;omega
  · rcases hb with hb | hb
    · exact h.anc b hb
    · exact .inr (w0.hfr b (Nat.le_trans hw hb.1))
theorem nodup_flat : ∀ {ls : List (List Nat)},(∀ f ∈ ls,f.Nodup)→ls.Pairwise (fun x y=>∀ b ∈ x,b ∉ y)→ls.flatten.Nodup
  | [],_,_=>by simp
  | f :: ls,h1,h2=>by
    rw [List.flatten_cons]
    rw [List.pairwise_cons] at h2
    refine List.nodup_append.2 ⟨h1 f (List.mem_cons_self ..),nodup_flat (fun g hg=>h1 g (List.mem_cons_of_mem _ hg)) h2.2,fun x hx y hy e=>?_⟩
    subst e
    obtain ⟨g,hg,hxg⟩:=List.mem_flatten.1 hy
    exact h2.1 g hg x hx hxg
theorem fact_nodup {L : Nat→Option Nat} {c : Nat} {v : Value} {f : List Nat} {kd : HK} (h : Fact P m E L c a w v f kd) : f.Nodup:=by
  cases kd with
  | v x=>obtain rfl : f = []:=h;exact List.nodup_nil
  | c res=>obtain ⟨vs,fs,_,_,rfl,hn,_⟩:=h;exact hn
  | b el k parts=>obtain ⟨g,_,rfl,_⟩:=h;simp
  | a t cs=>obtain ⟨g,_,_,rfl,_⟩:=h;simp
  | p op=>obtain ⟨rfl,_⟩:=h;exact List.nodup_nil
theorem put_getD_ne {d t : Nat} {v : Value} (h : t ≠ d) : (a.put (some d) v).tmps.getD t undef = a.tmps.getD t undef:=by
  simp [Act.put,Array.getElem?_setIfInBounds_ne (Ne.symm h)]
theorem put_getD {d : Nat} {v : Value} (h : d < a.tmps.size) : (a.put (some d) v).tmps.getD d undef = v:=by
  simp [Act.put,h]
theorem put_eval_ne {d : Nat} {v : Value} {x : Operand} (h : x ≠ .tmp d) : (a.put (some d) v).eval x = a.eval x:=by
  cases x with
  | tmp t=>exact put_getD_ne (fun e=>h (by rw [e]))
  | _=>rfl
theorem catV_put {d : Nat} {v : Value} {parts : List (Nat × Operand)} (h : ∀ x ∈ parts,x.2 ≠ .tmp d) : catV (a.put (some d) v) parts = catV a parts:=by
  unfold catV
  rw [List.flatMap_def,List.flatMap_def]
  congr 1
  exact List.map_congr_left fun x hx=>by rw [put_eval_ne (h x hx)]
def kdOps : HK→List Operand
  | .b _ _ parts=>parts.map (·.2)
  | .p op=>op.operands.toList
  | _=>[]
theorem hrun_ops {pr : Bool} {h q q' : AS} {o : Oper} {kd : HK} {x : AV} (hr : HRun P pr h q o kd x q') : ∀ y ∈ kdOps kd,y ∈ o.op.operands.toList:=by
  intro y hy
  rcases hr with ⟨_,_,rfl,_⟩ | ⟨_,_,_,_,_,_,_,_,_,_,rfl,_⟩ | ⟨t,len,parts,el,k,es,esq,ho,_,_,_,_,_,_,_,_,rfl,_⟩ | ⟨_,_,_,_,_,rfl,_⟩ | ⟨_,_,_,_,_,_,rfl,_⟩ | ⟨_,_,_,_,_,_,_,_,_,_,_,_,_,_,_,_,_,_,_,_,_,_,_,_,_,_,rfl,_⟩ | ⟨_,_,_,_,_,_,_,_,_,_,_,_,_,_,rfl,_⟩ | ⟨_,_,_,_,_,_,_,_,_,_,rfl,_⟩
  · cases hy
  · cases hy
  · rw [ho,← fill_bs];exact hy
  · cases hy
  · exact hy
  · cases hy
  · exact hy
  · cases hy
theorem yielded_ok2 {ops : Array Oper} (h : RepE w0 N s a w E) {g t : Nat} {b : Option Bool} (hg : gslot ops g = some t) (hs : s.sl t = gAV b) (ht : t < N) : yielded ops a.tmps g = b:=by
  cases b with
  | some b=>exact yielded_ok h hg hs ht
  | none =>
    have:=h.slot t
    rw [hs] at this
    obtain ⟨vs,h1,h2,-⟩:=this
    obtain rfl : vs = []:=List.length_eq_zero_iff.1 h2.symm
    unfold yielded
    unfold gslot at hg
    rw [hg]
    have hz : t < a.tmps.size:=by rw [h.size];exact ht
    simp [hz] at h1
    simp [hz,h1]
theorem hstp_ops {pr : Bool} {ops : Array Oper} {h q q' : AS} {o : Oper} {kd : HK} {x : AV} (hst : HStp P N pr ops h q o kd x q' o.guard) : ∀ y ∈ kdOps kd,y ∈ o.op.operands.toList:=by
  cases hgd : o.guard with
  | none=>rw [hgd] at hst;exact hrun_ops hst
  | some gw =>
    rw [hgd] at hst
    obtain ⟨t,b,_,_,_,hbb⟩:=hst
    split at hbb
    · exact hrun_ops hbb
    · intro y hy;rw [hbb.1] at hy;cases hy
theorem pureV_put {d : Nat} {u v : Value} {op : Op} (h : PureV P a v op) (hp : ∀ x ∈ op.operands.toList,x ≠ .tmp d) : PureV P (a.put (some d) u) v op:=by
  cases op with
  | build t parts =>
    obtain ⟨us,e1,e2⟩:=h
    refine ⟨us,e1,?_⟩
    rw [← e2]
    congr 2
    refine Array.map_congr_left fun x hx=>?_
    rw [put_eval_ne (hp x.2 (by simp only [Op.operands,Array.toList_map,List.mem_map];exact ⟨x,by simpa using hx,rfl⟩))]
  | move x=>show v = _;rw [put_eval_ne (hp x (by simp [Op.operands]))];exact h
  | assign x=>show v = _;rw [put_eval_ne (hp x (by simp [Op.operands]))];exact h
  | extract x ix=>obtain ⟨vs,e1,e2⟩:=h;exact ⟨vs,by rw [put_eval_ne (hp x (by simp [Op.operands]))];exact e1,e2⟩
  | call c =>
    obtain ⟨callee,args,ts⟩:=c
    unfold PureV at h ⊢
    split at h
    · rename_i heq;cases heq
    · rename_i heq;cases heq
    · rename_i heq;cases heq
    · rename_i heq;cases heq
    · rename_i heq
      injection heq with heq;injection heq with e1 e2 e3
      subst e1 e2 e3
      obtain ⟨X,Y,rfl,e⟩:=h
      exact ⟨X,Y,rfl,by rw [put_eval_ne (hp X (by simp [Op.operands,Call.operands]))];exact e⟩
    · exact h.elim
  | _=>cases h
theorem fact_keep {L : Nat→Option Nat} {c : Nat} {v u : Value} {f : List Nat} {kd : HK} {d : Nat} (h : Fact P m E L c a w v f kd) (hb : Below w.heap.size w w') (hp : ∀ x ∈ kdOps kd,x ≠ .tmp d) : Fact P m E L c (a.put (some d) u) w' v f kd:=by
  cases kd with
  | v x=>exact h
  | c res=>obtain ⟨vs,fs,h1,h2,h3,h4,h5⟩:=h;exact ⟨vs,fs,h1,ResQs.keep (fun b hbb=>hb.block b hbb) h5 h2,h3,h4,h5⟩
  | b el k parts=>obtain ⟨g,h1,h2,h3,h4⟩:=h;exact ⟨g,h1,h2,h3,by rw [catV_put (fun x hx=>hp x.2 (List.mem_map.2 ⟨x,hx,rfl⟩))];exact h4.keep hb⟩
  | a t cs=>obtain ⟨g,vals,h1,h2,h3,h4,h5⟩:=h;exact ⟨g,vals,h1,h2,h3,h4.keep hb,h5⟩
  | p op=>exact ⟨h.1,pureV_put h.2 hp⟩
def drawB (l : List Oper) (n : Nat) : Bool:=fixB .any l n && decide ((dsts (l.take n)).Nodup)
theorem looks_lt (hB : fixB .any l n = true) {i j : Nat} {oi oj : Oper} {t : Nat} (hi : i < n) (hoi : l[i]? = some oi) (hj : j < n) (hoj : l[j]? = some oj) (hd : oj.dst = some t) (ht : t ∈ oi.looksAt l.toArray) : j < i∧Region.waitsFor .any l.toArray i j = true:=by
  obtain ⟨_,_,_,_,h5⟩:=fixB_parts hB
  obtain ⟨h6,h7⟩:=h5 i oi hi hoi
  have hw:=h7 j oj hj hoj t hd ht
  obtain ⟨oi',hoi',e,he,hb,hon⟩:=Region.waitsFor_spec hw
  have : oi' = oi:=Option.some.inj (hoi'.symm.trans (by simpa using hoi))
  subst this
  refine ⟨?_,hw⟩
  rw [← hon];exact h6 e he hb
theorem nofwd_of : ∀ {l : List Oper} {ops : Array Oper},(∀ (i j : Nat) oi oj t,l[i]? = some oi→l[j]? = some oj→oj.dst = some t→t ∈ oi.looksAt ops→j < i)→NoFwd ops l
  | [],_,_=>trivial
  | o :: l,ops,h=>by
    refine ⟨fun t ht hm=>?_,nofwd_of fun i j oi oj t h1 h2 h3 h4=>?_⟩
    · unfold dsts at hm
      obtain ⟨oj,hoj,hd⟩:=List.mem_filterMap.1 hm
      obtain ⟨j,hj,rfl⟩:=List.mem_iff_getElem.1 hoj
      have:=h 0 j o _ t rfl (List.getElem?_eq_getElem hj) hd ht
      omega
    · have:=h (i + 1) (j + 1) oi oj t (by simpa using h1) (by simpa using h2) h3 h4
      omega
theorem factsL_of {L : Nat→Option Nat} {c : Nat} : ∀ {l : List Oper} {kds : List HK} {xs : List AV} {fs : List (List Nat)},kds.length = l.length→xs.length = l.length→fs.length = l.length →
    (∀ (j : Nat) o d kd x f,l[j]? = some o→o.dst = some d→kds[j]? = some kd→xs[j]? = some x→fs[j]? = some f→Fact P m E L c a w (a.tmps.getD d undef) f kd∧SlotR w (E.plus m w.heap.size) L c x (a.tmps.getD d undef))→FactsL P m E L c a w l kds xs fs
  | [],[],[],[],_,_,_,_=>trivial
  | o :: l,kd :: kds,x :: xs,f :: fs,h1,h2,h3,h=>by
    refine ⟨fun d hd=>h 0 o d kd x f rfl hd rfl rfl rfl,factsL_of (by simpa using h1) (by simpa using h2) (by simpa using h3) fun j o d kd x f a1 a2 a3 a4 a5=>h (j + 1) o d kd x f (by simpa using a1) a2 (by simpa using a3) (by simpa using a4) (by simpa using a5)⟩
  | [],_ :: _,_,_,h1,_,_,_=>by simp at h1
  | [],_,_ :: _,_,_,h2,_,_=>by simp at h2
  | [],_,_,_ :: _,_,_,h3,_=>by simp at h3
  | _ :: _,[],_,_,h1,_,_,_=>by simp at h1
  | _ :: _,_,[],_,_,h2,_,_=>by simp at h2
  | _ :: _,_,_,[],_,_,h3,_=>by simp at h3
theorem heads_len : ∀ {l : List Oper} {ops : Array Oper} {h q q' : AS} {kds : List HK} {xs : List AV},Heads P N pr ops l h q kds xs q'→kds.length = l.length∧xs.length = l.length
  | [],_,_,_,_,[],[],_=>⟨rfl,rfl⟩
  | o :: l,_,_,_,_,kd :: kds,x :: xs,h=>by obtain ⟨_,q1,_,h⟩:=h;obtain ⟨h1,h2⟩:=heads_len h;exact ⟨by simp [h1],by simp [h2]⟩
  | [],_,_,_,_,_ :: _,_,h=>h.elim
  | [],_,_,_,_,[],_ :: _,h=>h.elim
  | _ :: _,_,_,_,_,[],_,h=>h.elim
  | _ :: _,_,_,_,_,_ :: _,[],h=>h.elim
theorem undL_more {d1 : List Nat} (h : RepE w0 N (undL s d1) a w E) {d2 : List Nat} (hs : ∀ t ∈ d1,t ∈ d2) : RepE w0 N (undL s d2) a w E:=by
  refine h.weaken (s':=undL s d2) (Nat.le_refl _) (Nat.le_refl _) (fun _ _=>.inl rfl) (fun t=>?_)
  simp only [undL]
  by_cases h2 : t ∈ d2
  · right;rw [if_pos (by simpa using h2)]
  · left;rw [if_neg (by simpa using h2),if_neg (by simpa using fun h1=>h2 (hs t h1))]
def wpAnyJ (P : Program) (md : Region.Mode) (ops : Array Oper) (Q : Exit→Act→World→Prop) (J : Array Bool→Act→World→Prop) : Nat→Array Bool→Act→World→Prop
  | 0,listed,a,w=>J listed a w∧Region.ready md ops listed = []∧Q .normal a w
  | fuel + 1,listed,a,w=>J listed a w∧(Region.ready md ops listed = []→Q .normal a w)∧∀ i ∈ Region.ready md ops listed,wpOp P ops Q i (fun a' w'=>wpAnyJ P md ops Q J fuel (listed.setIfInBounds i true) a' w') a w
theorem wpAny_of_J {md : Region.Mode} {ops : Array Oper} {Q : Exit→Act→World→Prop} {J : Array Bool→Act→World→Prop} : ∀ (fuel : Nat) (listed : Array Bool) (a : Act) (w : World),wpAnyJ P md ops Q J fuel listed a w→wpAny P md ops Q fuel listed a w
  | 0,_,_,_,h=>h.2
  | fuel + 1,_,_,_,h=>⟨h.2.1,fun i hi=>wpOp_mono (fun a' w' h'=>wpAny_of_J fuel _ a' w' h') (h.2.2 i hi)⟩
theorem wpAnyJ_all {md : Region.Mode} {ops : Array Oper} {Q : Exit→Act→World→Prop} {J : Array Bool→Act→World→Prop} (hJt : ∀ (listed : Array Bool) a w,(∀ j,j < n→listed.getD j false = true)→J listed a w) :
    ∀ (fuel : Nat) (listed : Array Bool) (a : Act) (w : World),(∀ j,j < n→listed.getD j false = true)→wpAny P md ops Q fuel listed a w→wpAnyJ P md ops Q J fuel listed a w
  | 0,_,_,_,hl,h=>⟨hJt _ _ _ hl,h⟩
  | fuel + 1,listed,_,_,hl,h=>⟨hJt _ _ _ hl,h.1,fun i hi=>wpOp_mono (fun a' w' h'=>wpAnyJ_all hJt fuel _ a' w' (fun j hj=>by
      by_cases e : i = j
      · subst e
        have hlt : i < listed.size:=by
          rcases Nat.lt_or_ge i listed.size with h | h
          · exact h
          · have:=hl i hj;simp [Array.getElem?_eq_none h] at this
        simp [hlt]
      · rw [getD_set_ne false e];exact hl j hj) h') (h.2 i hi)⟩
theorem tail_plain (hB : fixB .any l n = true) (hnd : (dsts (l.take n)).Nodup) (hh : Heads P N pr l.toArray (l.take n) s s kds xs qF) (hw : w0.heap.size≤m) (hEm : ∀ i,i < s.n→∀ b ∈ E.m i,b < m) (hEA : ∀ b,E.A b→b < m)
    (htail : AOps P N l.toArray (l.drop n) Q qF) {J : Array Bool→Act→World→Prop} (hJt : ∀ (listed : Array Bool) a w,(∀ j,j < n→listed.getD j false = true)→J listed a w)
    (a : Act) (w : World) (fs : Nat→List Nat) (hI : HInv P w0 ws N m n s E l kds xs (headAll n (l.length - n)) a w fs) : wpAnyJ P .any l.toArray (AQ w0 N Q) J (l.length - n) (headAll n (l.length - n)) a w:=by
  obtain ⟨hsel,hnl,hsink,hseq,hdep⟩:=fixB_parts hB
  obtain ⟨hkl,hxl⟩:=heads_len hh
  have htl : (l.take n).length = n:=by rw [List.length_take];omega
  rw [htl] at hkl hxl
  have hall : ∀ j,j < n→(headAll n (l.length - n)).getD j false = true:=by
    intro j hj;simp [headAll,Array.getElem?_append,hj]
  rw [show wpAnyJ P .any l.toArray (AQ w0 N Q) J (l.length - n) = wpAnyJ P .any l.toArray (AQ w0 N Q) J (l.drop n).length from by simp]
  refine wpAnyJ_all hJt _ _ _ _ (by simpa using hall) (wpAny_of_seq (l.drop n) n _ _ w (fun j=>by simp [List.getElem?_drop]) (by simpa using hseq) ?_)
  have hrep : RepE w0 N (undL s (dsts (l.take n))) a w E:=by
    refine undL_more hI.rep fun t ht=>?_
    obtain ⟨j,o,hj,_,ho,hd⟩:=mem_lds.1 ht
    exact List.mem_filterMap.2 ⟨o,List.mem_of_getElem? (i:=j) (by rw [List.getElem?_take,if_pos hj];exact ho),hd⟩
  have hfl : ∀ b,b ∈ ((List.range n).map fs).flatten ↔ ∃ j,j < n∧b ∈ fs j:=by
    intro b
    simp only [List.mem_flatten,List.mem_map,List.mem_range]
    exact ⟨fun ⟨_,⟨j,hj,e⟩,hb⟩=>⟨j,hj,by rw [e];exact hb⟩,fun ⟨j,hj,hb⟩=>⟨_,⟨j,hj,rfl⟩,hb⟩⟩
  have hfin:=heads_fin (E:=E) (a:=a) (w:=w) (s0:=s) (fs:=(List.range n).map fs) (Eq:=if pr then E.plus m w.heap.size else E) hw hh hnd ?_ ?_ ?_ ?_ (Nat.le_refl _) ?_ ?_ ?_ ?_
  · obtain ⟨E',hr'⟩:=hfin
    exact htail w0 a w E' hr'
  · refine nofwd_of fun i j oi oj t h1 h2 h3 h4=>?_
    rw [List.getElem?_take] at h1 h2
    split at h1
    · rename_i hi
      split at h2
      · rename_i hj;exact (looks_lt hB hi h1 hj h2 h3 h4).1
      · cases h2
    · cases h1
  · refine factsL_of (by rw [hkl,htl]) (by rw [hxl,htl]) (by simp [htl]) fun j o d kd x f h1 h2 h3 h4 h5=>?_
    rw [List.getElem?_take] at h1
    split at h1
    · rename_i hj
      have : f = fs j:=by simp [hj] at h5;exact h5.symm
      subst this
      exact hI.fact j o d kd x hj (hall j hj) h1 h2 h3 h4
    · cases h1
  · cases pr with
    | true=>exact growA hrep hw hEm
    | false=>exact hrep
  · intro i st _ hl
    refine ⟨hl,?_⟩
    cases pr <;> rfl
  · intro hp b hb;subst hp;exact hb
  · refine nodup_flat (fun f hf=>?_) ?_
    · obtain ⟨j,hj,rfl⟩:=List.mem_map.1 hf
      have hj:=List.mem_range.1 hj
      obtain ⟨kd,x,_,_,h1,h2,⟨d,hd,_⟩,_⟩:=heads_at hh j l[j] (by rw [List.getElem?_take,if_pos hj];exact List.getElem?_eq_getElem (by omega))
      exact fact_nodup (hI.fact j _ d kd x hj (hall j hj) (List.getElem?_eq_getElem (by omega)) hd h1 h2).1
    · rw [List.pairwise_map]
      have hpw : (List.range n).Pairwise (· ≠ ·):=List.nodup_range
      refine List.Pairwise.imp_of_mem (fun {i j} hi hj hne=>?_) hpw
      intro b hb1 hb2
      exact hI.dis i j (List.mem_range.1 hi) (List.mem_range.1 hj) (hall i (List.mem_range.1 hi)) (hall j (List.mem_range.1 hj)) hne b hb1 hb2
  · cases pr with
    | true=>exact .inl rfl
    | false =>
      right
      intro b hb hbA
      obtain ⟨j,hj,hbj⟩:=(hfl b).1 hb
      have h1:=hI.blk j hj (hall j hj) b hbj
      have h2:=hEA b hbA
      omega
  · intro b hb
    obtain ⟨j,hj,hbj⟩:=(hfl b).1 hb
    have h1:=hI.blk j hj (hall j hj) b hbj
    refine ⟨h1.2,fun i hi=>⟨fun hm=>?_,fun hm=>?_⟩⟩
    · have : b ∈ E.m i:=by cases pr <;> exact hm
      have:=hEm i hi b this;omega
    · have : b ∈ E.o i:=by cases pr <;> exact hm
      have:=hEA b (hI.rep.A_o i hi b this);omega
theorem wpAny_heads (hB : fixB .any l n = true) (hnd : (dsts (l.take n)).Nodup) (hh : Heads P N pr l.toArray (l.take n) s s kds xs qF) (hw : w0.heap.size≤m) (hEm : ∀ i,i < s.n→∀ b ∈ E.m i,b < m) (hEA : ∀ b,E.A b→b < m)
    {J : Array Bool→Act→World→Prop} (hJ : ∀ listed a w fs,HeadInv .any l.toArray n listed→HInv P w0 ws N m n s E l kds xs listed a w fs→J listed a w)
    (htail : ∀ a w fs,HInv P w0 ws N m n s E l kds xs (headAll n (l.length - n)) a w fs→wpAnyJ P .any l.toArray (AQ w0 N Q) J (l.length - n) (headAll n (l.length - n)) a w) :
    ∀ (f : Nat) (listed : Array Bool) (a : Act) (w : World) (fs : Nat→List Nat),unl n listed = f→HeadInv .any l.toArray n listed→HInv P w0 ws N m n s E l kds xs listed a w fs→wpAnyJ P .any l.toArray (AQ w0 N Q) J (f + (l.length - n)) listed a w:=by
  obtain ⟨hsel,hnl,hsink,hseq,hdep⟩:=fixB_parts hB
  obtain ⟨hkl,hxl⟩:=heads_len hh
  have htl : (l.take n).length = n:=by rw [List.length_take];omega
  rw [htl] at hkl hxl
  intro f
  induction f with
  | zero =>
    intro listed a w fs hu inv hI
    obtain rfl:=listed_all inv hnl hu
    rw [Nat.zero_add]
    exact htail a w fs hI
  | succ f ih =>
    intro listed a w fs hu inv hI
    have hex : ∃ i,i < n∧listed.getD i false = false:=by
      apply Classical.byContradiction
      intro hn
      have : (List.range n).filter (fun i=>!listed.getD i false) = []:=by
        rw [List.filter_eq_nil_iff]
        intro i hi hh
        exact hn ⟨i,List.mem_range.1 hi,by simpa using hh⟩
      unfold unl at hu
      rw [this] at hu
      cases hu
    have hsz : listed.size = l.length:=by rw [inv.size];simp
    obtain ⟨i0,hi0,hun0⟩:=hex
    have hready : Region.ready .any l.toArray listed ≠ []:=by
      have : ∀ k i,i≤k→i < n→listed.getD i false = false→∃ j,j ∈ Region.ready .any l.toArray listed:=by
        intro k
        induction k with
        | zero =>
          intro i hik hin hun
          obtain rfl : i = 0:=by omega
          have hlt : 0 < l.length:=by omega
          refine ⟨0,mem_ready.2 ⟨getD_in (by omega) hun,l[0],by simp [hlt],fun e he hb=>?_⟩⟩
          have:=(hdep 0 l[0] hin (List.getElem?_eq_getElem hlt)).1 e he hb
          omega
        | succ k ihk =>
          intro i hik hin hun
          have hlt : i < l.length:=by omega
          by_cases hall : ∀ j,j < i→listed.getD j false = true
          · exact ⟨i,mem_ready.2 ⟨getD_in (by omega) hun,l[i],by simp [hlt],fun e he hb=>hall _ ((hdep i l[i] hin (List.getElem?_eq_getElem hlt)).1 e he hb)⟩⟩
          · have : ∃ j,j < i∧listed.getD j false = false:=by
              apply Classical.byContradiction
              intro hn
              exact hall fun j hj=>by
                cases h : listed.getD j false with
                | true=>rfl
                | false=>exact absurd ⟨j,hj,h⟩ hn
            obtain ⟨j,hj,hju⟩:=this
            exact ihk j (by omega) (by omega) hju
      obtain ⟨j,hj⟩:=this i0 i0 (Nat.le_refl _) hi0 hun0
      intro e
      rw [e] at hj;cases hj
    rw [show f + 1 + (l.length - n) = (f + (l.length - n)) + 1 from by omega]
    refine ⟨hJ _ _ _ _ inv hI,fun h=>absurd h hready,fun i hi=>?_⟩
    have hin : i < n:=by
      obtain ⟨_,oi,hoi,_⟩:=mem_ready.1 hi
      have hil : i < l.length:=by
        have:=(Array.getElem?_eq_some_iff.1 hoi).1;simpa using this
      rcases hsink with rfl | ⟨hlt,hs,hc⟩
      · exact hil
      · rcases Nat.lt_or_ge i n with h | h
        · exact h
        · exact absurd hi (tail_waits hs hc (by simpa using hlt) inv _ i0 rfl hi0 (getD_in (by omega) hun0) i h)
    obtain ⟨hun,oi,hoi,hall⟩:=mem_ready.1 hi
    have hoil : l[i]? = some oi:=by simpa using hoi
    have hilt : i < l.length:=(List.getElem?_eq_some_iff.1 hoil).1
    obtain ⟨kd,x,qi,qi',hkd,hx,⟨d,hd,hdN⟩,hstp⟩:=heads_at hh i oi (by rw [List.getElem?_take,if_pos hin];exact hoil)
    have htt : (l.take n).take i = l.take i:=by rw [List.take_take,Nat.min_eq_left (by omega)]
    rw [htt] at hstp
    have hlook : ∀ t ∈ oi.looksAt l.toArray,SlotR w (E.plus m w.heap.size) s.lv s.c ((hAt s (l.take i) xs).sl t) (a.tmps.getD t undef):=by
      intro t ht
      by_cases hex : ∃ j oj,j < n∧l[j]? = some oj∧oj.dst = some t
      · obtain ⟨j,oj,hj,hoj,hdj⟩:=hex
        obtain ⟨hji,hwt⟩:=looks_lt hB hin hoil hj hoj hdj ht
        have hlj : listed.getD j false = true:=by
          obtain ⟨oi',hoi',e,he,hb,hon⟩:=Region.waitsFor_spec hwt
          have : oi' = oi:=Option.some.inj (hoi'.symm.trans hoi)
          subst this
          rw [← hon];exact hall e he hb
        have hjx : j < xs.length:=by omega
        have hjk : j < kds.length:=by omega
        have hs:=(hI.fact j oj t _ _ hj hlj hoj hdj (List.getElem?_eq_getElem hjk) (List.getElem?_eq_getElem hjx)).2
        have hnd' : (dsts (l.take i)).Nodup:=by
          have : l.take n = l.take i ++ (l.take n).drop i:=by rw [← htt,List.take_append_drop]
          rw [this] at hnd
          unfold dsts at hnd
          rw [List.filterMap_append] at hnd
          exact (List.nodup_append.1 hnd).1
        rw [hAt_in hnd' (by rw [List.getElem?_take,if_pos hji];exact hoj) (List.getElem?_eq_getElem hjx) hdj]
        exact hs
      · have hout : (hAt s (l.take i) xs).sl t = s.sl t:=by
          refine hAt_out fun o ho hdo=>?_
          obtain ⟨j,hj,rfl⟩:=List.mem_iff_getElem.1 ho
          have hji : j < i:=by simp at hj;omega
          exact hex ⟨j,_,by omega,by rw [List.getElem?_eq_getElem (by omega)],by rw [List.getElem_take] at hdo;exact hdo⟩
        rw [hout]
        have:=hI.rep.slot t
        simp only [undL] at this
        rw [if_neg (by
          simp only [List.contains_iff_mem]
          intro hm
          obtain ⟨j,o,hj,_,ho,hdo⟩:=mem_lds.1 hm
          exact hex ⟨j,o,hj,ho,hdo⟩)] at this
        exact this.stay ⟨fun b hb=>⟨.inl hb,rfl⟩,fun i st _ h=>⟨h,rfl⟩,Nat.le_refl _⟩
    obtain ⟨ha1,ha2,ha3⟩:=hAt_same (l:=l.take i) (xs:=xs) (s:=s)
    have hrepH : RepE w0 N { s with sl:=fun t=>if (oi.looksAt l.toArray).contains t then (hAt s (l.take i) xs).sl t else .und } a w (E.plus m w.heap.size):=by
      have hg:=growA hI.rep hw hEm
      have:=reslot hg (sl':=fun t=>if (oi.looksAt l.toArray).contains t then (hAt s (l.take i) xs).sl t else .und) (fun t=>by
        split
        · rename_i ht;exact hlook t (by simpa using ht)
        · trivial)
      exact this
    have hal : Alike (hAt s (l.take i) xs) { s with sl:=fun t=>if (oi.looksAt l.toArray).contains t then (hAt s (l.take i) xs).sl t else .und } oi.op.operands.toList:=by
      refine ⟨ha1.symm,ha2.symm,fun t ht=>?_⟩
      have : t ∈ oi.looksAt l.toArray:=List.mem_append_left _ (List.mem_filterMap.2 ⟨.tmp t,ht,rfl⟩)
      simp only
      rw [if_pos (by simpa using this)]
    have hIA : ∀ b,E.A b→b < w.heap.size:=fun b hb=>Nat.lt_of_lt_of_le (hEA b hb) hI.le
    have hnext : ∀ v w' f',Below w.heap.size w w'→(∀ b ∈ f',w.heap.size≤b∧b < w'.heap.size)→Fact P m E s.lv s.c a w' v f' kd→SlotR w' (E.plus m w'.heap.size) s.lv s.c x v→(PlL l n→w'.heap = w.heap) →
        wpAnyJ P .any l.toArray (AQ w0 N Q) J (f + (l.length - n)) (listed.setIfInBounds i true) (a.put oi.dst v) w':=by
      intro v w' f' hb hf' hfa hsl hpw
      have hlt : i < listed.size:=by omega
      have hcount:=filter_len_lt (fun k=>!listed.getD k false) (fun k=>!(listed.setIfInBounds i true).getD k false)
        (fun k hk=>by
          by_cases e : i = k
          · subst e;simp [hlt] at hk
          · rwa [getD_set_ne false e] at hk)
        (List.range n) i (List.mem_range.2 hin) (by simp [getD_both hun]) (by simp [hlt]) List.nodup_range
        (fun k hk hne=>by rw [getD_set_ne false (Ne.symm hne)];exact hk)
      have hset : ∀ j,(listed.setIfInBounds i true).getD j false = true→j = i ∨ listed.getD j false = true:=by
        intro j hj
        by_cases e : i = j
        · exact .inl e.symm
        · rw [getD_set_ne false e] at hj;exact .inr hj
      have hundne : ∀ j oj,j < n→listed.getD j false = true→l[j]? = some oj→oj.dst ≠ some d:=by
        intro j oj hj hlj hoj hdj
        have hne : j ≠ i:=fun e=>by subst e;rw [getD_both hun] at hlj;cases hlj
        have key : ∀ {l' : List Oper} {p q : Nat} {op oq : Oper} {t : Nat},(dsts l').Nodup→l'[p]? = some op→l'[q]? = some oq→op.dst = some t→oq.dst = some t→p = q:=by
          intro l'
          induction l' with
          | nil=>intro p q op oq t _ h1;simp at h1
          | cons z l' ih =>
            intro p q op oq t hn h1 h2 h3 h4
            have hn' : (dsts l').Nodup:=by
              unfold dsts at hn ⊢
              rw [List.filterMap_cons] at hn
              split at hn
              · exact hn
              · exact (List.nodup_cons.1 hn).2
            have hz : ∀ (y : Oper),z.dst = some t→y ∈ l'→y.dst ≠ some t:=by
              intro y hzt hy hyt
              unfold dsts at hn
              rw [List.filterMap_cons,hzt] at hn
              exact (List.nodup_cons.1 hn).1 (List.mem_filterMap.2 ⟨y,hy,hyt⟩)
            cases p with
            | zero=>cases q with
              | zero=>rfl
              | succ q=>simp at h1 h2;subst h1;exact absurd h4 (hz oq h3 (List.mem_of_getElem? h2))
            | succ p=>cases q with
              | zero=>simp at h1 h2;subst h2;exact absurd h3 (hz op h4 (List.mem_of_getElem? h1))
              | succ q=>exact congrArg (· + 1) (ih hn' (by simpa using h1) (by simpa using h2) h3 h4)
        exact hne (key hnd (by rw [List.getElem?_take,if_pos hj];exact hoj) (by rw [List.getElem?_take,if_pos hin];exact hoil) hdj hd)
      refine ih _ _ w' (fun j=>if j = i then f' else fs j) ?_ (inv.set hi hin) ⟨?_,Nat.le_trans hI.le hb.size,?_,?_,?_,fun hp=>(hpw hp).trans (hI.bl hp)⟩
      · unfold unl at hu ⊢;omega
      · have h1:=(hI.rep.world' hb).put (d:=oi.dst) (x:=.und) (v:=v) trivial (fun k hk=>by have e:=Option.some.inj (hd.symm.trans hk);rw [← e];exact hdN)
        refine h1.weaken (s':=undL s (lds l n (listed.setIfInBounds i true))) (by rw [AS.put_n];exact Nat.le_refl _) (by rw [AS.put_c];exact Nat.le_refl _) (fun j _=>.inl (by rw [AS.put_ob];rfl)) (fun t=>?_)
        simp only [undL]
        by_cases ht : t ∈ lds l n (listed.setIfInBounds i true)
        · right;rw [if_pos (by simpa using ht)]
        · left
          rw [if_neg (by simpa using ht)]
          have htd : oi.dst ≠ some t:=fun e=>ht (mem_lds.2 ⟨i,oi,hin,by simp [hlt],hoil,e⟩)
          rw [put_sl_ne htd]
          simp only [undL]
          rw [if_neg (by
            simp only [List.contains_iff_mem]
            intro hm
            obtain ⟨j,oj,hj,hlj,hoj,hdj⟩:=mem_lds.1 hm
            refine ht (mem_lds.2 ⟨j,oj,hj,?_,hoj,hdj⟩)
            by_cases e : i = j
            · subst e;simp [hlt]
            · rw [getD_set_ne false e];exact hlj)]
      · intro j oj dj kdj xj hj hlj hoj hdj hkdj hxj
        by_cases e : j = i
        · subst e
          have : oj = oi:=Option.some.inj (hoj.symm.trans hoil)
          subst this
          rw [hd] at hdj;injection hdj with hdj;subst hdj
          rw [hkd] at hkdj;injection hkdj with hkdj;subst hkdj
          rw [hx] at hxj;injection hxj with hxj;subst hxj
          rw [hd,put_getD (by rw [hI.rep.size];exact hdN),if_pos rfl]
          refine ⟨?_,hsl⟩
          refine fact_keep hfa (Below.refl _ _) ?_
          intro y hy hyt
          have hop : Operand.tmp d ∈ oj.op.operands.toList:=hyt ▸ hstp_ops hstp y hy
          have hlk : d ∈ oj.looksAt l.toArray:=List.mem_append_left _ (List.mem_filterMap.2 ⟨.tmp d,hop,rfl⟩)
          have:=(looks_lt hB hin hoil hin hoil hd hlk).1
          omega
        · have hlj' : listed.getD j false = true:=(hset j hlj).resolve_left e
          obtain ⟨g1,g2⟩:=hI.fact j oj dj kdj xj hj hlj' hoj hdj hkdj hxj
          have hne : dj ≠ d:=fun e'=>hundne j oj hj hlj' hoj (by rw [hdj,e'])
          rw [hd,put_getD_ne hne,if_neg e]
          refine ⟨fact_keep g1 hb ?_,g2.stay (plus_stay hb hIA)⟩
          intro y hy hyt
          have hop : Operand.tmp d ∈ oj.op.operands.toList:=by
            obtain ⟨kd',x',qj,qj',h1,h2,_,hst⟩:=heads_at hh j oj (by rw [List.getElem?_take,if_pos hj];exact hoj)
            rw [hkdj] at h1;injection h1 with h1;subst h1
            exact hyt ▸ hstp_ops hst y hy
          have hlk : d ∈ oj.looksAt l.toArray:=List.mem_append_left _ (List.mem_filterMap.2 ⟨.tmp d,hop,rfl⟩)
          obtain ⟨_,hwt⟩:=looks_lt hB hj hoj hin hoil hd hlk
          obtain ⟨oj',hoj',ed,he,hbd,hon⟩:=Region.waitsFor_spec hwt
          have : oj' = oj:=Option.some.inj (hoj'.symm.trans (by simpa using hoj))
          subst this
          have:=inv.closed j oj' hoj' hlj' ed he hbd
          rw [hon,getD_both hun] at this;cases this
      · intro j hj hlj b hbj
        by_cases e : j = i
        · rw [if_pos e] at hbj
          have:=hf' b hbj
          have:=hI.le
          omega
        · rw [if_neg e] at hbj
          have h1:=hI.blk j hj ((hset j hlj).resolve_left e) b hbj
          have:=hb.size
          omega
      · intro p q' hp hq hlp hlq hne b hbp hbq
        by_cases e1 : p = i
        · by_cases e2 : q' = i
          · omega
          · rw [if_pos e1] at hbp;rw [if_neg e2] at hbq
            have h1:=hf' b hbp
            have h2:=hI.blk q' hq ((hset q' hlq).resolve_left e2) b hbq
            omega
        · by_cases e2 : q' = i
          · rw [if_neg e1] at hbp;rw [if_pos e2] at hbq
            have h1:=hf' b hbq
            have h2:=hI.blk p hp ((hset p hlp).resolve_left e1) b hbp
            omega
          · rw [if_neg e1] at hbp;rw [if_neg e2] at hbq
            exact hI.dis p q' hp hq ((hset p hlp).resolve_left e1) ((hset q' hlq).resolve_left e2) hne b hbp hbq
    have hrun : HRun P pr (hAt s (l.take i) xs) qi oi kd x qi'→oi.wp P a w (fun a' w'=>wpAnyJ P .any l.toArray (AQ w0 N Q) J (f + (l.length - n)) (listed.setIfInBounds i true) a' w') (AQ w0 N Q):=by
      intro hr
      have hk:=hrun_ok hr hal hrepH hIA hI.le
      have hk2 : oi.wp P a w (fun a' w'=>HOut P m s.lv s.c oi a w E kd x a' w'∧(PlL l n→w'.heap = w.heap)) (fun _ _ _=>False):=by
        by_cases hp : PlL l n
        · obtain ⟨y,hy⟩:=hrun_plain hr (hp oi (List.mem_of_getElem? (i:=i) (by rw [List.getElem?_take,if_pos hin];exact hoil)))
          obtain ⟨v,hv,-⟩:=hVb_run (by rw [hVb_alike hal];exact hy) _ _ _ _ _ hrepH
          unfold Oper.wp at hk ⊢
          rw [hv,Oper.upon_value] at hk ⊢
          exact ⟨hk,fun _=>rfl⟩
        · exact Oper.wp_mono (fun a' w' h=>⟨h,fun h'=>absurd h' hp⟩) hk
      refine Oper.wp_mono2 (fun a' w' hp=>?_) hk2
      obtain ⟨⟨v,f',rfl,hb,hf',hfa,hsl⟩,hpw⟩:=hp
      exact hnext v w' f' hb hf' hfa hsl hpw
    unfold wpOp
    simp only [hoi]
    cases hgd : oi.guard with
    | none =>
      rw [hgd] at hstp
      rw [if_pos (by simp [Region.wanted,hgd])]
      exact .inl (hrun hstp)
    | some gw =>
      obtain ⟨g,want⟩:=gw
      rw [hgd] at hstp
      obtain ⟨t,b,hgs,htN,hsb,hbb⟩:=hstp
      have hlk : t ∈ oi.looksAt l.toArray:=by
        unfold Oper.looksAt
        refine List.mem_append_right _ ?_
        rw [hgd]
        unfold gslot at hgs
        simp only [hgs];simp
      have hy : yielded l.toArray a.tmps g = b:=yielded_ok2 (s:={ s with sl:=fun t=>if (oi.looksAt l.toArray).contains t then (hAt s (l.take i) xs).sl t else .und }) hrepH hgs (by simp only;rw [if_pos (by simpa using hlk)];exact hsb) htN
      split at hbb
      · rename_i hw;subst hw
        rw [if_pos (by simp [Region.wanted,hgd,hy])]
        exact .inl (hrun hbb)
      · rename_i hw
        rw [if_neg (by simp [Region.wanted,hgd,hy,hw])]
        obtain ⟨rfl,rfl,-⟩:=hbb
        exact hnext undef w [] (Below.refl _ _) (by simp) rfl ⟨[],rfl,rfl,fun j b cs u h _=>by simp at h⟩ (fun _=>rfl)
theorem any_draw (n : Nat) (pr : Bool) (hB : drawB l n = true) (hh : Heads P N pr l.toArray (l.take n) s s kds xs qF) (htail : AOps P N l.toArray (l.drop n) Q qF) {w0 : Cx} {a : Act} {w : World} {E : En} (hr : RepE w0 N s a w E) :
    wpAny P .any l.toArray (AQ w0 N Q) l.toArray.size (Array.replicate l.toArray.size false) a w.drew:=by
  unfold drawB at hB
  rw [Bool.and_eq_true,decide_eq_true_eq] at hB
  obtain ⟨hB,hnd⟩:=hB
  have hnl:=(fixB_parts hB).2.1
  have hu : unl n (Array.replicate l.toArray.size false) = n:=by
    unfold unl
    have : (List.range n).filter (fun i=>!(Array.replicate l.toArray.size false).getD i false) = List.range n:=by
      rw [List.filter_eq_self]
      intro i _
      rw [getD_replicate_false];rfl
    rw [this];simp
  have hr' : RepE w0 N s a w.drew E:=hr.world' (Below.refl _ _).drew
  have h:=wpAny_of_J _ _ _ _ <| wpAny_heads (J:=fun _ _ _=>True) (m:=w.drew.heap.size) (E:=E) hB hnd hh hr'.bel.size (fun i hi b hb=>hr'.m_lt i hi b hb) hr'.A_lt (fun _ _ _ _ _ _=>trivial) (tail_plain hB hnd hh hr'.bel.size (fun i hi b hb=>hr'.m_lt i hi b hb) hr'.A_lt htail (fun _ _ _ _=>trivial)) n (Array.replicate l.toArray.size false) a w.drew (fun _=>[]) hu
    ⟨by simp,fun j oj _ hl=>(by rw [getD_replicate_false] at hl;cases hl),fun t _ ht=>getD_in (by simpa using ht) (getD_replicate_false _ _)⟩
    ⟨by
      have : lds l n (Array.replicate l.toArray.size false) = []:=by
        rw [List.eq_nil_iff_forall_not_mem]
        intro t ht
        obtain ⟨j,o,_,hl,_⟩:=mem_lds.1 ht
        rw [getD_replicate_false] at hl;cases hl
      rw [this]
      have e : undL s [] = s:=by unfold undL;simp
      rw [e];exact hr',Nat.le_refl _,fun j o d kd x _ hl=>(by rw [getD_replicate_false] at hl;cases hl),fun j _ hl=>(by rw [getD_replicate_false] at hl;cases hl),fun i j _ _ hl=>(by rw [getD_replicate_false] at hl;cases hl),fun _=>rfl⟩
  rw [show l.toArray.size = n + (l.length - n) from by simp;omega]
  rw [show (Array.replicate l.toArray.size false) = Array.replicate (n + (l.length - n)) false from by congr 1;simp;omega] at h
  exact h
theorem awp_draw {id : Nat} (n : Nat) (pr : Bool) (hm : P.follows .mixedOrders = true) (hB : drawB l n = true) (hh : Heads P N pr l.toArray (l.take n) s s kds xs qF) (htail : AOps P N l.toArray (l.drop n) Q qF) : AWp P N (.region id l.toArray true) Q s :=
  fun w0 a w E hr=>wp_region_any hm (any_draw n pr hB hh htail hr)
end
end Go.Proofs.Ytboheedjhnbnhaa
namespace Go.Proofs.Ytboheedjhnbnhaa
open Go.RowKit
theorem finV_p (b : Bool) (cs : List AC) : finV false (.p b cs) = if cs.all solidC then .p b cs else .und:=rfl
theorem finV_t (xs : List (Bool × List AC)) : finV false (.tup xs) = .und:=rfl
theorem finV_u : finV false .und = .und:=rfl
theorem finV_true (x : AV) : finV true x = x:=rfl
theorem mkOb_f (c t k : Nat) (es : List (List DV)) : mkOb false c t k es = .row c t k es true:=rfl
theorem mkOb_t (c t k : Nat) (es : List (List DV)) : mkOb true c t k es = .dx c (.sl t k es):=rfl
def dS (N : Nat) : Option Nat→Bool
  | some d=>decide (d < N)
  | none=>false
def hkV (K : AS→AS→Prop) (pr : Bool) (d : Option Nat) (h q : AS) : Option AV→Prop
  | some y=>K (h.put d y) (q.put d (finV pr y))
  | none=>False
def HC (P : Program) (pr : Bool) (o : Oper) (K : AS→AS→Prop) (h q : AS) : Prop:=∃ kd x q',HRun P pr h q o kd x q'∧K (h.put o.dst x) q'
def hkArr (K : AS→AS→Prop) (d : Option Nat) (h q : AS) (el k : Nat) : Option (List (List AC))→Option (List (List AC))→Prop
  | some es,some esq=>K (h.put d (bView el k es)) ((q.push (.arr q.c el k esq)).put d (.p false [.own q.n q.c]))
  | _,_=>False
def hkBs (P : Program) (K : AS→AS→Prop) (pr : Bool) (d : Option Nat) (h q : AS) (len : Nat) (parts : List (Nat × Operand)) : Option (TypeId × Nat)→Prop
  | some (el,k)=>(pr = false∧(tzero P el).isSome = true∧0 < k∧parts.length = len∧len * k≤16777216)∧hkArr K d h q el k (bsF h k parts 0) (bsF q k parts 0)
  | none=>False
def hkCl (P : Program) (pr : Bool) (o : Oper) (K : AS→AS→Prop) (h q : AS) (args : List Operand) (ts : List TypeId) : Callee→Prop
  | .builtin .len=>hkV K pr o.dst h q (lenC P h (.builtin .len) args ts)
  | _=>HC P pr o K h q
def hkA (K : AS→AS→Prop) (pr : Bool) (d : Option Nat) (h q : AS) (t : TypeId) : Option (List AC)→Prop
  | some cs=>pr = false∧K (h.put d .und) ((q.push (.var q.c t cs)).put d (.p false [.ptr q.n q.c 0]))
  | none=>False
def hkP (K : AS→AS→Prop) (pr : Bool) (d : Option Nat) (h q : AS) : Option AV→Option AV→Prop
  | some y,some z=>K (h.put d y) (q.put d (if pr then y else z))
  | _,_=>False
def hdO (P : Program) (pr : Bool) (o : Oper) (K : AS→AS→Prop) (h q : AS) : Op→Prop
  | .call c=>hkCl P pr o K h q c.args.toList c.argTypes.toList c.callee
  | .buildSlice t len parts=>hkBs P K pr o.dst h q len parts.toList (tel P t)
  | .build t parts=>hkV K pr o.dst h q (hVb P h (.build t parts))
  | .alloc t=>hkA K pr o.dst h q t (zeroAC P t)
  | .move x=>hkP K pr o.dst h q (some (h.ev x)) (some (q.ev x))
  | .extract x ix=>hkP K pr o.dst h q (xtV ix (h.ev x)) (xtV ix (q.ev x))
  | op=>hkV K pr o.dst h q (hV P h op)
def hkG (P : Program) (pr : Bool) (o : Oper) (K : AS→AS→Prop) (h q : AS) (want : Bool) : AV→Prop
  | .p false [.d (.sc (.bool b))]=>if b = want then hdO P pr o K h q o.op else K (h.put o.dst (.tup [])) (q.put o.dst (finV pr (.tup [])))
  | .tup []=>K (h.put o.dst (.tup [])) (q.put o.dst (finV pr (.tup [])))
  | _=>False
def hkGs (P : Program) (N : Nat) (pr : Bool) (o : Oper) (K : AS→AS→Prop) (h q : AS) (want : Bool) : Option Nat→Prop
  | some t=>t < N∧hkG P pr o K h q want (h.sl t)
  | none=>False
def hdG (P : Program) (N : Nat) (pr : Bool) (ops : Array Oper) (o : Oper) (K : AS→AS→Prop) (h q : AS) : Option (Nat × Bool)→Prop
  | none=>hdO P pr o K h q o.op
  | some (g,want)=>hkGs P N pr o K h q want (gslot ops g)
def hdL (P : Program) (N : Nat) (pr : Bool) (ops : Array Oper) : List Oper→(AS→Prop)→AS→AS→Prop
  | [],K,h,q=>K q
  | o :: r,K,h,q=>dS N o.dst = true∧hdG P N pr ops o (hdL P N pr ops r K) h q o.guard
section
variable {P : Program} {N : Nat} {pr : Bool} {s h q : AS} {o : Oper} {K : AS→AS→Prop} {ops : Array Oper}
end
attribute [go_sem] rdC.eq_5 rdC.eq_6 rdC0.eq_5 lenV.eq_6 lenV.eq_7 slcV.eq_4 slcV.eq_5 okC.eq_7 okC.eq_8 solidC.eq_7 solidC.eq_8 List.isEmpty_cons List.isEmpty_nil
attribute [go_sem] aw.eq_1 aw.eq_2 aw.eq_3 aw.eq_4 aw.eq_5 aw.eq_6 aw.eq_7 aw.eq_8 awL.eq_1 awL.eq_2 awG.eq_1 awG.eq_2
attribute [go_sem] awO.eq_1 awO.eq_2 awO.eq_3 awO.eq_4 awO.eq_5 awO.eq_6 awO.eq_7 awO.eq_8 kV.eq_1 kV.eq_2 kVar.eq_1 kVar.eq_2
attribute [go_sem] kAgg.eq_1 kAgg.eq_2 kFill.eq_1 kFill.eq_2 kArr.eq_1 kArr.eq_2 kBs.eq_1 kBs.eq_2 kStV.eq_1 kStV.eq_2 kSt.eq_1 kSt.eq_2
attribute [go_sem] kCl.eq_1 kCl.eq_2 kG.eq_1 kG.eq_2 kGs.eq_1 kGs.eq_2 kC.eq_1 kC.eq_2 seqK.eq_1 seqK.eq_2 blkK.eq_1 blkK.eq_2
attribute [go_sem] dB.eq_1 dB.eq_2 hV.eq_1 hV.eq_2 hV.eq_3 hV.eq_4 hV.eq_5 hV.eq_6 hV.eq_7 hV.eq_8 hV.eq_9 hV.eq_10
attribute [go_sem] hV.eq_11 hV.eq_12 hV.eq_13 hV.eq_14 hV.eq_15 pkV.eq_1 pkV.eq_2 ldA.eq_1 ldA.eq_2 ldA.eq_3 ldA.eq_4 ldV.eq_1 ldV.eq_2 faV.eq_1 fvV.eq_1
attribute [go_sem] fvV.eq_2 fvV.eq_3 binV.eq_1 binV.eq_2 binE binF.eq_1 binF.eq_2 binF.eq_3 binF.eq_4 binF.eq_5 binF.eq_6 intF.eq_1 intF.eq_2
attribute [go_sem] intF.eq_3 intF.eq_4 intF.eq_5 intF.eq_6 intF.eq_7 intF.eq_8 intF.eq_9 intF.eq_10 intF.eq_11 intF.eq_12 intF.eq_13 intF.eq_14
attribute [go_sem] intF.eq_15 intF.eq_16 intF.eq_17 strF.eq_1 strF.eq_2 strF.eq_3 strF.eq_4 strF.eq_5 strF.eq_6 strF.eq_7 strF.eq_8 unV.eq_1
attribute [go_sem] unV.eq_2 unF.eq_1 unF.eq_2 unF.eq_3 cvV.eq_1 cvV.eq_2 cvE cvF.eq_1 cvF.eq_2 cvF.eq_3 chV.eq_1 chV.eq_2 xtV.eq_1
attribute [go_sem] xtV.eq_2 lenC.eq_1 lenC.eq_2 lenV.eq_1 lenV.eq_2 lenV.eq_3 lenV.eq_4 lenV.eq_5 slcV.eq_1 slcV.eq_2 slcV.eq_3 cutF.eq_1
attribute [go_sem] AS.evI.eq_1 AS.evI.eq_2 AS.ev.eq_1 AS.ev.eq_2 AS.ev.eq_3 cAV.eq_1 cAC.eq_1 cAC.eq_2 cAC.eq_3 cAC.eq_4 cAC.eq_5 AS.own?.eq_1
attribute [go_sem] AS.put.eq_1 AS.put.eq_2 AS.pushL.eq_1 AS.pushL.eq_2 cellsOk.eq_1 cellsOk.eq_2 cellsOk.eq_3 okC.eq_1 okC.eq_2 okC.eq_3 okC.eq_4 okC.eq_5
attribute [go_sem] okC.eq_6 fillA.eq_1 fillA.eq_2 bsF.eq_1 bsF.eq_2 Ob.st.eq_1 Ob.st.eq_2 Ob.st.eq_3 Ob.st.eq_4 Ob.st.eq_5 Ob.st.eq_6 rvV.eq_1 rvV.eq_2
attribute [go_sem] rvP.eq_1 rvP.eq_2 RetDeep.eq_1 RetDeep.eq_2 RetDeep.eq_3 RetRd.eq_1 RetRd.eq_2 RetRd.eq_3 retK.eq_1 retK.eq_2 retK.eq_3 loopK.eq_1
attribute [go_sem] loopK.eq_2 gslot scAV AS.push upd_at plug initS finV_p finV_t finV_u finV_true solidC.eq_1
attribute [go_sem] solidC.eq_2 solidC.eq_3 solidC.eq_4 solidC.eq_5 solidC.eq_6 hdL.eq_1 hdL.eq_2 hdG.eq_1 hdG.eq_2 hkGs.eq_1 hkGs.eq_2 hkG.eq_1
attribute [go_sem] hkG.eq_2 hdO.eq_1 hdO.eq_2 hdO.eq_3 hdO.eq_4 hdO.eq_5 hdO.eq_6 hdO.eq_7 hkA.eq_1 hkA.eq_2 hkP.eq_1 hkCl.eq_1 hkCl.eq_2 hkBs.eq_1 hkBs.eq_2 hkArr.eq_1 hkArr.eq_2 hkV.eq_1
attribute [go_sem] hkV.eq_2 dS.eq_1 dS.eq_2 hVb.eq_1 hVb.eq_2 bView dLL.eq_1 dLL.eq_2 dL.eq_1 dL.eq_2 dL.eq_3 hvRes
attribute [go_sem] idx_d idx_o ixE.eq_1 ixO.eq_1 ixO.eq_2 ixO.eq_3 argsRd.eq_1 argsRd.eq_2 argsRd.eq_3 rdL.eq_1 rdL.eq_2 rdL.eq_3 rdC.eq_1 rdC.eq_2
attribute [go_sem] rdC.eq_3 rdC.eq_4 rdLL0.eq_1 rdLL0.eq_2 rdLL0.eq_3 rdL0.eq_1 rdL0.eq_2 rdL0.eq_3 rdC0.eq_1 rdC0.eq_2 rdC0.eq_3 rdC0.eq_4
attribute [go_sem] resC.eq_1 resC.eq_2 resC.eq_3 resO.eq_1 resO.eq_2 resO.eq_3 adC.eq_1 adC.eq_2 adC.eq_3 adO.eq_1 adO.eq_2 adO.eq_3 mkOb_f mkOb_t
attribute [go_sem] resAV AS.kill AS.frz
attribute [go_sem] decide_eq_true_eq List.getElem?_cons_zero List.getElem?_cons_succ List.getElem?_nil List.drop_succ_cons List.drop_zero List.take_succ_cons List.take_zero List.length_cons List.length_nil List.map_cons List.map_nil
attribute [go_sem] List.all_cons List.all_nil Bool.and_true Option.bind_some Option.isSome_some true_and and_true ne_eq List.nil_append List.cons_append List.append_nil Option.some.injEq
attribute [go_sem] List.getElem?_toArray Int.toNat_natCast Int.natCast_nonneg Nat.zero_add Bool.false_eq_true Bool.not_true Bool.not_false not_false_eq_true not_true_eq_false and_self List.drop_nil decide_true
attribute [go_sem] decide_false Bool.and_self Bool.true_and Nat.lt_add_one false_implies implies_true Nat.add_zero DV.sl.injEq exists_eq_left exists_eq_left' exists_eq Prod.mk.injEq
end Go.Proofs.Ytboheedjhnbnhaa
namespace Go.Proofs.Ytboheedjhnbnhaa
open Go.RowKit
def OwnP (w : World) (base : Nat) : List Value→List DV→List (List Nat)→Prop
  | [],[],[]=>True
  | v :: vs,d :: ds,f :: fs=>OwnL w base [v] [d] f∧OwnP w base vs ds fs
  | _,_,_=>False
structure Wrote (w w' : World) (f : List Nat) : Prop where
  os : w'.os = w.os
  tape : w'.tape = w.tape
  output : w'.output = w.output
  size : w.heap.size≤w'.heap.size
  block : ∀ b,b < w.heap.size→b ∉ f→w'.heap[b]? = w.heap[b]?
def Marks (P : Program) (f : FuncId) (b : Bool) (ds : List DV) (k : Int) (ds' : List DV) (k' : Int) : Prop :=
  callable P f = true∧∀ (w : World) (base : Nat) (v : Value) (vals : List Value) (fs : List (List Nat)),(if b then v = .agg vals.toArray else vals = [v])→OwnP w base vals ds fs→fs.flatten.Nodup →
    Calls P f #[v,.int .i64 k] w fun e w'=>e = .returned (.int .i64 k')∧OwnP w' base vals ds' fs∧Wrote w w' fs.flatten
def MkL (s : AS) : List AC→List DV→List DV→List (Nat × Nat × DV)→Prop
  | [],[],[],[]=>True
  | .d y :: cs,x :: ds,z :: ds',L=>(∃ v,y = .sc v∧x = .sc v∧z = .sc v)∧MkL s cs ds ds' L
  | .nil :: cs,x :: ds,z :: ds',L=>(∃ t k,0 < k∧x = .sl t k []∧z = .sl t k [])∧MkL s cs ds ds' L
  | .own i st :: cs,x :: ds,z :: ds',p :: L=>s.own? i st = some (.dx st x)∧p = (i,st,z)∧MkL s cs ds ds' L
  | _,_,_,_=>False
def markS (s : AS) : List (Nat × Nat × DV)→AS
  | []=>s
  | p :: L=>markS { s with ob:=upd s.ob p.1 (.dx p.2.1 p.2.2) } L
section
variable {P : Program} {w0 : Cx} {w w' : World} {N : Nat} {s : AS} {a : Act} {E : En} {o : Oper}
theorem ownP_cons {base : Nat} {vals : List Value} {d : DV} {ds : List DV} {fs : List (List Nat)} (h : OwnP w base vals (d :: ds) fs) : ∃ v vs f fs',vals = v :: vs∧fs = f :: fs'∧OwnL w base [v] [d] f∧OwnP w base vs ds fs':=by
  cases vals with
  | nil=>exact h.elim
  | cons v vs=>cases fs with
    | nil=>exact h.elim
    | cons f fs=>exact ⟨v,vs,f,fs,rfl,rfl,h.1,h.2⟩
theorem ownP_nil {base : Nat} {vals : List Value} {fs : List (List Nat)} (h : OwnP w base vals [] fs) : vals = []∧fs = []:=by
  cases vals with
  | cons=>exact h.elim
  | nil=>cases fs with
    | cons=>exact h.elim
    | nil=>exact ⟨rfl,rfl⟩
theorem markS_same : ∀ {L : List (Nat × Nat × DV)} {s : AS},(markS s L).sl = s.sl∧(markS s L).n = s.n∧(markS s L).c = s.c
  | [],s=>⟨rfl,rfl,rfl⟩
  | p :: L,s=>by obtain ⟨h1,h2,h3⟩:=markS_same (L:=L) (s:={ s with ob:=upd s.ob p.1 (.dx p.2.1 p.2.2) });exact ⟨h1,h2,h3⟩
theorem markS_ob : ∀ {L : List (Nat × Nat × DV)} {s : AS} (j : Nat),(∃ p ∈ L,p.1 = j∧(markS s L).ob j = .dx p.2.1 p.2.2) ∨ ((∀ p ∈ L,p.1 ≠ j)∧(markS s L).ob j = s.ob j)
  | [],s,j=>.inr ⟨by simp,rfl⟩
  | p :: L,s,j=>by
    rcases markS_ob (L:=L) (s:={ s with ob:=upd s.ob p.1 (.dx p.2.1 p.2.2) }) j with ⟨q,hq,h1,h2⟩ | ⟨h1,h2⟩
    · exact .inl ⟨q,List.mem_cons_of_mem _ hq,h1,h2⟩
    · by_cases e : p.1 = j
      · subst e
        refine .inl ⟨p,List.mem_cons_self ..,rfl,?_⟩
        rw [markS,h2];exact upd_same _ _ _
      · refine .inr ⟨fun q hq=>?_,?_⟩
        · rcases List.mem_cons.1 hq with rfl | hq
          · exact e
          · exact h1 q hq
        · rw [markS,h2];exact upd_ne _ _ (Ne.symm e)
theorem rep_mark (h : RepE w0 N s a w E) {L : List (Nat × Nat × DV)} (hb : Bel w0 w') (hsz : w.heap.size≤w'.heap.size) (hblk : ∀ b,b < w.heap.size→(∀ p ∈ L,b ∉ E.m p.1)→w'.heap[b]? = w.heap[b]?)
    (hL : ∀ p ∈ L,p.1 < s.n∧(∃ x,s.ob p.1 = .dx p.2.1 x)∧OwnL w' 0 [E.v p.1] [p.2.2] (E.m p.1)) : RepE w0 N (markS s L) a w' E:=by
  obtain ⟨e1,e2,e3⟩:=markS_same (L:=L) (s:=s)
  have hlv : (markS s L).lv = s.lv:=by
    funext j
    unfold AS.lv
    rw [e2]
    rcases markS_ob (L:=L) (s:=s) j with ⟨p,hp,h1,h2⟩ | ⟨h1,h2⟩
    · obtain ⟨_,⟨x,hx⟩,_⟩:=hL p hp
      rw [h2,← h1,hx];rfl
    · rw [h2]
  have hAb : ∀ b,E.A b→w'.heap[b]? = w.heap[b]?:=fun b hbA=>hblk b (h.A_lt b hbA) (fun p hp=>h.A_m b hbA p.1 (hL p hp).1)
  have hst : Stay w E s.lv s.c w' E (markS s L).lv (markS s L).c:=by
    rw [hlv,e3]
    exact ⟨fun b hbA=>⟨hbA,hAb b hbA⟩,fun i st _ h=>⟨h,rfl⟩,Nat.le_refl _⟩
  refine ⟨h.size,h.defers,hb,fun j hj=>?_,fun t=>by rw [e1];exact (h.slot t).stay hst,fun b hbA=>Nat.lt_of_lt_of_le (h.A_lt b hbA) hsz,by rw [e2];exact h.A_m,by rw [e2];exact h.A_o,by rw [e2];exact h.mm,by rw [e2];exact h.oo,
    by rw [e2];exact fun i hi b hbm=>Nat.lt_of_lt_of_le (h.m_lt i hi b hbm) hsz,h.anc,by rw [e2];exact h.mF,by rw [e2];exact h.oF⟩
  rw [e2] at hj
  rcases markS_ob (L:=L) (s:=s) j with ⟨p,hp,h1,h2⟩ | ⟨h1,h2⟩
  · subst h1
    rw [h2]
    obtain ⟨_,⟨x,hx⟩,ho⟩:=hL p hp
    have hO:=h.obj p.1 hj
    rw [hx] at hO
    exact ⟨by rw [e3];exact hO.1,hO.2.1,ho⟩
  · rw [h2]
    refine (h.obj j hj).stay hst rfl rfl rfl (fun b hbm=>hblk b (h.m_lt j hj b hbm) (fun p hp hbp=>h.mm j p.1 hj (hL p hp).1 (fun e=>h1 p hp e.symm) b hbm hbp)) (fun b hbo=>h.A_o j hj b hbo)
theorem mkL_own (h : RepE w0 N s a w E) : ∀ {cs : List AC} {ds ds' : List DV} {L : List (Nat × Nat × DV)} {vals : List Value},MkL s cs ds ds' L→(L.map (·.1)).Nodup→CellsR w E s.lv s.c cs vals →
    ∃ fs,OwnP w 0 vals ds fs∧fs.flatten = (L.map fun p=>E.m p.1).flatten∧fs.flatten.Nodup∧(∀ p ∈ L,p.1 < s.n∧∃ x,s.ob p.1 = .dx p.2.1 x) ∧
      ∀ w',OwnP w' 0 vals ds' fs→∀ p ∈ L,OwnL w' 0 [E.v p.1] [p.2.2] (E.m p.1)
  | [],[],[],[],vals,_,_,hc=>by rw [hc.nil'];exact ⟨[],trivial,rfl,by simp,by simp,by simp⟩
  | .d y :: cs,x :: ds,z :: ds',L,vals,hm,hnd,hc=>by
    obtain ⟨⟨v,rfl,rfl,rfl⟩,hm⟩:=hm
    obtain ⟨u,us,rfl,c1,c2⟩:=hc.cons'
    obtain ⟨fs,h1,h2,h3,h4,h5⟩:=mkL_own h hm hnd c2
    obtain ⟨rfl,hs⟩:=RepL.scOf c1
    exact ⟨[] :: fs,⟨.sc hs .nil,h1⟩,by simpa using h2,by simpa using h3,h4,fun w' hw=>h5 w' hw.2⟩
  | .nil :: cs,x :: ds,z :: ds',L,vals,hm,hnd,hc=>by
    obtain ⟨⟨t,k,hk,rfl,rfl⟩,hm⟩:=hm
    obtain ⟨u,us,rfl,c1,c2⟩:=hc.cons'
    obtain ⟨fs,h1,h2,h3,h4,h5⟩:=mkL_own h hm hnd c2
    obtain rfl : u = .slice none 0 0:=c1
    refine ⟨[] :: fs,⟨?_,h1⟩,by simpa using h2,by simpa using h3,h4,fun w' hw=>h5 w' hw.2⟩
    have:=OwnL.sl (w:=w) (base:=0) (v:=.slice none 0 0) (t:=t) (k:=k) (es:=[]) (cells:=[]) (g:=[]) (vs:=[]) (ds:=[]) (f:=[]) (World.ownsRow_nil _ _ _ _) hk (by simp) .nil .nil (by simp [Value.ownBlock])
    simpa [Value.ownBlock] using this
  | .own i st :: cs,x :: ds,z :: ds',p :: L,vals,hm,hnd,hc=>by
    obtain ⟨hi,rfl,hm⟩:=hm
    obtain ⟨u,us,rfl,c1,c2⟩:=hc.cons'
    obtain ⟨hin,hob,hlv⟩:=own?_some hi
    rw [List.map_cons,List.nodup_cons] at hnd
    obtain ⟨fs,h1,h2,h3,h4,h5⟩:=mkL_own h hm hnd.2 c2
    obtain rfl : u = E.v i:=c1.2 hlv
    have hO:=h.obj i hin
    rw [hob] at hO
    have ho : OwnL w 0 [E.v i] [x] (E.m i):=hO.2.2
    refine ⟨E.m i :: fs,⟨ho,h1⟩,by simp [h2],?_,?_,?_⟩
    · rw [List.flatten_cons]
      refine List.nodup_append.2 ⟨ho.nodup,h3,fun b hb b' hb' e=>?_⟩
      subst e
      rw [h2] at hb'
      obtain ⟨m',hm',hbm⟩:=List.mem_flatten.1 hb'
      obtain ⟨q,hq,rfl⟩:=List.mem_map.1 hm'
      exact h.mm i q.1 hin (h4 q hq).1 (fun e=>hnd.1 (List.mem_map.2 ⟨q,hq,e.symm⟩)) b hb hbm
    · intro q hq
      rcases List.mem_cons.1 hq with rfl | hq
      · exact ⟨hin,x,hob⟩
      · exact h4 q hq
    · intro w' hw q hq
      rcases List.mem_cons.1 hq with rfl | hq
      · exact hw.1
      · exact h5 w' hw.2 q hq
theorem astep_mark {K : AS→Prop} {f : FuncId} {X Y : Operand} {ts : Array TypeId} {b : Bool} {cs : List AC} {ds ds' : List DV} {k k' : Int} {L : List (Nat × Nat × DV)} (ho : o.op = .call ⟨.value (.func f),#[X,Y],ts⟩) (hd : dB N o.dst = true) (hm : Marks P f b ds k ds' k')
    (hX : s.ev X = .p b cs) (hY : s.ev Y = .p false [.d (.sc (.int .i64 k))]) (hL : MkL s cs ds ds' L) (hnd : (L.map (·.1)).Nodup) (hk : K ((markS s L).put o.dst (.p false [.d (.sc (.int .i64 k'))]))) : AStep P N o K s:=by
  refine ⟨_,?_,hk⟩
  intro w0 a w E h
  have eX:=ev_ok h X;have eY:=ev_ok h Y
  rw [hX] at eX;rw [hY] at eY
  have eY:=slot_sc eY
  obtain ⟨vals,hp,hc⟩:=part_get (show PartR w E s.lv s.c b cs _ from eX)
  obtain ⟨fs,g1,g2,g3,g4,g5⟩:=mkL_own h hL hnd hc
  unfold Oper.wp
  rw [run_call ho hm.1,Oper.upon_enter]
  have e : (#[X,Y].toList.map a.eval).toArray = #[a.eval X,.int .i64 k]:=by simp [eY]
  rw [e]
  refine (hm.2 w 0 _ vals fs hp g1 g3).mono ?_
  rintro e w' ⟨rfl,g6,g7⟩
  simp only
  have hmem : ∀ c,(∀ p ∈ L,c ∉ E.m p.1)→c ∉ fs.flatten:=by
    intro c hcc hcf
    rw [g2] at hcf
    obtain ⟨m',hm',hbm⟩:=List.mem_flatten.1 hcf
    obtain ⟨q,hq,rfl⟩:=List.mem_map.1 hm'
    exact hcc q hq hbm
  have hrep:=rep_mark (w':=w') (L:=L) h ?_ g7.size (fun c hc1 hc2=>g7.block c hc1 (hmem c hc2)) (fun p hp=>⟨(g4 p hp).1,(g4 p hp).2,g5 w' g6 p hp⟩)
  · exact ⟨E,hrep.put (slot_sc_mk trivial) (dB_ok hd)⟩
  · refine ⟨g7.os.trans h.bel.os,g7.tape.trans h.bel.tape,g7.output.trans h.bel.output,Nat.le_trans h.bel.size g7.size,fun c hc1=>?_⟩
    refine (g7.block c (Nat.lt_of_lt_of_le (Cx.lt hc1) h.bel.size) (hmem c fun p hp hcp=>?_)).trans (h.bel.block c hc1)
    exact hc1 (h.mF p.1 (g4 p hp).1 c hcp)
end
attribute [go_sem] markS.eq_1 markS.eq_2
end Go.Proofs.Ytboheedjhnbnhaa
namespace Go.Proofs.Ytboheedjhnbnhaa
open Go.RowKit
def onlyN (Q : Exit→AS→Prop) : Exit→AS→Prop
  | .normal,s=>Q .normal s
  | _,_=>False
def addEdge (l : List Oper) (j : Nat) (e : Edge) : List Oper:=match l[j]? with | some o=>l.set j { o with after:=o.after.push e } | none=>l
def closedB (md : Region.Mode) (ops : Array Oper) (listed : Array Bool) : Prop:=∀ k ok,ops[k]? = some ok→listed.getD k false = true→∀ e ∈ ok.after,Region.binds md e = true→listed.getD e.on false = true
section
variable {P : Program} {md : Region.Mode} {Q : Exit→Act→World→Prop} {l : List Oper}
end
end Go.Proofs.Ytboheedjhnbnhaa
namespace Go.Proofs.Ytboheedjhnbnhaa
open Go.RowKit
def fltB : Op→Bool
  | .move _ | .extract _ _ | .binOp _ _ _ _ _ | .unOp _ _ _ | .fieldAddr _ _ _ | .indexAddr _ _ _=>true
  | .assign _ | .slice _ _ _ _ none=>true
  | .call ⟨.builtin .max,_,_⟩ | .call ⟨.builtin .min,_,_⟩ | .call ⟨.builtin .len,_,_⟩=>true
  | _=>false
def isLd : Op→Bool
  | .load _ (.tmp _)=>true
  | _=>false
theorem faV_any {P : Program} {w0 : Cx} {w : World} {N : Nat} {s : AS} {a : Act} {E : En} (h : RepE w0 N s a w E) {t : TypeId} {f : Nat} {y x : AV} {v : Value} (hx : faV P s t f y = some x) (hy : SlotR w E s.lv s.c y v) : ∃ u,∀ w',(Instr.fieldAt t v f).run P w' = .ok u w':=by
  unfold faV at hx
  split at hx
  · rename_i fo k ag hf
    split at hx
    · rename_i hk
      split at hx
      · rename_i i st off
        split at hx
        · rename_i hs
          obtain ⟨ob,ho⟩:=Option.isSome_iff_exists.1 hs
          obtain ⟨hi,ho,hl⟩:=own?_some ho
          obtain ⟨g,e1,rfl⟩:=(slot_one hy).2 hl
          exact ⟨_,fun w'=>run_fa P hf hk⟩
        · cases hx
      · rename_i i st k' j off
        split at hx
        · rename_i hs
          obtain ⟨ob,ho⟩:=Option.isSome_iff_exists.1 hs
          obtain ⟨hi,ho,hl⟩:=own?_some ho
          obtain ⟨g,n,cp,e1,rfl⟩:=(slot_one hy).2 hl
          exact ⟨_,fun w'=>run_fa P hf hk⟩
        · cases hx
      · rename_i cs
        obtain ⟨b,off,vals,rfl,_⟩:=slot_one hy
        exact ⟨_,fun w'=>run_fa P hf hk⟩
      · rename_i i st
        split at hx
        · rename_i ob id t' x' cs' ho
          obtain ⟨hi,ho,hl⟩:=own?_some ho
          have h1:=h.obj i hi
          rw [ho] at h1
          obtain ⟨g,u',_,e2,_⟩:=h1
          have e1:=(slot_one hy).2 hl
          rw [e2] at e1
          subst e1
          exact ⟨_,fun w'=>run_fa P hf hk⟩
        · cases hx
      · cases hx
    · cases hx
  · cases hx
theorem idxV_any {P : Program} {w0 : Cx} {w : World} {N : Nat} {s : AS} {a : Act} {E : En} (h : RepE w0 N s a w E) {t : TypeId} {c : AC} {i : Int} {ki : IntKind} {x : AV} {v : Value} (hx : idxV P s t c i = some x) (hy : CellR w E s.lv s.c c v) :
    ∃ u,∀ w',(Instr.indexAt t v (.int ki i)).run P w' = .ok u w':=by
  unfold idxV at hx
  split at hx
  · rename_i hi0
    obtain ⟨j,rfl⟩:=Int.eq_ofNat_of_zero_le hi0
    simp only [Int.toNat_natCast] at hx
    split at hx
    · rename_i el k' t' k es ht
      split at hx
      · rename_i hk;subst hk
        split at hx
        · rename_i e he
          injection hx with hx;subst hx
          obtain ⟨b,off,cp,vals,rfl,hj,hA,h0,h1,hr,hat⟩:=RepL.elem hy he
          exact ⟨_,fun w'=>run_ia P ht hj⟩
        · cases hx
      · cases hx
    · rename_i el k' id st ht
      split at hx
      · rename_i st' t' k es dp ho
        obtain ⟨hi,ho,hl⟩:=own?_some ho
        split at hx
        · rename_i hk;obtain ⟨rfl,hj⟩:=hk
          injection hx with hx;subst hx
          obtain ⟨g,n,cp,vals,e1,_,_,e2⟩:=row_elem h hi ho (List.getElem?_eq_getElem hj)
          subst e2
          have:=hy.2 hl;subst this
          rw [e1]
          exact ⟨_,fun w'=>run_ia P ht hj⟩
        · cases hx
      · rename_i st' t' k es ho
        obtain ⟨hi,ho,hl⟩:=own?_some ho
        split at hx
        · rename_i hk;obtain ⟨rfl,hj⟩:=hk
          injection hx with hx;subst hx
          obtain ⟨g,n,cp,vals,e1,_,_,e2⟩:=arr_elem h hi ho (List.getElem?_eq_getElem hj)
          subst e2
          have:=hy.2 hl;subst this
          rw [e1]
          exact ⟨_,fun w'=>run_ia P ht hj⟩
        · cases hx
      · rename_i st' t' k es ho
        obtain ⟨hi,ho,hl⟩:=own?_some ho
        split at hx
        · rename_i hk;subst hk
          split at hx
          · rename_i e he
            injection hx with hx;subst hx
            have:=hy.2 hl;subst this
            obtain ⟨b,off,cp,vals,e1,hj,hA,h0,h1,hr,hat⟩:=RepL.elem (frz_rd h hi ho) he
            rw [e1]
            exact ⟨_,fun w'=>run_ia P ht hj⟩
          · cases hx
        · cases hx
      · cases hx
    · rename_i el k' id st k lo n ht
      split at hx
      · rename_i st' t' k2 es dp ho
        obtain ⟨hi,ho,hl⟩:=own?_some ho
        split at hx
        · rename_i hk;obtain ⟨rfl,rfl,hj⟩:=hk
          injection hx with hx;subst hx
          obtain ⟨A,M,cp,B,e1,e2,rfl,e4,e5⟩:=hy.2 hl
          have h1:=h.obj id hi
          rw [ho] at h1
          obtain ⟨cells,_,h2,h3,_⟩:=h1
          obtain ⟨A',c',e6,e7,e8⟩:=own_shape h2
          have hpos : 0 < es.length:=by
            rw [e1] at e6;injection e6 with _ g2 _;omega
          obtain ⟨g,n',cp',vals,e9,_⟩:=row_elem h hi ho (List.getElem?_eq_getElem hpos)
          rw [e1] at e9;injection e9 with g1 g2 g3
          subst g1
          have hn : 0 < n:=by omega
          rw [e5 hn,Option.map_some,addr_add]
          exact ⟨_,fun w'=>run_ia P ht hj⟩
        · cases hx
      · cases hx
    · cases hx
  · cases hx
theorem flt_yields {P : Program} {w0 : Cx} {w : World} {N : Nat} {s : AS} {a : Act} {E : En} {o : Oper} {x : AV} (hf : fltB o.op = true) (hx : hV P s o.op = some x) (h : RepE w0 N s a w E) : ∃ v,∀ w',(execOp a.eval o).run P w' = .ok (.value v) w':=by
  cases ho : o.op with
  | move y=>exact ⟨a.eval y,fun w'=>by simp [execOp,ho]⟩
  | assign y=>exact ⟨a.eval y,fun w'=>by simp [execOp,ho]⟩
  | extract y ix =>
    rw [ho] at hx
    simp only [hV] at hx
    have e:=ev_ok h y
    unfold xtV at hx
    split at hx
    · rename_i xs hxs
      split at hx
      · rename_i b cs hb
        rw [hxs] at e
        obtain ⟨vs,e1,hl,hr⟩:=e
        have hlt : ix < vs.length:=by rw [← hl];exact (List.getElem?_eq_some_iff.1 hb).1
        exact ⟨vs[ix],fun w'=>by simp [execOp,ho,e1,Instr.extract,hlt]⟩
      · cases hx
    · cases hx
  | binOp op t y z ty =>
    rw [ho] at hx
    simp only [hV] at hx
    unfold binE at hx
    split at hx
    · rename_i v0 hx0
      unfold binV at hx0
      split at hx0
      · rename_i p q h3 h4
        split at hx0
        · rename_i v hb
          have e1:=ev_ok h y;have e2:=ev_ok h z
          rw [h3] at e1;rw [h4] at e2
          have e1:=slot_sc e1;have e2:=slot_sc e2
          refine ⟨v,fun w'=>?_⟩
          obtain ⟨h5,h6⟩:=binF_ok hb y z w'
          simp only [execOp,ho,e1,e2]
          rw [Sem.run_bind,h5];rfl
        · cases hx0
      · cases hx0
    · obtain ⟨r,r1,rfl,r3⟩:=eqV_ok hx (ev_ok h y) (ev_ok h z) y z
      refine ⟨r,fun w'=>?_⟩
      simp only [execOp,ho]
      rw [Sem.run_bind,r3 w'];rfl
  | unOp op t y =>
    rw [ho] at hx
    simp only [hV] at hx
    unfold unV at hx
    split at hx
    · rename_i p h3
      split at hx
      · rename_i v hb
        have e1:=ev_ok h y
        rw [h3] at e1
        have e1:=slot_sc e1
        refine ⟨v,fun w'=>?_⟩
        obtain ⟨h5,h6⟩:=unF_ok (P:=P) hb w'
        simp [execOp,ho,e1,h5]
      · cases hx
    · cases hx
  | slice t y lo hi m =>
    rw [ho] at hf hx
    cases m with
    | some=>cases hf
    | none =>
      simp only [hV] at hx
      split at hx
      · rename_i l r h3 h4
        obtain ⟨u,h1,-⟩:=slcV_ok h h3 h4 hx (ev_ok h y)
        exact ⟨u,fun w'=>by simp [execOp,ho,h1]⟩
      · cases hx
  | fieldAddr t y f =>
    rw [ho] at hx
    simp only [hV] at hx
    obtain ⟨u,hu⟩:=faV_any h hx (ev_ok h y)
    exact ⟨u,fun w'=>by simp [execOp,ho,hu w']⟩
  | indexAddr t y ix =>
    rw [ho] at hx
    simp only [hV] at hx
    split at hx
    · rename_i c ki i h1 h2
      have e1:=ev_ok h y;have e2:=ev_ok h ix
      rw [h1] at e1;rw [h2] at e2
      have e2:=slot_sc e2
      obtain ⟨u,hu⟩:=idxV_any (ki:=ki) h hx (slot_one e1)
      exact ⟨u,fun w'=>by simp [execOp,ho,e2,hu w']⟩
    · cases hx
  | call c =>
    obtain ⟨ce,args,ts⟩:=c
    rw [ho] at hf hx
    have key : ∀ (mx : Bool) (y z : Operand),mmV mx (s.ev y) (s.ev z) = some x→∃ (k : IntKind) (b c : Int),a.eval y = .int k b∧a.eval z = .int k c:=by
      intro mx y z hx
      unfold mmV at hx
      split at hx
      · rename_i k b k' c g1 g2
        split at hx
        · rename_i e
          subst e
          have e1:=ev_ok h y;have e2:=ev_ok h z
          rw [g1] at e1;rw [g2] at e2
          exact ⟨k,b,c,slot_sc e1,slot_sc e2⟩
        · cases hx
      · cases hx
    cases ce with
    | builtin bt =>
      cases bt
      case len =>
        simp only [hV] at hx
        unfold lenC at hx
        split at hx
        · rename_i y t h1 h2 h3
          obtain rfl : args = #[y]:=by cases args;simp_all
          obtain rfl : ts = #[t]:=by cases ts;simp_all
          split at hx
          · rename_i c h4
            split at hx
            · rename_i n h5
              have e1:=ev_ok h y
              rw [h4] at e1
              exact ⟨.int .i64 (n : Int),fun w'=>by simp [execOp,ho,resolve,invoke,builtin,lenV_any (ty:=o.type) h h5 (slot_one e1) w']⟩
            · cases hx
          · cases hx
        · rename_i h1 _;cases h1
        · rename_i h1 _;cases h1
        · cases hx
      case max =>
        simp only [hV] at hx
        unfold lenC at hx
        split at hx
        · rename_i h1 _ _;cases h1
        · rename_i y z _ h2
          obtain rfl : args = #[y,z]:=by cases args;simp_all
          obtain ⟨k,b,c,e1,e2⟩:=key _ _ _ hx
          exact ⟨_,fun w'=>by simp [execOp,ho,resolve,invoke,builtin,e1,e2,run_max_int2];rfl⟩
        · rename_i h1 _;cases h1
        · cases hx
      case min =>
        simp only [hV] at hx
        unfold lenC at hx
        split at hx
        · rename_i h1 _ _;cases h1
        · rename_i h1 _;cases h1
        · rename_i y z _ h2
          obtain rfl : args = #[y,z]:=by cases args;simp_all
          obtain ⟨k,b,c,e1,e2⟩:=key _ _ _ hx
          exact ⟨_,fun w'=>by simp [execOp,ho,resolve,invoke,builtin,e1,e2,run_min_int2];rfl⟩
        · cases hx
      all_goals cases hf
    | value _=>cases hf
    | invoke _ _=>cases hf
  | _=>rw [ho] at hf;cases hf
def edTo (i : Nat) : Edge:=⟨i,.data⟩
def addEs (l : List Oper) (n : Nat) (F : List Nat) : List Oper:=match l[n]? with | some o=>l.set n { o with after:=o.after ++ (F.map edTo).toArray } | none=>l
section
variable {P : Program} {md : Region.Mode} {Q : Exit→Act→World→Prop} {l : List Oper} {n : Nat} {F : List Nat}
theorem addEs_ne {k : Nat} (h : k ≠ n) : (addEs l n F)[k]? = l[k]?:=by
  unfold addEs;split
  · rw [List.getElem?_set_ne (Ne.symm h)]
  · rfl
theorem addEs_eq {o : Oper} (h : l[n]? = some o) : (addEs l n F)[n]? = some { o with after:=o.after ++ (F.map edTo).toArray }:=by
  unfold addEs;rw [h];simp only
  rw [List.getElem?_set_self (List.getElem?_eq_some_iff.1 h).1]
theorem addEs_len : (addEs l n F).length = l.length:=by
  unfold addEs;split
  · simp
  · rfl
theorem wpOp_es {k : Nat} {K : Act→World→Prop} {a : Act} {w : World} : wpOp P (addEs l n F).toArray Q k K a w = wpOp P l.toArray Q k K a w:=by
  have hy : ∀ t,yielded (addEs l n F).toArray t = yielded l.toArray t:=by
    intro t;funext g
    unfold yielded
    by_cases h : g = n
    · subst h
      cases ho : l[g]? with
      | none =>
        have : addEs l g F = l:=by unfold addEs;rw [ho]
        rw [this]
      | some o=>simp [addEs_eq ho,ho]
    · simp [addEs_ne h]
  unfold wpOp
  by_cases h : k = n
  · subst h
    cases ho : l[k]? with
    | none =>
      have : addEs l k F = l:=by unfold addEs;rw [ho]
      rw [this]
    | some o =>
      have h1 : (addEs l k F).toArray[k]? = some { o with after:=o.after ++ (F.map edTo).toArray }:=by simpa using addEs_eq (F:=F) ho
      have h2 : l.toArray[k]? = some o:=by simpa using ho
      rw [h1,h2]
      simp only [hy]
      rfl
  · have h1 : (addEs l n F).toArray[k]? = l.toArray[k]?:=by simpa using addEs_ne (F:=F) h
    rw [h1]
    simp only [hy]
theorem ready_es {k : Nat} {listed : Array Bool} (hk : k ∈ Region.ready md l.toArray listed) (hF : k = n→∀ i ∈ F,listed.getD i false = true) : k ∈ Region.ready md (addEs l n F).toArray listed:=by
  rw [mem_ready] at hk ⊢
  obtain ⟨h0,o,ho,hall⟩:=hk
  refine ⟨h0,?_⟩
  by_cases h : k = n
  · subst h
    have ho' : l[k]? = some o:=by simpa using ho
    refine ⟨_,by simpa using addEs_eq (F:=F) ho',fun e1 he1 hb=>?_⟩
    simp only [Array.mem_append,List.mem_toArray,List.mem_map] at he1
    rcases he1 with he1 | ⟨i,hi,rfl⟩
    · exact hall e1 he1 hb
    · exact hF rfl i hi
  · exact ⟨o,by simpa [addEs_ne h] using ho,hall⟩
theorem ready_es_less {k : Nat} {listed : Array Bool} (hk : k ∈ Region.ready md (addEs l n F).toArray listed) : k ∈ Region.ready md l.toArray listed:=by
  rw [mem_ready] at hk ⊢
  obtain ⟨h0,o,ho,hall⟩:=hk
  refine ⟨h0,?_⟩
  by_cases h : k = n
  · subst h
    cases hl : l[k]? with
    | none =>
      have : addEs l k F = l:=by unfold addEs;rw [hl]
      rw [this] at ho
      exact ⟨o,ho,hall⟩
    | some o' =>
      have h1 : (addEs l k F).toArray[k]? = some { o' with after:=o'.after ++ (F.map edTo).toArray }:=by simpa using addEs_eq (F:=F) hl
      rw [h1] at ho;injection ho with ho;subst ho
      exact ⟨o',by simpa using hl,fun e1 he1 hb=>hall e1 (by simp only [Array.mem_append];exact .inl he1) hb⟩
  · exact ⟨o,by simpa [addEs_ne h] using ho,hall⟩
def depB (md : Region.Mode) (l : List Oper) (n : Nat) (F : List Nat) (i : Nat) (e1 : Edge) : Bool :=
  (F.contains e1.on && decide (e1.on < i)) || (match l[n]? with
    | some o=>o.after.toList.any fun e2=>Region.binds md e2 && (decide (e2.on = e1.on) || (match l[e2.on]? with | some o2=>o2.after.toList.any fun e3=>Region.binds md e3 && decide (e3.on = e1.on) | none=>false))
    | none=>false)
def eagB (l : List Oper) (n : Nat) (F : List Nat) : Bool :=
  Region.noSelect l.toArray && (decide (n < l.length) && F.all fun i=>decide (i < n) && (match l[i]? with
    | some oi=>oi.guard.isNone && ((fltB oi.op || isLd oi.op) && ((oi.after.toList.all fun e1=>!Region.binds .any e1 || depB .any l n F i e1) &&
        ((List.range l.length).all fun k=>decide (k = i) || (match l[k]? with | some ok=>(ok.after.toList.any fun e=>Region.binds .any e && decide (e.on = i)) || ((oi.after.toList.any fun e=>Region.binds .any e && decide (e.on = k)) || oi.apart l.toArray ok) | none=>true))))
    | none=>false))
def JF (P : Program) (l : List Oper) (F : List Nat) (S : World→Prop) (listed : Array Bool) (a : Act) (w : World) : Prop:=S w∧∀ i oi,i ∈ F→l[i]? = some oi→i ∈ Region.ready .any l.toArray listed→∃ v,∀ w,S w→(execOp a.eval oi).run P w = .ok (.value v) w
theorem wpAnyJ_J {ops : Array Oper} {J : Array Bool→Act→World→Prop} {listed : Array Bool} {a : Act} {w : World} : ∀ {fuel : Nat},wpAnyJ P md ops Q J fuel listed a w→J listed a w
  | 0,h=>h.1
  | _ + 1,h=>h.1
theorem wpAny_eagF {S : World→Prop} (hE : eagB l n F = true) (hQ : ∀ e a w,e ≠ .normal→¬ Q e a w) :
    ∀ (fuel : Nat) (listed : Array Bool) (a : Act) (w : World),closedB .any l.toArray listed→listed.size = l.length→wpAnyJ P .any (addEs l n F).toArray Q (JF P l F S) fuel listed a w→wpAnyH P .any l.toArray Q S fuel listed a w:=by
  unfold eagB at hE
  simp only [Bool.and_eq_true,decide_eq_true_eq,List.all_eq_true] at hE
  obtain ⟨hsel,hn,hF⟩:=hE
  have hFi : ∀ i ∈ F,∃ oi,l[i]? = some oi∧i < n∧oi.guard = none∧(∀ e1 ∈ oi.after,Region.binds .any e1 = true→depB .any l n F i e1 = true) ∧
      ∀ k ok,l[k]? = some ok→k ≠ i→(∀ e ∈ ok.after,Region.binds .any e = true→e.on ≠ i)→(∃ e ∈ oi.after,Region.binds .any e = true∧e.on = k) ∨ oi.apart l.toArray ok = true:=by
    intro i hi
    obtain ⟨h1,h2⟩:=hF i hi
    split at h2
    · rename_i oi hoi
      simp only [Bool.and_eq_true,List.all_eq_true] at h2
      obtain ⟨g1,g2,g3,g4⟩:=h2
      refine ⟨oi,hoi,h1,by simpa using g1,fun e1 he hb=>?_,fun k ok hk hne hno=>?_⟩
      · have:=g3 e1 (by simpa using he)
        simpa [hb] using this
      · have:=g4 k (List.mem_range.2 (List.getElem?_eq_some_iff.1 hk).1)
        simp only [hk,Bool.or_eq_true,decide_eq_true_eq] at this
        rcases this with this | this | this | this
        · exact absurd this hne
        · obtain ⟨e,he,hb⟩:=List.any_eq_true.1 this
          simp only [Bool.and_eq_true,decide_eq_true_eq] at hb
          exact absurd hb.2 (hno e (by simpa using he) hb.1)
        · obtain ⟨e,he,hb⟩:=List.any_eq_true.1 this
          simp only [Bool.and_eq_true,decide_eq_true_eq] at hb
          exact .inl ⟨e,by simpa using he,hb.1,hb.2⟩
        · exact .inr this
    · cases h2
  have key : ∀ listed,closedB .any l.toArray listed→listed.size = l.length→n ∈ Region.ready .any l.toArray listed→∀ (m i : Nat),i≤m→i ∈ F→listed.getD i false = false→∃ i0 ∈ F,i0 ∈ Region.ready .any l.toArray listed:=by
    intro listed hc hs hr m
    rw [mem_ready] at hr
    obtain ⟨h0,on,hon,hall⟩:=hr
    have hon' : l[n]? = some on:=by simpa using hon
    have dep : ∀ i oi e1,l[i]? = some oi→depB .any l n F i e1 = true→listed.getD e1.on false = true ∨ (e1.on ∈ F∧e1.on < i):=by
      intro i oi e1 hoi hd
      unfold depB at hd
      simp only [Bool.or_eq_true,Bool.and_eq_true,decide_eq_true_eq,hon'] at hd
      rcases hd with ⟨hd1,hd2⟩ | hd
      · exact .inr ⟨by simpa using hd1,hd2⟩
      · left
        obtain ⟨e2,he2,hb⟩:=List.any_eq_true.1 hd
        simp only [Bool.and_eq_true,Bool.or_eq_true,decide_eq_true_eq] at hb
        have hl2:=hall e2 (by simpa using he2) hb.1
        rcases hb.2 with h | h
        · rw [← h];exact hl2
        · split at h
          · rename_i o2 ho2
            obtain ⟨e3,he3,hb3⟩:=List.any_eq_true.1 h
            simp only [Bool.and_eq_true,decide_eq_true_eq] at hb3
            rw [← hb3.2]
            exact hc e2.on o2 (by simpa using ho2) hl2 e3 (by simpa using he3) hb3.1
          · cases h
    induction m with
    | zero =>
      intro i him hi hun
      obtain ⟨oi,hoi,hin,hg,hdep,-⟩:=hFi i hi
      refine ⟨i,hi,mem_ready.2 ⟨getD_in (by rw [hs];exact (List.getElem?_eq_some_iff.1 hoi).1) hun,oi,by simpa using hoi,fun e1 he1 hb=>?_⟩⟩
      rcases dep i oi e1 hoi (hdep e1 he1 hb) with h | h
      · exact h
      · omega
    | succ m ih =>
      intro i him hi hun
      obtain ⟨oi,hoi,hin,hg,hdep,-⟩:=hFi i hi
      by_cases hall' : ∀ e1 ∈ oi.after,Region.binds .any e1 = true→listed.getD e1.on false = true
      · exact ⟨i,hi,mem_ready.2 ⟨getD_in (by rw [hs];exact (List.getElem?_eq_some_iff.1 hoi).1) hun,oi,by simpa using hoi,hall'⟩⟩
      · simp only [Classical.not_forall] at hall'
        obtain ⟨e1,he1,hb,hne⟩:=hall'
        rcases dep i oi e1 hoi (hdep e1 he1 hb) with h | h
        · exact absurd h hne
        · exact ih e1.on (by omega) h.1 (by simpa using hne)
  have hcl : ∀ listed k,closedB .any l.toArray listed→k ∈ Region.ready .any l.toArray listed→closedB .any l.toArray (listed.setIfInBounds k true):=by
    intro listed k hc hk k' ok' hok' hl e1 he1 hb
    by_cases h : k' = k
    · subst h
      rw [mem_ready] at hk
      obtain ⟨_,o,ho,hall⟩:=hk
      have : o = ok':=Option.some.inj (ho.symm.trans hok')
      subst this
      exact getD_set_true (hall e1 he1 hb)
    · rw [getD_set_ne false (Ne.symm h)] at hl
      exact getD_set_true (hc k' ok' hok' hl e1 he1 hb)
  have hnF : ∀ i ∈ F,i ≠ n:=fun i hi e=>by obtain ⟨_,_,h,_⟩:=hFi i hi;omega
  intro fuel
  induction fuel with
  | zero =>
    rintro listed a w hc hs ⟨-,h1,h2⟩
    refine ⟨?_,h2⟩
    rw [List.eq_nil_iff_forall_not_mem] at h1 ⊢
    intro k hk
    by_cases h : k = n
    · subst h
      by_cases hall : ∀ i ∈ F,listed.getD i false = true
      · exact h1 k (ready_es hk fun _=>hall)
      · simp only [Classical.not_forall] at hall
        obtain ⟨i,hi,hun⟩:=hall
        obtain ⟨i0,hi0,hr0⟩:=key listed hc hs hk i i (Nat.le_refl _) hi (by simpa using hun)
        exact h1 i0 (ready_es hr0 fun e=>absurd e (hnF i0 hi0))
    · exact h1 k (ready_es hk fun e=>absurd e h)
  | succ fuel ih =>
    rintro listed a w hc hs ⟨⟨hS,hJ⟩,h1,h2⟩
    by_cases hex : ∃ i,i ∈ F∧i ∈ Region.ready .any l.toArray listed
    · obtain ⟨i,hi,hr⟩:=hex
      obtain ⟨oi,hoi,hin,hg,-,hap⟩:=hFi i hi
      have h3:=h2 i (ready_es hr fun e=>absurd e (hnF i hi))
      rw [wpOp_es] at h3
      obtain ⟨v,hv⟩:=hJ i oi hi hoi hr
      have hwt : Region.wanted oi (yielded l.toArray a.tmps) = true:=by simp [Region.wanted,hg]
      have hk : wpAnyJ P .any (addEs l n F).toArray Q (JF P l F S) fuel (listed.setIfInBounds i true) (a.put oi.dst v) w:=by
        unfold wpOp at h3
        rw [show l.toArray[i]? = some oi from by simpa using hoi] at h3
        simp only at h3
        rw [if_pos hwt] at h3
        rcases h3 with h3 | ⟨_,a',w',hq⟩
        · unfold Oper.wp at h3;rw [hv w hS,Oper.upon_value] at h3;exact h3
        · exact absurd hq (hQ _ _ _ (by simp))
      refine wpAnyH_first (by simpa using hoi) (Region.noSelect_spec hsel) (fun c a w hq=>absurd hq (hQ _ _ _ (by simp))) fuel listed a w (fun k ok hok hne hunk hw=>by
        rcases hap k ok (by simpa using hok) hne hw with ⟨e,he,hb,hk2⟩ | h
        · obtain ⟨_,oi2,hoi2,hall2⟩:=mem_ready.1 hr
          obtain rfl : oi2 = oi:=Option.some.inj ((by simpa using hoi2 : l[i]? = some oi2).symm.trans hoi)
          have h4:=hall2 e he hb
          rw [hk2,getD_both hunk] at h4;cases h4
        · exact h) hr (.inl ⟨hwt,hv⟩) hS ?_
      exact ih _ _ _ (hcl _ _ hc hr) (by simpa using hs) hk
    · have hre : ∀ k,k ∈ Region.ready .any l.toArray listed→k ∈ Region.ready .any (addEs l n F).toArray listed:=fun k hk=>ready_es hk fun h=>by
        subst h
        intro i hi
        cases hli : listed.getD i false with
        | true=>rfl
        | false=>obtain ⟨i0,h3,h4⟩:=key listed hc hs hk i i (Nat.le_refl _) hi hli;exact absurd ⟨i0,h3,h4⟩ hex
      refine ⟨fun h0=>h1 ?_,fun k hk=>?_⟩
      · rw [List.eq_nil_iff_forall_not_mem] at h0 ⊢
        exact fun k hk=>h0 k (ready_es_less hk)
      · have h3:=h2 k (hre k hk)
        rw [wpOp_es] at h3
        exact wpOp_mono (fun a' w' h=>⟨(wpAnyJ_J h).1,ih _ _ _ (hcl _ _ hc hk) (by simpa using hs) h⟩) h3
end
end Go.Proofs.Ytboheedjhnbnhaa
namespace Go.Proofs.Ytboheedjhnbnhaa
open Go.RowKit
section
variable {P : Program} {w0 : Cx} {ws w w' : World} {N m n : Nat} {s h H q q' qF : AS} {a : Act} {E : En} {o : Oper} {pr : Bool} {l : List Oper} {kds : List HK} {xs : List AV} {Q : Exit→AS→Prop} {F : List Nat}
theorem hinv_rep (hB : fixB .any l n = true) (hnd : (dsts (l.take n)).Nodup) (hh : Heads P N pr l.toArray (l.take n) s s kds xs qF) (hw : w0.heap.size≤m) (hEm : ∀ i,i < s.n→∀ b ∈ E.m i,b < m)
    {listed : Array Bool} {fs : Nat→List Nat} (inv : HeadInv .any l.toArray n listed) (hI : HInv P w0 ws N m n s E l kds xs listed a w fs) {i : Nat} {oi : Oper} (hin : i < n) (hi : i ∈ Region.ready .any l.toArray listed) (hoil : l[i]? = some oi) :
    RepE w0 N { s with sl:=fun t=>if (oi.looksAt l.toArray).contains t then (hAt s (l.take i) xs).sl t else .und } a w (E.plus m w.heap.size) ∧
    Alike (hAt s (l.take i) xs) { s with sl:=fun t=>if (oi.looksAt l.toArray).contains t then (hAt s (l.take i) xs).sl t else .und } oi.op.operands.toList:=by
  obtain ⟨hsel,hnl,hsink,hseq,hdep⟩:=fixB_parts hB
  obtain ⟨hkl,hxl⟩:=heads_len hh
  have htl : (l.take n).length = n:=by rw [List.length_take];omega
  rw [htl] at hkl hxl
  obtain ⟨hun,oi',hoi,hall⟩:=mem_ready.1 hi
  obtain rfl : oi' = oi:=Option.some.inj ((by simpa using hoi : l[i]? = some oi').symm.trans hoil)
  have htt : (l.take n).take i = l.take i:=by rw [List.take_take,Nat.min_eq_left (by omega)]
  have hlook : ∀ t ∈ oi'.looksAt l.toArray,SlotR w (E.plus m w.heap.size) s.lv s.c ((hAt s (l.take i) xs).sl t) (a.tmps.getD t undef):=by
    intro t ht
    by_cases hex : ∃ j oj,j < n∧l[j]? = some oj∧oj.dst = some t
    · obtain ⟨j,oj,hj,hoj,hdj⟩:=hex
      obtain ⟨hji,hwt⟩:=looks_lt hB hin hoil hj hoj hdj ht
      have hlj : listed.getD j false = true:=by
        obtain ⟨oi2,hoi2,e,he,hb,hon⟩:=Region.waitsFor_spec hwt
        have : oi2 = oi':=Option.some.inj (hoi2.symm.trans hoi)
        subst this
        rw [← hon];exact hall e he hb
      have hjx : j < xs.length:=by omega
      have hjk : j < kds.length:=by omega
      have hs:=(hI.fact j oj t _ _ hj hlj hoj hdj (List.getElem?_eq_getElem hjk) (List.getElem?_eq_getElem hjx)).2
      have hnd' : (dsts (l.take i)).Nodup:=by
        have : l.take n = l.take i ++ (l.take n).drop i:=by rw [← htt,List.take_append_drop]
        rw [this] at hnd
        unfold dsts at hnd
        rw [List.filterMap_append] at hnd
        exact (List.nodup_append.1 hnd).1
      rw [hAt_in hnd' (by rw [List.getElem?_take,if_pos hji];exact hoj) (List.getElem?_eq_getElem hjx) hdj]
      exact hs
    · have hout : (hAt s (l.take i) xs).sl t = s.sl t:=by
        refine hAt_out fun o ho hdo=>?_
        obtain ⟨j,hj,rfl⟩:=List.mem_iff_getElem.1 ho
        have hji : j < i:=by simp at hj;omega
        exact hex ⟨j,_,by omega,by rw [List.getElem?_eq_getElem (by have:=(List.getElem?_eq_some_iff.1 hoil).1;omega)],by rw [List.getElem_take] at hdo;exact hdo⟩
      rw [hout]
      have:=hI.rep.slot t
      simp only [undL] at this
      rw [if_neg (by
        simp only [List.contains_iff_mem]
        intro hm
        obtain ⟨j,o,hj,_,ho,hdo⟩:=mem_lds.1 hm
        exact hex ⟨j,o,hj,ho,hdo⟩)] at this
      exact this.stay ⟨fun b hb=>⟨.inl hb,rfl⟩,fun i st _ h=>⟨h,rfl⟩,Nat.le_refl _⟩
  obtain ⟨ha1,ha2,ha3⟩:=hAt_same (l:=l.take i) (xs:=xs) (s:=s)
  refine ⟨?_,ha1.symm,ha2.symm,fun t ht=>?_⟩
  · have hg:=growA hI.rep hw hEm
    have:=reslot hg (sl':=fun t=>if (oi'.looksAt l.toArray).contains t then (hAt s (l.take i) xs).sl t else .und) (fun t=>by
      split
      · rename_i ht;exact hlook t (by simpa using ht)
      · trivial)
    exact this
  · have : t ∈ oi'.looksAt l.toArray:=List.mem_append_left _ (List.mem_filterMap.2 ⟨.tmp t,ht,rfl⟩)
    simp only
    rw [if_pos (by simpa using this)]
def noLd (l : List Oper) (F : List Nat) : Bool:=F.all fun i=>match l[i]? with | some o=>fltB o.op | none=>true
theorem any_draw_e (n : Nat) (pr : Bool) (F : List Nat) (hE : eagB l n F = true) (hNL : noLd l F = true) (hB : drawB (addEs l n F) n = true) (hh : Heads P N pr (addEs l n F).toArray ((addEs l n F).take n) s s kds xs qF)
    (htail : AOps P N (addEs l n F).toArray ((addEs l n F).drop n) (onlyN Q) qF) {w0 : Cx} {a : Act} {w : World} {E : En} (hr : RepE w0 N s a w E) :
    wpAny P .any l.toArray (AQ w0 N (onlyN Q)) l.toArray.size (Array.replicate l.toArray.size false) a w.drew:=by
  have hsz : l.toArray.size = (addEs l n F).length:=by simp [addEs_len]
  have hF : ∀ i ∈ F,∃ oi,l[i]? = some oi∧i < n∧oi.guard = none∧fltB oi.op = true:=by
    unfold eagB at hE
    simp only [Bool.and_eq_true,decide_eq_true_eq,List.all_eq_true] at hE
    intro i hi
    obtain ⟨h1,h2⟩:=hE.2.2 i hi
    split at h2
    · rename_i oi hoi
      simp only [Bool.and_eq_true] at h2
      unfold noLd at hNL
      have h3:=List.all_eq_true.1 hNL i hi
      rw [hoi] at h3
      exact ⟨oi,hoi,h1,by simpa using h2.1,h3⟩
    · cases h2
  refine wpAny_of_held _ _ _ _ (wpAny_eagF (S:=fun _=>True) hE (fun e a w he hq=>?_) _ _ _ _ (fun j oj _ hl=>(by rw [getD_replicate_false] at hl;cases hl)) (by simp) ?_)
  · obtain ⟨s',E',h1,_⟩:=hq
    cases e <;> first | exact he rfl | exact h1
  unfold drawB at hB
  rw [Bool.and_eq_true,decide_eq_true_eq] at hB
  obtain ⟨hB,hnd⟩:=hB
  have hnl:=(fixB_parts hB).2.1
  generalize hl' : addEs l n F = l' at *
  have hu : unl n (Array.replicate l.toArray.size false) = n:=by
    unfold unl
    have : (List.range n).filter (fun i=>!(Array.replicate l.toArray.size false).getD i false) = List.range n:=by
      rw [List.filter_eq_self]
      intro i _
      rw [getD_replicate_false];rfl
    rw [this];simp
  have hr' : RepE w0 N s a w.drew E:=hr.world' (Below.refl _ _).drew
  have hEm : ∀ i,i < s.n→∀ b ∈ E.m i,b < w.drew.heap.size:=fun i hi b hb=>hr'.m_lt i hi b hb
  have h:=wpAny_heads (J:=JF P l F (fun _=>True)) (m:=w.drew.heap.size) (E:=E) hB hnd hh hr'.bel.size hEm hr'.A_lt ?_ (tail_plain hB hnd hh hr'.bel.size hEm hr'.A_lt htail ?_) n (Array.replicate l.toArray.size false) a w.drew (fun _=>[]) hu
    ⟨by simp [hsz],fun j oj _ hl=>(by rw [getD_replicate_false] at hl;cases hl),fun t _ ht=>getD_in (by rw [Array.size_replicate,hsz];simpa using ht) (getD_replicate_false _ _)⟩
    ⟨by
      have : lds l' n (Array.replicate l.toArray.size false) = []:=by
        rw [List.eq_nil_iff_forall_not_mem]
        intro t ht
        obtain ⟨j,o,_,hl,_⟩:=mem_lds.1 ht
        rw [getD_replicate_false] at hl;cases hl
      rw [this]
      have e : undL s [] = s:=by unfold undL;simp
      rw [e];exact hr',Nat.le_refl _,fun j o d kd x _ hl=>(by rw [getD_replicate_false] at hl;cases hl),fun j _ hl=>(by rw [getD_replicate_false] at hl;cases hl),fun i j _ _ hl=>(by rw [getD_replicate_false] at hl;cases hl),fun _=>rfl⟩
  · rw [show l.toArray.size = n + (l'.length - n) from by rw [hsz];omega]
    rw [show (Array.replicate l.toArray.size false) = Array.replicate (n + (l'.length - n)) false from by congr 1;rw [hsz];omega] at h
    exact h
  · intro listed a w fs inv hI
    refine ⟨trivial,fun i oi hi hoi hrd=>?_⟩
    obtain ⟨oi',hoi',hin,hg,hfl⟩:=hF i hi
    obtain rfl : oi' = oi:=Option.some.inj (hoi'.symm.trans hoi)
    have hne : i ≠ n:=by omega
    have hrd' : i ∈ Region.ready .any l'.toArray listed:=by rw [← hl'];exact ready_es hrd fun e=>absurd e hne
    have hoil : l'[i]? = some oi':=by rw [← hl',addEs_ne hne];exact hoi
    obtain ⟨g1,g2⟩:=hinv_rep hB hnd hh hr'.bel.size hEm inv hI hin hrd' hoil
    obtain ⟨kd,x,qi,qi',hkd,hx,⟨d,hd,hdN⟩,hstp⟩:=heads_at hh i oi' (by rw [List.getElem?_take,if_pos hin];exact hoil)
    have htt : (l'.take n).take i = l'.take i:=by rw [List.take_take,Nat.min_eq_left (by omega)]
    rw [htt,hg] at hstp
    have hv : ∃ y,hV P (hAt s (l'.take i) xs) oi'.op = some y:=by
      rcases hstp with ⟨y,h1,_⟩ | ⟨f,args,ts,ys,res,ho,_⟩ | ⟨t,len,parts,el,k,es,esq,ho,_⟩ | ⟨t,cs,ho,_⟩ | ⟨y,z,_,_,h1,_⟩ | ⟨_,_,_,_,_,_,_,_,_,_,_,ho,_⟩ | ⟨_,_,_,_,_,_,_,_,ho,_⟩ | ⟨_,_,_,_,_,ho,_⟩
      · refine ⟨y,?_⟩
        unfold hVb at h1
        split at h1
        · rename_i ho;rw [ho] at hfl;cases hfl
        · exact h1
      · rw [ho] at hfl;cases hfl
      · rw [ho] at hfl;cases hfl
      · rw [ho] at hfl;cases hfl
      · refine ⟨y,?_⟩
        unfold hVb at h1
        split at h1
        · rename_i ho;rw [ho] at hfl;cases hfl
        · exact h1
      · rw [ho] at hfl;cases hfl
      · rw [ho] at hfl;cases hfl
      · rw [ho] at hfl;cases hfl
    obtain ⟨y,hy⟩:=hv
    rw [← hV_alike g2] at hy
    obtain ⟨v,hv⟩:=flt_yields hfl hy g1
    exact ⟨v,fun w _=>hv w⟩
  · intro listed a w hall
    refine ⟨trivial,fun i oi hi hoi hrd=>?_⟩
    obtain ⟨_,_,hin,_⟩:=hF i hi
    have h0:=(mem_ready.1 hrd).1
    have:=hall i hin
    rw [getD_both h0] at this;cases this
theorem awp_draw_e {id : Nat} (n : Nat) (pr : Bool) (F : List Nat) (hm : P.follows .mixedOrders = true) (hE : eagB l n F = true) (hNL : noLd l F = true) (hB : drawB (addEs l n F) n = true) (hh : Heads P N pr (addEs l n F).toArray ((addEs l n F).take n) s s kds xs qF)
    (htail : AOps P N (addEs l n F).toArray ((addEs l n F).drop n) (onlyN Q) qF) : AWp P N (.region id l.toArray true) Q s:=fun w0 a w E hr=>by
  refine Code.wp_mono (fun e a w he=>?_) (wp_region_any hm (any_draw_e n pr F hE hNL hB hh htail hr))
  obtain ⟨s',E',h1,h2⟩:=he
  cases e with
  | normal=>exact ⟨s',E',h1,h2⟩
  | _=>exact h1.elim
end
end Go.Proofs.Ytboheedjhnbnhaa
namespace Go.Proofs.Ytboheedjhnbnhaa
open Go.RowKit
def ldsF (l : List Oper) (F : List Nat) : List (TypeId × Nat × Nat):=F.filterMap fun i=>match l[i]? with
  | some o=>(match o.op,o.dst with | .load t (.tmp p),some d=>some (t,p,d) | _,_=>none)
  | none=>none
def dtC (L : Nat→Option Nat) (x : AC) : Prop:=(∃ v,x = .d (.sc v)) ∨ x = .nil ∨ (∃ j st,x = .own j st∧L j = some st) ∨ ∃ i st off,x = .ptr i st off∧L i = some st
def dtV (L : Nat→Option Nat) (b : Bool) (xs : List AC) : Prop:=(b = false→xs.length = 1)∧∀ x ∈ xs,dtC L x
def CF (P : Program) (FL : List (TypeId × Nat × Nat)) (s : AS) : Prop:=∀ x ∈ FL,∃ i st off ty cs b xs,s.sl x.2.1 = .p false [.ptr i st off]∧s.own? i st = some (.var st ty cs)∧ldV P x.1 (cs.drop off) = some (.p b xs)∧s.sl x.2.2 = .p b xs∧dtV s.lv b xs
def SF (P : Program) (FL : List (TypeId × Nat × Nat)) (pv : Nat→Value) (w : World) : Prop:=∀ x ∈ FL,(Instr.loadAt x.1 (pv x.2.1)).run P w = .ok (pv x.2.2) w
def detC (E : En) : AC→Value
  | .d (.sc v)=>v
  | .nil=>.slice none 0 0
  | .own j _=>E.v j
  | .ptr i _ off=>(match E.v i with | .pointer (some g)=>.pointer (some ⟨g.block,off,none⟩) | _=>undef)
  | _=>undef
def detV (E : En) : AV→Value
  | .p false [x]=>detC E x
  | .p true xs=>.agg (xs.map (detC E)).toArray
  | _=>undef
theorem detC_ok {w : World} {E E' : En} {L : Nat→Option Nat} {c : Nat} {x : AC} {u : Value} (hE : ∀ i st,L i = some st→E'.v i = E.v i) (h : CellR w E' L c x u) (hx : dtC L x) : u = detC E x:=by
  rcases hx with ⟨v,rfl⟩ | rfl | ⟨j,st,rfl,hl⟩ | ⟨i,st,off,rfl,hl⟩
  · exact (RepL.scOf h).1
  · exact h
  · rw [h.2 hl];exact hE _ _ hl
  · obtain ⟨g,e1,rfl⟩:=h.2 hl
    rw [hE _ _ hl] at e1
    simp only [detC,e1]
theorem detV_ok {w : World} {E E' : En} {L : Nat→Option Nat} {c : Nat} {b : Bool} {xs : List AC} {v : Value} (hE : ∀ i st,L i = some st→E'.v i = E.v i) (hv : SlotR w E' L c (.p b xs) v) (hx : dtV L b xs) : v = detV E (.p b xs):=by
  cases b with
  | false =>
    match xs,hx.1 rfl with
    | [x],_=>exact detC_ok hE (slot_one hv) (hx.2 x (List.mem_singleton.2 rfl))
  | true =>
    obtain ⟨vals,rfl,h1,h2⟩:=slot_agg hv
    simp only [detV]
    congr 1
    have : vals = xs.map (detC E):=by
      apply List.ext_getElem
      · rw [List.length_map];exact h1.symm
      · intro k hk hk2
        rw [List.getElem_map]
        exact detC_ok hE (h2 k _ _ (List.getElem?_eq_getElem (by omega)) (List.getElem?_eq_getElem hk)) (hx.2 _ (List.getElem_mem _))
    rw [this]
def wpListC (P : Program) (Q : Exit→Act→World→Prop) (I : Act→World→Prop) : List Oper→Act→World→Prop
  | [],a,w=>Q .normal a w
  | o :: r,a,w=>o.guard = none∧o.wp P a w (fun a' w'=>I a' w'∧wpListC P Q I r a' w') (fun _ _ _=>False)
def AOpsC (P : Program) (N : Nat) (l : List Oper) (Q : Exit→AS→Prop) (C : AS→Prop) (s : AS) : Prop:=∀ w0 a w E,RepE w0 N s a w E→wpListC P (AQ w0 N Q) (fun a' w'=>∃ s' E',C s'∧RepE w0 N s' a' w' E') l a w
def plainO : Op→Bool
  | .call ⟨.value _,_,_⟩=>false
  | _=>true
section
variable {P : Program} {w0 : Cx} {ws w w' : World} {N m n : Nat} {s h H q q' qF : AS} {a : Act} {E : En} {o : Oper} {l : List Oper} {kds : List HK} {xs : List AV} {Q : Exit→AS→Prop} {F : List Nat} {FL : List (TypeId × Nat × Nat)} {pv : Nat→Value}
theorem wp_keep {K : Act→World→Prop} (h : o.wp P a w K (fun _ _ _=>False)) : o.wp P a w (fun a' w'=>K a' w'∧∀ t,o.dst ≠ some t→a'.tmps.getD t undef = a.tmps.getD t undef) (fun _ _ _=>False):=by
  have kp : ∀ (a : Act) (v : Value) t,o.dst ≠ some t→(a.put o.dst v).tmps.getD t undef = a.tmps.getD t undef:=by
    intro a v t ht
    cases hd : o.dst with
    | none=>rfl
    | some d=>exact put_getD_ne (fun e=>ht (by rw [hd,e]))
  unfold Oper.wp at *
  generalize (execOp a.eval o).run P w = r at *
  cases r with
  | ok x w' =>
    cases x with
    | value v=>exact ⟨h,kp a v⟩
    | skip=>exact ⟨h,kp a undef⟩
    | defer d=>exact ⟨h,kp _ undef⟩
    | enter f args =>
      refine Calls.mono h fun e w'' he=>?_
      cases e with
      | returned v=>exact ⟨he,kp a v⟩
      | panicked c=>exact he
      | outgrown=>exact he
    | row r args=>exact Rows.mono h fun v w'' he=>⟨he,kp a v⟩
    | _=>exact h
  | halt x w'=>cases x <;> exact h
theorem cf_sf (hr : RepE w0 N s a w E) (hC : CF P FL s) (hI : ∀ x ∈ FL,a.tmps.getD x.2.1 undef = pv x.2.1∧a.tmps.getD x.2.2 undef = pv x.2.2) : SF P FL pv w:=by
  intro x hx
  obtain ⟨i,st,off,ty,cs,b,xs,h1,h2,h3,h4,h5⟩:=hC x hx
  obtain ⟨e1,e2⟩:=hI x hx
  have hp:=hr.slot x.2.1
  rw [h1] at hp
  have hd:=hr.slot x.2.2
  rw [h4] at hd
  obtain ⟨u,hu,hsl⟩:=ldA_ok (P:=P) hr (t:=x.1) (y:=.p false [.ptr i st off]) (x:=.p b xs) (by simp only [ldA,h2];exact h3) hp
  have g1:=detV_ok (E:=E) (fun _ _ _=>rfl) hsl h5
  have g2:=detV_ok (E:=E) (fun _ _ _=>rfl) hd h5
  rw [← e1,hu,← e2,g1,g2]
theorem wpAnyJ_list {ops : Array Oper} {Q : Exit→Act→World→Prop} {I : Act→World→Prop} {J : Array Bool→Act→World→Prop} (hJ : ∀ listed a w,(∀ j,j < n→listed.getD j false = true)→I a w→J listed a w)
    :
    ∀ (r : List Oper) (k : Nat) (listed : Array Bool) (a : Act) (w : World),(∀ j,r[j]? = ops[k + j]?)→Region.seqB .any ops r.length k listed = true→(∀ j,j < n→listed.getD j false = true)→I a w →
    wpListC P Q I r a w→wpAnyJ P .any ops Q J r.length listed a w
  | [],_,listed,a,w,_,hB,hl,hI,h=>⟨hJ _ _ _ hl hI,by simpa [Region.seqB] using hB,h⟩
  | o :: r,k,listed,a,w,hops,hB,hl,hI,h=>by
    have h0 : ops[k]? = some o:=by simpa using (hops 0).symm
    simp only [List.length_cons,Region.seqB,Bool.and_eq_true,decide_eq_true_eq] at hB
    refine ⟨hJ _ _ _ hl hI,fun h1=>(by rw [hB.1] at h1;cases h1),fun i hi=>?_⟩
    rw [hB.1] at hi
    have hik : i = k:=by simpa using hi
    subst hik
    obtain ⟨hg,h⟩:=h
    unfold wpOp
    simp only [h0]
    rw [if_pos (by simp [Region.wanted,hg])]
    refine .inl (Oper.wp_mono2 (fun a' w' hh=>?_) h)
    refine wpAnyJ_list hJ r (i + 1) _ a' w' (fun j=>by have:=hops (j + 1);simpa [Nat.add_assoc,Nat.add_comm 1 j] using this) hB.2 (fun j hj=>?_) hh.1 hh.2
    by_cases e : i = j
    · subst e
      have hlt : i < listed.size:=by
        rcases Nat.lt_or_ge i listed.size with h | h
        · exact h
        · have:=hl i hj;simp [Array.getElem?_eq_none h] at this
      simp [hlt]
    · rw [getD_set_ne false e];exact hl j hj
theorem listC_keep {Q : Exit→Act→World→Prop} (hC : ∀ w0 s a w E,RepE w0 N s a w E→CF P FL s→(∀ x ∈ FL,a.tmps.getD x.2.1 undef = pv x.2.1∧a.tmps.getD x.2.2 undef = pv x.2.2)→SF P FL pv w) :
    ∀ {r : List Oper} {a : Act} {w : World},(∀ o ∈ r,∀ x ∈ FL,o.dst ≠ some x.2.1∧o.dst ≠ some x.2.2)→(∀ x ∈ FL,a.tmps.getD x.2.1 undef = pv x.2.1∧a.tmps.getD x.2.2 undef = pv x.2.2) →
    wpListC P Q (fun a' w'=>∃ s' E',CF P FL s'∧RepE w0 N s' a' w' E') r a w→wpListC P Q (fun _ w'=>SF P FL pv w') r a w
  | [],_,_,_,_,h=>h
  | o :: r,a,w,hd,hI,h=>by
    obtain ⟨hg,h⟩:=h
    refine ⟨hg,Oper.wp_mono (fun a' w' hh=>?_) (wp_keep h)⟩
    obtain ⟨⟨⟨s',E',h1,h2⟩,h3⟩,h4⟩:=hh
    have hI' : ∀ x ∈ FL,a'.tmps.getD x.2.1 undef = pv x.2.1∧a'.tmps.getD x.2.2 undef = pv x.2.2:=by
      intro x hx
      obtain ⟨d1,d2⟩:=hd o (List.mem_cons_self ..) x hx
      rw [h4 _ d1,h4 _ d2];exact hI x hx
    exact ⟨hC _ _ _ _ _ h2 h1 hI',listC_keep hC (fun o ho=>hd o (List.mem_cons_of_mem _ ho)) hI' h3⟩
theorem heads_plain {ops : Array Oper} : ∀ {l : List Oper} {h q : AS} {kds : List HK} {xs : List AV},(∀ o ∈ l,plainO o.op = true)→Heads P N true ops l h h kds xs q→q = hAt h l xs
  | [],h,q,kds,xs,_,hh=>by
    cases kds with
    | cons=>exact hh.elim
    | nil=>cases xs with
      | cons=>exact hh.elim
      | nil=>exact hh
  | o :: l,h,q,[],xs,_,hh=>hh.elim
  | o :: l,h,q,kd :: kds,[],_,hh=>hh.elim
  | o :: l,h,q,kd :: kds,x :: xs,hp,hh=>by
    obtain ⟨_,q1,hst,hh⟩:=hh
    have key : HRun P true h h o kd x q1→q1 = h.put o.dst x:=by
      rintro (⟨y,_,rfl,rfl,e⟩ | ⟨fn,args,ts,ys,res,ho,_⟩ | ⟨_,_,_,_,_,_,_,_,hp0,_⟩ | ⟨_,_,_,hp0,_⟩ | ⟨_,_,_,hp0,_⟩ | ⟨_,_,_,_,_,_,_,_,_,_,_,_,hp0,_⟩ | ⟨_,_,_,_,_,_,_,_,_,hp0,_⟩ | ⟨_,_,_,_,_,_,hp0,_⟩)
      · exact e
      · have:=hp o (List.mem_cons_self ..);rw [ho] at this;cases this
      · cases hp0
      · cases hp0
      · cases hp0
      · cases hp0
      · cases hp0
      · cases hp0
    have hq1 : q1 = h.put o.dst x:=by
      cases hgd : o.guard with
      | none=>rw [hgd] at hst;exact key hst
      | some gw =>
        rw [hgd] at hst
        obtain ⟨t,b,_,_,_,hb⟩:=hst
        split at hb
        · exact key hb
        · obtain ⟨_,rfl,e⟩:=hb;exact e
    subst hq1
    rw [hAt]
    exact heads_plain (fun o ho=>hp o (List.mem_cons_of_mem _ ho)) hh
theorem head_slot (hB : fixB .any l n = true) (hnd : (dsts (l.take n)).Nodup) {listed : Array Bool} {fs : Nat→List Nat} {i : Nat} {t : Nat} (hxl : xs.length = n) (hin : i≤n) (hlt : ∀ j oj,j < n→l[j]? = some oj→oj.dst = some t→j < i) : (hAt s (l.take i) xs).sl t = (hAt s (l.take n) xs).sl t:=by
  have hnl:=(fixB_parts hB).2.1
  by_cases hex : ∃ j oj,j < n∧l[j]? = some oj∧oj.dst = some t
  · obtain ⟨j,oj,hj,hoj,hdj⟩:=hex
    have hji:=hlt j oj hj hoj hdj
    have hnd' : (dsts (l.take i)).Nodup:=by
      have htt : (l.take n).take i = l.take i:=by rw [List.take_take,Nat.min_eq_left hin]
      have : l.take n = l.take i ++ (l.take n).drop i:=by rw [← htt,List.take_append_drop]
      rw [this] at hnd
      unfold dsts at hnd
      rw [List.filterMap_append] at hnd
      exact (List.nodup_append.1 hnd).1
    have hx:=List.getElem?_eq_getElem (show j < xs.length by omega)
    rw [hAt_in hnd' (by rw [List.getElem?_take,if_pos hji];exact hoj) hx hdj,hAt_in hnd (by rw [List.getElem?_take,if_pos hj];exact hoj) hx hdj]
  · have hout : ∀ k,k≤n→(hAt s (l.take k) xs).sl t = s.sl t:=by
      intro k hk
      refine hAt_out fun o ho hdo=>?_
      obtain ⟨j,hj,rfl⟩:=List.mem_iff_getElem.1 ho
      simp at hj
      exact hex ⟨j,_,by omega,by rw [List.getElem?_eq_getElem (by omega)],by rw [List.getElem_take] at hdo;exact hdo⟩
    rw [hout i hin,hout n (Nat.le_refl _)]
theorem head_rep (hB : fixB .any l n = true) (hnd : (dsts (l.take n)).Nodup) (hxl : xs.length = n) (hkl : kds.length = n) (hw : w0.heap.size≤m) (hEm : ∀ i,i < s.n→∀ b ∈ E.m i,b < m) {listed : Array Bool} {fs : Nat→List Nat} (hall : ∀ j,j < n→listed.getD j false = true)
    (hI : HInv P w0 ws N m n s E l kds xs listed a w fs) : RepE w0 N (hAt s (l.take n) xs) a w (E.plus m w.heap.size):=by
  have hnl:=(fixB_parts hB).2.1
  have hg:=growA hI.rep hw hEm
  obtain ⟨ha1,ha2,ha3⟩:=hAt_same (l:=l.take n) (xs:=xs) (s:=s)
  have:=reslot hg (sl':=(hAt s (l.take n) xs).sl) (fun t=>by
    by_cases hex : ∃ j oj,j < n∧l[j]? = some oj∧oj.dst = some t
    · obtain ⟨j,oj,hj,hoj,hdj⟩:=hex
      have hx:=List.getElem?_eq_getElem (show j < xs.length by omega)
      rw [hAt_in hnd (by rw [List.getElem?_take,if_pos hj];exact hoj) hx hdj]
      exact (hI.fact j oj t _ _ hj (hall j hj) hoj hdj (List.getElem?_eq_getElem (by omega)) hx).2
    · rw [hAt_out (fun o ho hdo=>by
        obtain ⟨j,hj,rfl⟩:=List.mem_iff_getElem.1 ho
        simp at hj
        exact hex ⟨j,_,by omega,by rw [List.getElem?_eq_getElem (by omega)],by rw [List.getElem_take] at hdo;exact hdo⟩)]
      have:=hg.slot t
      simp only [undL] at this
      rw [if_neg (by
        simp only [List.contains_iff_mem]
        intro hm
        obtain ⟨j,o,hj,_,ho,hdo⟩:=mem_lds.1 hm
        exact hex ⟨j,o,hj,ho,hdo⟩)] at this
      exact this)
  have e : hAt s (l.take n) xs = { undL s (lds l n listed) with sl:=(hAt s (l.take n) xs).sl }:=by
    generalize hAt s (l.take n) xs = r at *
    obtain ⟨r1,r2,r3,r4⟩:=r
    simp only at ha1 ha2 ha3
    subst ha1 ha2 ha3
    rfl
  rw [e];exact this
theorem det_ok {M : Nat} {c : Nat} {L : Nat→Option Nat} {b : Bool} {xs : List AC} {v : Value} (hv : SlotR w (E.plus m M) L c (.p b xs) v) (hx : dtV L b xs) : v = detV E (.p b xs):=detV_ok (E:=E) (E':=E.plus m M) (fun _ _ _=>rfl) hv hx
theorem dtV_ptr {L : Nat→Option Nat} {i st off : Nat} (h : L i = some st) : dtV L false [.ptr i st off]:=⟨fun _=>rfl,fun x hx=>by rw [List.mem_singleton] at hx;exact hx ▸ .inr (.inr (.inr ⟨i,st,off,rfl,h⟩))⟩
theorem any_draw_s (n : Nat) (F : List Nat) (hE : eagB l n F = true) (hB : drawB (addEs l n F) n = true) (hpl : ∀ o ∈ (addEs l n F).take n,plainO o.op = true) (hh : Heads P N true (addEs l n F).toArray ((addEs l n F).take n) s s kds xs qF)
    (hC : CF P (ldsF l F) qF) (hdt : ∀ o ∈ (addEs l n F).drop n,∀ x ∈ ldsF l F,o.dst ≠ some x.2.1∧o.dst ≠ some x.2.2)
    (htail : AOpsC P N ((addEs l n F).drop n) (onlyN Q) (CF P (ldsF l F)) qF) {w0 : Cx} {a : Act} {w : World} {E : En} (hr : RepE w0 N s a w E) :
    wpAny P .any l.toArray (AQ w0 N (onlyN Q)) l.toArray.size (Array.replicate l.toArray.size false) a w.drew:=by
  have hsz : l.toArray.size = (addEs l n F).length:=by simp [addEs_len]
  have hF : ∀ i ∈ F,∃ oi,l[i]? = some oi∧i < n∧oi.guard = none∧(fltB oi.op = true ∨ isLd oi.op = true):=by
    have hE':=hE
    unfold eagB at hE'
    simp only [Bool.and_eq_true,decide_eq_true_eq,List.all_eq_true] at hE'
    intro i hi
    obtain ⟨h1,h2⟩:=hE'.2.2 i hi
    split at h2
    · rename_i oi hoi
      simp only [Bool.and_eq_true,Bool.or_eq_true] at h2
      exact ⟨oi,hoi,h1,by simpa using h2.1,h2.2.1⟩
    · cases h2
  have hqF:=heads_plain hpl hh
  generalize hFL : ldsF l F = FL at *
  refine wpAny_of_held _ _ _ _ (wpAny_eagF (S:=SF P FL (fun t=>detV E (qF.sl t))) hE (fun e a w he hq=>?_) _ _ _ _ (fun j oj _ hl=>(by rw [getD_replicate_false] at hl;cases hl)) (by simp) ?_)
  · obtain ⟨s',E',h1,_⟩:=hq
    cases e <;> first | exact he rfl | exact h1
  unfold drawB at hB
  rw [Bool.and_eq_true,decide_eq_true_eq] at hB
  obtain ⟨hB,hnd⟩:=hB
  have hnl:=(fixB_parts hB).2.1
  generalize hl' : addEs l n F = l' at *
  have hu : unl n (Array.replicate l.toArray.size false) = n:=by
    unfold unl
    have : (List.range n).filter (fun i=>!(Array.replicate l.toArray.size false).getD i false) = List.range n:=by
      rw [List.filter_eq_self]
      intro i _
      rw [getD_replicate_false];rfl
    rw [this];simp
  have hr' : RepE w0 N s a w.drew E:=hr.world' (Below.refl _ _).drew
  have hEm : ∀ i,i < s.n→∀ b ∈ E.m i,b < w.drew.heap.size:=fun i hi b hb=>hr'.m_lt i hi b hb
  obtain ⟨hkl,hxl⟩:=heads_len hh
  have htl : (l'.take n).length = n:=by rw [List.length_take];omega
  rw [htl] at hkl hxl
  obtain ⟨ha1,ha2,ha3⟩:=hAt_same (l:=l'.take n) (xs:=xs) (s:=s)
  have hlvq : qF.lv = s.lv:=by rw [hqF];funext i;unfold AS.lv;rw [ha1,ha2]
  have hownq : qF.own? = s.own?:=by rw [hqF];funext i st;unfold AS.own?;rw [ha1,ha2]
  have hSat : ∀ listed a w fs,HInv P w0 w.drew N w.drew.heap.size n s E l' kds xs listed a w fs→True:=fun _ _ _ _ _=>trivial
  have hS : ∀ (M : Nat) listed a w1 fs,HInv P w0 w.drew N M n s E l' kds xs listed a w1 fs→SF P FL (fun t=>detV E (qF.sl t)) w1:=by
    intro M listed a w1 fs hI x hx
    obtain ⟨i,st,off,ty,cs,b,zs,h1,h2,h3,h4,h5⟩:=hC x hx
    rw [hownq] at h2;rw [hlvq] at h5
    obtain ⟨hin,hob,hl⟩:=own?_some h2
    have hO:=hI.rep.obj i hin
    have hob' : (undL s (lds l' n listed)).ob i = .var st ty cs:=hob
    rw [hob'] at hO
    obtain ⟨g,vals,q0,q1,_⟩:=hO
    have hsl : SlotR w1 E s.lv s.c (.p false [.ptr i st off]) (.pointer (some ⟨g,off,none⟩)):=slot_one_mk ⟨q0,fun _=>⟨g,q1,rfl⟩⟩
    obtain ⟨u,hu,hus⟩:=ldA_ok (P:=P) hI.rep (t:=x.1) (y:=.p false [.ptr i st off]) (x:=.p b zs) (by simp only [ldA];rw [show (undL s (lds l' n listed)).own? = s.own? from rfl,h2];exact h3) hsl
    have g1:=detV_ok (E:=E) (fun _ _ _=>rfl) hus h5
    show (Instr.loadAt x.1 (detV E (qF.sl x.2.1))).run P w1 = .ok (detV E (qF.sl x.2.2)) w1
    rw [h1,h4]
    simp only [detV,detC,q1] at g1 ⊢
    rw [hu,g1]
  have h:=wpAny_heads (J:=JF P l F (SF P FL (fun t=>detV E (qF.sl t)))) (Q:=onlyN Q) (m:=w.drew.heap.size) (E:=E) hB hnd hh hr'.bel.size hEm hr'.A_lt ?_ ?_ n (Array.replicate l.toArray.size false) a w.drew (fun _=>[]) hu
    ⟨by simp [hsz],fun j oj _ hl=>(by rw [getD_replicate_false] at hl;cases hl),fun t _ ht=>getD_in (by rw [Array.size_replicate,hsz];simpa using ht) (getD_replicate_false _ _)⟩
    ⟨by
      have : lds l' n (Array.replicate l.toArray.size false) = []:=by
        rw [List.eq_nil_iff_forall_not_mem]
        intro t ht
        obtain ⟨j,o,_,hl,_⟩:=mem_lds.1 ht
        rw [getD_replicate_false] at hl;cases hl
      rw [this]
      have e : undL s [] = s:=by unfold undL;simp
      rw [e];exact hr',Nat.le_refl _,fun j o d kd x _ hl=>(by rw [getD_replicate_false] at hl;cases hl),fun j _ hl=>(by rw [getD_replicate_false] at hl;cases hl),fun i j _ _ hl=>(by rw [getD_replicate_false] at hl;cases hl),fun _=>rfl⟩
  · rw [show l.toArray.size = n + (l'.length - n) from by rw [hsz];omega]
    rw [show (Array.replicate l.toArray.size false) = Array.replicate (n + (l'.length - n)) false from by congr 1;rw [hsz];omega] at h
    exact h
  · intro listed a w1 fs inv hI
    refine ⟨hS _ _ _ _ _ hI,fun i oi hi hoi hrd=>?_⟩
    obtain ⟨oi',hoi',hin,hg,hfl⟩:=hF i hi
    obtain rfl : oi' = oi:=Option.some.inj (hoi'.symm.trans hoi)
    have hne : i ≠ n:=by omega
    have hrd' : i ∈ Region.ready .any l'.toArray listed:=by rw [← hl'];exact ready_es hrd fun e=>absurd e hne
    have hoil : l'[i]? = some oi':=by rw [← hl',addEs_ne hne];exact hoi
    obtain ⟨g1,g2⟩:=hinv_rep hB hnd hh hr'.bel.size hEm inv hI hin hrd' hoil
    obtain ⟨kd,x,qi,qi',hkd,hx,⟨d,hd,hdN⟩,hstp⟩:=heads_at hh i oi' (by rw [List.getElem?_take,if_pos hin];exact hoil)
    have htt : (l'.take n).take i = l'.take i:=by rw [List.take_take,Nat.min_eq_left (by omega)]
    rw [htt,hg] at hstp
    rcases hfl with hfl | hfl
    · have hv : ∃ y,hV P (hAt s (l'.take i) xs) oi'.op = some y:=by
        have hb : ∀ y,hVb P (hAt s (l'.take i) xs) oi'.op = some y→hV P (hAt s (l'.take i) xs) oi'.op = some y:=by
          intro y h1
          unfold hVb at h1
          split at h1
          · rename_i ho;rw [ho] at hfl;cases hfl
          · exact h1
        rcases hstp with ⟨y,h1,_⟩ | ⟨f,args,ts,ys,res,ho,_⟩ | ⟨t,len,parts,el,k,es,esq,ho,_⟩ | ⟨t,cs,ho,_⟩ | ⟨y,z,_,_,h1,_⟩ | ⟨_,_,_,_,_,_,_,_,_,_,_,ho,_⟩ | ⟨_,_,_,_,_,_,_,_,ho,_⟩ | ⟨_,_,_,_,_,ho,_⟩
        · exact ⟨y,hb y h1⟩
        · rw [ho] at hfl;cases hfl
        · rw [ho] at hfl;cases hfl
        · rw [ho] at hfl;cases hfl
        · exact ⟨y,hb y h1⟩
        · rw [ho] at hfl;cases hfl
        · rw [ho] at hfl;cases hfl
        · rw [ho] at hfl;cases hfl
      obtain ⟨y,hy⟩:=hv
      rw [← hV_alike g2] at hy
      obtain ⟨v,hv⟩:=flt_yields hfl hy g1
      exact ⟨v,fun w _=>hv w⟩
    · unfold isLd at hfl
      split at hfl
      · rename_i t p hop
        have hmem : (t,p,d) ∈ FL:=by
          rw [← hFL]
          exact List.mem_filterMap.2 ⟨i,hi,by rw [hoi];simp only [hop,hd]⟩
        have hlk : p ∈ oi'.looksAt l'.toArray:=List.mem_append_left _ (List.mem_filterMap.2 ⟨.tmp p,by rw [hop];simp [Op.operands],rfl⟩)
        obtain ⟨i0,st,off,ty,cs,b,zs,h1,h2,h3,h4,h5⟩:=hC _ hmem
        have hp:=g1.slot p
        simp only at hp
        rw [if_pos (by simpa using hlk)] at hp
        rw [head_slot (listed:=listed) (fs:=fs) hB hnd hxl (Nat.le_of_lt hin) (fun j oj hj hoj hdj=>(looks_lt hB hin hoil hj hoj hdj hlk).1),← hqF] at hp
        have hl5 : s.lv i0 = some st:=by rw [hownq] at h2;exact (own?_some h2).2.2
        have hpe : a.tmps.getD p undef = detV E (qF.sl p):=by rw [h1] at hp ⊢;exact det_ok (c:=s.c) (L:=s.lv) hp (dtV_ptr hl5)
        refine ⟨detV E (qF.sl d),fun w' hSw=>?_⟩
        have:=hSw _ hmem
        simp only at this
        simp only [execOp,hop,Act.eval,hpe]
        rw [Sem.run_bind,this];rfl
      · cases hfl
  · intro a w1 fs hI
    have hall : ∀ j,j < n→(headAll n (l'.length - n)).getD j false = true:=by
      intro j hj;simp [headAll,Array.getElem?_append,hj]
    have hrep:=head_rep hB hnd hxl hkl hr'.bel.size hEm hall hI
    rw [← hqF] at hrep
    have hsl : ∀ x ∈ FL,a.tmps.getD x.2.1 undef = detV E (qF.sl x.2.1)∧a.tmps.getD x.2.2 undef = detV E (qF.sl x.2.2):=by
      intro x hx
      obtain ⟨i0,st,off,ty,cs,b,zs,h1,h2,h3,h4,h5⟩:=hC x hx
      have q1:=hrep.slot x.2.1
      have q2:=hrep.slot x.2.2
      rw [h1] at q1;rw [h4] at q2
      rw [h1,h4]
      exact ⟨det_ok q1 (dtV_ptr (own?_some h2).2.2),det_ok q2 h5⟩
    have hseq:=(fixB_parts hB).2.2.2.1
    rw [show wpAnyJ P .any l'.toArray (AQ w0 N (onlyN Q)) (JF P l F (SF P FL (fun t=>detV E (qF.sl t)))) (l'.length - n) = wpAnyJ P .any l'.toArray (AQ w0 N (onlyN Q)) (JF P l F (SF P FL (fun t=>detV E (qF.sl t)))) (l'.drop n).length from by simp]
    refine wpAnyJ_list (n:=n) (I:=fun _ w'=>SF P FL (fun t=>detV E (qF.sl t)) w') (fun listed a w hl hSw=>⟨hSw,fun i oi hi hoi hrd=>?_⟩) (l'.drop n) n _ a w1 (fun j=>by simp [List.getElem?_drop]) (by simpa using hseq) (by simpa using hall) (hS _ _ _ _ _ hI) (listC_keep (w0:=w0) (pv:=fun t=>detV E (qF.sl t)) (fun w0 s a w E h1 h2 h3=>cf_sf h1 h2 h3) hdt hsl (htail w0 a w1 _ hrep))
    obtain ⟨_,_,hin,_⟩:=hF i hi
    have h0:=(mem_ready.1 hrd).1
    have:=hl i hin
    rw [getD_both h0] at this;cases this
theorem awp_draw_s {id : Nat} (n : Nat) (F : List Nat) (hm : P.follows .mixedOrders = true) (hE : eagB l n F = true) (hB : drawB (addEs l n F) n = true) (hpl : ∀ o ∈ (addEs l n F).take n,plainO o.op = true) (hh : Heads P N true (addEs l n F).toArray ((addEs l n F).take n) s s kds xs qF)
    (hC : CF P (ldsF l F) qF) (hdt : ∀ o ∈ (addEs l n F).drop n,∀ x ∈ ldsF l F,o.dst ≠ some x.2.1∧o.dst ≠ some x.2.2)
    (htail : AOpsC P N ((addEs l n F).drop n) (onlyN Q) (CF P (ldsF l F)) qF) : AWp P N (.region id l.toArray true) Q s:=fun w0 a w E hr=>by
  refine Code.wp_mono (fun e a w he=>?_) (wp_region_any hm (any_draw_s n F hE hB hpl hh hC hdt htail hr))
  obtain ⟨s',E',h1,h2⟩:=he
  cases e with
  | normal=>exact ⟨s',E',h1,h2⟩
  | _=>exact h1.elim
end
end Go.Proofs.Ytboheedjhnbnhaa
namespace Go.Proofs.Ytboheedjhnbnhaa
open Go.RowKit
def RetP (w : World) (g : List Nat) (res : List Rs) (e : Ending) (w' : World) : Prop :=
  ∃ v,e = .returned v∧Wrote w w' g∧∃ (us : List Value) (fs : List (List Nat)),(if res.length = 1 then us = [v] else v = .tuple us.toArray)∧ResQs w' 0 (fun _=>False) us res fs∧fs.flatten.Nodup∧∀ b ∈ fs.flatten,b ∈ g ∨ w.heap.size≤b
def MeetsP (P : Program) (f : FuncId) (args : List (Bool × List DV)) (res : List Rs) : Prop :=
  callable P f = true∧(∀ r ∈ res,r.2.2 = true)∧∃ t k es rest,args = (false,[.sl t k es]) :: rest∧Flat es.flatten ∧
    ∀ (w : World) (B : Nat→Prop) (v : Value) (vs : List Value) (g : List Nat),(∀ b,B b→b < w.heap.size∧b ∉ g)→OwnL w 0 [v] [.sl t k es] g→ArgsR w B vs rest→Calls P f (v :: vs).toArray w (RetP w g res)
def initP (t : TypeId) (k : Nat) (es : List (List DV)) (rest : List (Bool × List DV)) : AS:=((initS ((true,[]) :: rest)).push (.row 0 t k es true)).put (some 0) (.p false [.own 0 0])
section
variable {P : Program} {w0 : Cx} {w w' : World} {N : Nat} {s : AS} {a : Act} {E : En} {o : Oper}
theorem resQs_mk {A : Nat→Prop} : ∀ {rs : List Rs} {vs : List Value} {fs : List (List Nat)},vs.length = rs.length→fs.length = rs.length →
    (∀ (j : Nat) u r f,vs[j]? = some u→rs[j]? = some r→fs[j]? = some f→r.2.2 = true∧∃ vals : List Value,(if r.1 then u = .agg vals.toArray else vals = [u])∧OwnL w 0 vals r.2.1 f)→ResQs w 0 A vs rs fs
  | [],[],[],_,_,_=>trivial
  | r :: rs,v :: vs,f :: fs,h1,h2,h3=>by
    refine ⟨?_,resQs_mk (by simpa using h1) (by simpa using h2) fun j u r f k1 k2 k3=>h3 (j + 1) u r f (by simpa using k1) (by simpa using k2) (by simpa using k3)⟩
    obtain ⟨q1,vals,q2,q3⟩:=h3 0 v r f rfl rfl rfl
    exact ⟨vals,q2,by rw [if_pos q1];exact q3⟩
  | [],_ :: _,_,h1,_,_=>by simp at h1
  | _ :: _,[],_,h1,_,_=>by simp at h1
  | [],[],_ :: _,_,h2,_=>by simp at h2
  | _ :: _,_ :: _,[],_,h2,_=>by simp at h2
theorem retRd_deep {rvs : List ResultVar} : ∀ {res : List Rs},(∀ r ∈ res,r.2.2 = true)→RetDeep P s rvs res s ∨ RetRd P s rvs res→RetDeep P s rvs res s:=by
  intro res hd h
  rcases h with h | h
  · exact h
  · cases rvs with
    | nil=>cases res with
      | nil=>trivial
      | cons=>exact h.elim
    | cons rv rvs=>cases res with
      | nil=>exact h.elim
      | cons r rs =>
        obtain ⟨b,ds,dp⟩:=r
        have h1 : dp = true:=hd _ (List.mem_cons_self ..)
        rw [h1] at h
        cases h.1
theorem own_flat {base : Nat} {vals : List Value} {ds : List DV} {g : List Nat} (h : OwnL w base vals ds g) (hf : Flat ds) : g = []:=by
  induction h with
  | nil=>rfl
  | sc _ _ ih=>exact ih (fun d hd=>hf d (List.mem_cons_of_mem _ hd))
  | sl=>obtain ⟨v,hv⟩:=hf _ (List.mem_cons_self ..);cases hv
theorem meetsP_awp {f : FuncId} {fn : Func} {c : Code} {t : TypeId} {k : Nat} {es : List (List DV)} {rest : List (Bool × List DV)} {res : List Rs} (hf : P.funcs[f]? = some fn) (hb : fn.body = some c) (hc : callable P f = true) (hN : rest.length + 1≤fn.ntmps)
    (hfl : Flat es.flatten) (hdp : ∀ r ∈ res,r.2.2 = true) (h : AWp P fn.ntmps c (retK P fn.results.toList res) (initP t k es rest)) : MeetsP P f ((false,[.sl t k es]) :: rest) res:=by
  refine ⟨hc,hdp,t,k,es,rest,rfl,hfl,fun w B v vs g hB hown ha=>?_⟩
  refine calls_of_wp hf hb ?_
  have hlen : vs.length + 1≤fn.ntmps:=by rw [ha.1];exact hN
  have h0:=init_ok (w:=w) (N:=fn.ntmps) (fr:=fun b=>b ∈ g ∨ w.heap.size≤b) (hfr:=fun _ h=>.inr h) (cu:=none) (how:=fun _ h=>h) (fun b hb=>(hB b hb).1) (ArgsR.cons (x:=(true,[])) (v:=.agg #[]) ⟨[],rfl,.nil⟩ ha) (by simpa using hlen)
  obtain ⟨E',k1,k2,k3⟩:=adopt (w0:=⟨w,B,fun b=>b ∈ g ∨ w.heap.size≤b,fun _ h=>.inr h,none,fun b=>b ∈ g ∨ w.heap.size≤b,fun _ h=>h⟩) (X:=false) hown (fun b hb=>Or.inl hb) h0 (fun b hb=>⟨fun hBb=>(hB b hBb).2 hb,fun j hj=>by simp [initS] at hj⟩)
  have h1:=k1.put (d:=some 0) (x:=.p false [.own 0 0]) (v:=v) k2 (fun q hq=>by injection hq with hq;omega)
  have ha' : Act.put { tmps:=(Value.agg #[] :: vs).toArray ++ Array.replicate (fn.ntmps - (Value.agg #[] :: vs).toArray.size) undef,defers:=[] } (some 0) v = { tmps:=(v :: vs).toArray ++ Array.replicate (fn.ntmps - (v :: vs).toArray.size) undef,defers:=[] }:=by
    simp only [Act.put]
    congr 1
    apply Array.toList_inj.1
    simp
  rw [ha'] at h1
  refine Code.wp_mono (fun e a' w' he=>?_) (h _ _ w _ h1)
  obtain ⟨s,E,hq,hr⟩:=he
  have key : RetDeep P s fn.results.toList res s ∨ RetRd P s fn.results.toList res→a'.defers = []∧∃ v,(results fn a'.tmps).run P w' = .ok v w'∧RetP w g res (.returned v) w':=by
    intro hq
    obtain ⟨us,fs,r1,r2,r3,r4,r5,r6⟩:=retDeep_ok hr (retRd_deep hdp hq) hr Stay.refl
    obtain ⟨v,k1,k2⟩:=run_results r1
    refine ⟨hr.defers,v,k1,v,rfl,⟨hr.bel.os,hr.bel.tape,hr.bel.output,hr.bel.size,fun b hb hn=>hr.bel.block b (fun hf=>hf.elim hn (fun hf=>by have : w.heap.size≤b:=hf;omega))⟩,us,fs,by rw [r2] at k2;exact k2,resQs_mk r2 r3 r6,r4,fun b hb=>?_⟩
    obtain ⟨j,hj,h1⟩:=r5 b hb
    exact h1.elim (hr.mF j hj b) (hr.oF j hj b)
  cases e with
  | normal=>exact key hq
  | ret=>exact key hq
  | _=>exact hq.elim
theorem st_callP {f : FuncId} {X : Operand} {xs : List Operand} {args : Array Operand} {ts : Array TypeId} {i st t k : Nat} {es : List (List DV)} {ys : List (Bool × List DV)} {res : List Rs} (ho : o.op = .call ⟨.value (.func f),args,ts⟩) (hargs : args.toList = X :: xs) (hd : dB N o.dst = true)
    (hm : MeetsP P f ((false,[.sl t k es]) :: ys) res) (hX : s.ev X = .p false [.own i st]) (hi : s.own? i st = some (.row st t k es true)) (har : argsRd (s.kill i) xs ys) :
    OStep P N o s (((s.kill i).pushL (resO false res s.c)).put o.dst (resAV res s.n s.c)):=by
  intro w0 a w E h
  obtain ⟨hc,hdp,t',k',es',rest',e0,hfl,hm⟩:=hm
  injection e0 with e1 e2
  injection e1 with _ e1
  injection e1 with e1 _
  injection e1 with e3 e4 e5
  subst e2 e3 e4 e5
  obtain ⟨hin,hob,hlv⟩:=own?_some hi
  have hO:=h.obj i hin
  rw [hob] at hO
  obtain ⟨cells,hst,h1,h2,h3,h4,h5⟩:=hO
  simp only [if_pos] at h5
  have ho0 : E.o i = []:=own_flat h5 hfl
  have hown : OwnL w 0 [E.v i] [.sl t k es] (E.m i):=by
    have:=OwnL.sl (vs:=[]) (ds:=[]) (f:=[]) h1 h2 h3 h5 .nil (by rw [ho0];cases (E.v i).ownBlock <;> simp)
    rw [ho0] at this
    rw [h4];simpa using this
  have hk:=kill_ok h hin
  have hB : ∀ b,AM (s.kill i) ⟨upd E.v i (E.v i),upd E.m i [],upd E.o i [],E.A⟩ b→b < w.heap.size∧b ∉ E.m i:=by
    intro b hb
    rcases hb with hb | ⟨j,hj,hjd,hb⟩
    · exact ⟨h.A_lt b hb,h.A_m b hb i hin⟩
    · by_cases e : j = i
      · subst e;simp [upd_same] at hb
      · simp only [upd_ne _ _ e] at hb
        exact ⟨h.m_lt j hj b hb,h.mm j i hj hin e b hb⟩
  have hev : ∀ x,a.eval x = a.eval x:=fun _=>rfl
  have hu : a.eval X = E.v i:=by
    have:=ev_ok h X
    rw [hX] at this
    exact (slot_one this).2 hlv
  unfold Oper.wp
  rw [run_call ho hc,Oper.upon_enter,hargs,List.map_cons,hu]
  refine (hm w _ _ _ (E.m i) hB hown (argsRd_ok hk har)).mono ?_
  rintro e w' ⟨v,rfl,hw,us,fs,hv,hq,hnd,hfg⟩
  simp only
  have hrep : RepE w0 N (s.kill i) a w' ⟨upd E.v i (E.v i),upd E.m i [],upd E.o i [],E.A⟩ :=
    h.change (i:=i) (n':=s.n) (X:=.dead) (v':=E.v i) (m':=[]) (o':=[]) (A':=E.A) (c':=s.c) (Nat.le_refl _) (fun j hj _=>hj) hin
      ⟨hw.os.trans h.bel.os,hw.tape.trans h.bel.tape,hw.output.trans h.bel.output,Nat.le_trans h.bel.size hw.size,fun b hb=>(hw.block b (Nat.lt_of_lt_of_le (Cx.lt hb) h.bel.size) (fun hbm=>hb (h.mF i hin b hbm))).trans (h.bel.block b hb)⟩
      hw.size (fun b hb hbm=>hw.block b hb (hbm hin)) (Nat.le_refl _) (.inr fun st he=>by cases he) (fun _ hb=>hb) (fun _ hb=>.inl hb)
      (fun b hb=>⟨Nat.lt_of_lt_of_le (h.A_lt b hb) hw.size,by simp,fun j hj _=>h.A_m b hb j hj⟩) (by simp) (by simp) (fun _ _ _ _ _=>trivial)
  obtain ⟨E2,q1,q2,q3⟩:=adoptRf (X:=false) res hrep (A0:=fun _=>False) (fun _ h=>h.elim) hq (fun b hb=>(hfg b hb).elim (h.mF i hin b) (fun hb=>w0.hfr b (Nat.le_trans h.bel.size hb))) hnd (fun b hb=>by
    refine ⟨fun hA=>?_,fun j hj=>?_⟩
    · rcases hfg b hb with h6 | h6
      · exact h.A_m b hA i hin h6
      · have:=h.A_lt b hA;omega
    · by_cases e : j = i
      · subst e;simp [upd_same]
      · simp only [upd_ne _ _ e]
        refine ⟨fun hm=>?_,fun hm=>?_⟩
        · rcases hfg b hb with h6 | h6
          · exact h.mm i j hin hj (Ne.symm e) b h6 hm
          · have:=h.m_lt j hj b hm;omega
        · have hA:=h.A_o j hj b hm
          rcases hfg b hb with h6 | h6
          · exact h.A_m b hA i hin h6
          · have:=h.A_lt b hA;omega)
  exact ⟨E2,q1.put (resAV_ok q2 hv) (dB_ok hd)⟩
end
end Go.Proofs.Ytboheedjhnbnhaa
namespace Go.Proofs.Ytboheedjhnbnhaa
open Go.RowKit
def topsU (vals : List Value) : List Nat:=vals.flatMap fun u=>u.ownBlock.toList
def valsV (b : Bool) (v : Value) : List Value:=if b then (match v with | .agg a=>a.toList | _=>[]) else [v]
theorem valsV_of {b : Bool} {v : Value} {vals : List Value} (h : if b then v = .agg vals.toArray else vals = [v]) : valsV b v = vals:=by
  unfold valsV
  cases b with
  | true=>have h : v = .agg vals.toArray:=h;subst h;simp
  | false=>have h : vals = [v]:=h;simp [h]
def topsL : List Rs→List Value→List Nat
  | (b,_,true) :: rs,v :: vs=>topsU (valsV b v) ++ topsL rs vs
  | (_,_,false) :: rs,_ :: vs=>topsL rs vs
  | _,_=>[]
def RetG (w : World) (g f : List Nat) (res : List Rs) (e : Ending) (w' : World) : Prop :=
  ∃ v,e = .returned v∧Wrote w w' g∧∃ (us : List Value) (fs : List (List Nat)),(if res.length = 1 then us = [v] else v = .tuple us.toArray)∧ResQs w' 0 (fun _=>False) us res fs∧fs.flatten.Nodup∧(∀ b ∈ fs.flatten,b ∈ f ∨ w.heap.size≤b)∧∀ b ∈ topsL res us,b ∈ g ∨ w.heap.size≤b
def MeetsG (P : Program) (f : FuncId) (args : List Rs) (res : List Rs) : Prop :=
  callable P f = true∧(∀ r ∈ res,r.2.2 = true) ∧
    ∀ (w : World) (B : Nat→Prop) (vs : List Value) (fs : List (List Nat)),(∀ b,B b→b < w.heap.size∧b ∉ topsL args vs)→ResQs w 0 B vs args fs→fs.flatten.Nodup→(∀ b ∈ fs.flatten,b ∈ topsL args vs ∨ B b) →
      Calls P f vs.toArray w (RetG w (topsL args vs) fs.flatten res)
section
variable {P : Program} {w0 : Cx} {w w' : World} {N : Nat} {s : AS} {a : Act} {E : En} {o : Oper}
theorem pushL_keep {F : Nat→Prop} {E1 E2 : En} {cs : List AC} {vals : List Value} {l : List Ob} {s1 : AS} (h : CellsR w E1 s1.lv s1.c cs vals) (m1 : RepE w0 N (s1.pushL l) a w E2) (hst : Stamped l s1.c) (m3 : ExtF s1.n (s1.pushL l).n F E1 E2) : CellsR w E2 (s1.pushL l).lv (s1.pushL l).c cs vals:=by
  obtain ⟨q1,q2,q3,q4⟩:=pushL_n l s1
  refine h.stay ⟨fun b hb=>⟨m3.A b hb,rfl⟩,fun i st hst' hl=>?_,by omega⟩
  have hin : i < s1.n:=by
    unfold AS.lv at hl
    split at hl
    · rename_i hi
      apply Classical.byContradiction
      intro hge
      obtain ⟨st',h1,h2⟩:=pushL_new l s1 i (by omega) hi hst
      rw [hl] at h1;injection h1 with h1;omega
    · cases hl
  refine ⟨?_,(m3.same i hin).1⟩
  unfold AS.lv at hl ⊢
  rw [if_pos (by omega),q4 i hin] at hl
  rw [if_pos hin];exact hl
def PartsG (w : World) (E : En) (L : Nat→Option Nat) (c : Nat) : List Rs→List (Bool × List AC)→List Value→Prop
  | (_,_,true) :: rs,x :: xs,v :: vs=>PartR w E L c x.1 x.2 v∧PartsG w E L c rs xs vs
  | (_,_,false) :: rs,_ :: xs,_ :: vs=>PartsG w E L c rs xs vs
  | [],[],[]=>True
  | _,_,_=>False
theorem adoptA {b0 : Nat} {A0 : Nat→Prop} : ∀ (rs : List Rs) {vs : List Value} {fs : List (List Nat)} {s : AS} {E : En},RepE w0 N s a w E→ResQs w b0 A0 vs rs fs→(∀ b ∈ fs.flatten,w0.ow b∧(w0.B b ∨ w0.fr b))→(∀ b ∈ topsL rs vs,w0.fr b)→fs.flatten.Nodup→(∀ b ∈ fs.flatten,(b ∈ topsL rs vs→¬ E.A b)∧∀ j,j < s.n→b ∉ E.m j∧b ∉ E.o j) →
    ∃ E',RepE w0 N (s.pushL (resO false rs s.c)) a w E'∧PartsG w E' (s.pushL (resO false rs s.c)).lv (s.pushL (resO false rs s.c)).c rs (resC rs s.n s.c) vs∧ExtF s.n (s.pushL (resO false rs s.c)).n (· ∈ fs.flatten) E E'∧∀ b ∈ fs.flatten,b ∈ topsL rs vs ∨ E'.A b
  | [],vs,fs,s,E,h,hq,hO,hT,hnd,hf=>by
    cases vs with
    | cons=>exact hq.elim
    | nil=>cases fs with
      | cons=>exact hq.elim
      | nil=>exact ⟨E,h,trivial,ExtF.refl,fun b hb=>by cases hb⟩
  | (b,ds,dp) :: rs,vs,fs,s,E,h,hq,hO,hT,hnd,hf=>by
    cases vs with
    | nil=>exact hq.elim
    | cons v vs=>cases fs with
      | nil=>exact hq.elim
      | cons f fs =>
        obtain ⟨⟨vals,hv,hd⟩,hq⟩:=hq
        rw [List.flatten_cons] at hnd hf hO
        have hnd':=List.nodup_append.1 hnd
        cases dp with
        | true =>
          have hd : OwnL w b0 vals ds f:=hd
          have htop : topsL ((b,ds,true) :: rs) (v :: vs) = topsU vals ++ topsL rs vs:=by simp only [topsL,valsV_of hv]
          rw [htop] at hT hf ⊢
          obtain ⟨E1,k1,k2,k3,k4⟩:=adoptG (X:=false) hd (fun b hb=>hO b (List.mem_append_left _ hb)) (fun u hu b hb=>hT b (List.mem_append_left _ (List.mem_flatMap.2 ⟨u,hu,hb⟩))) (fun e=>by cases e) h (fun b hb=>⟨fun e=>(hf b (List.mem_append_left _ hb)).1 (e.elim (fun e=>by cases e) fun ⟨u,hu,h2⟩=>List.mem_append_left _ (List.mem_flatMap.2 ⟨u,hu,h2⟩)),(hf b (List.mem_append_left _ hb)).2⟩)
          obtain ⟨p1,p2,p3,p4⟩:=pushL_n (adO false ds s.c) s
          have hfs : ∀ b ∈ fs.flatten,(b ∈ topsL rs vs→¬ E1.A b)∧∀ j,j < (s.pushL (adO false ds s.c)).n→b ∉ E1.m j∧b ∉ E1.o j:=by
            intro b hb
            obtain ⟨q1,q2⟩:=hf b (List.mem_append_right _ hb)
            have hbf : b ∉ f:=fun hbf=>hnd'.2.2 b hbf b hb rfl
            refine ⟨fun ht hA1=>?_,fun j hj=>?_⟩
            · rcases k3.A' b hA1 with h1 | h1
              · exact q1 (List.mem_append_right _ ht) h1
              · exact hbf h1
            · by_cases hjn : j < s.n
              · obtain ⟨_,e2,e3⟩:=k3.same j hjn
                rw [e2,e3];exact q2 j hjn
              · exact ⟨fun hm=>hbf (k3.new j (by omega) hj b (.inl hm)),fun hm=>hbf (k3.new j (by omega) hj b (.inr hm))⟩
          obtain ⟨E2,m1,m2,m3,m4⟩:=adoptA rs k1 hq (fun b hb=>hO b (List.mem_append_right _ hb)) (fun b hb=>hT b (List.mem_append_right _ hb)) hnd'.2.1 hfs
          have e : s.pushL (resO false ((b,ds,true) :: rs) s.c) = (s.pushL (adO false ds s.c)).pushL (resO false rs (s.pushL (adO false ds s.c)).c):=by
            rw [p2,resO,pushL_app]
          rw [e]
          refine ⟨E2,m1,?_,?_,fun x hx=>?_⟩
          · simp only [resC,PartsG]
            refine ⟨part_mk hv (pushL_keep k2 m1 (resO_st false rs _) m3),?_⟩
            rw [← p1,← p2];exact m2
          · refine (k3.trans (H:=(· ∈ (f :: fs).flatten)) m3 (by omega) (fun b hb=>?_) (fun b hb=>?_))
            · rw [List.flatten_cons];exact List.mem_append_left _ hb
            · rw [List.flatten_cons];exact List.mem_append_right _ hb
          · rw [List.flatten_cons] at hx
            rcases List.mem_append.1 hx with hx | hx
            · rcases k4 rfl x hx with ⟨u,hu,hb⟩ | hA
              · exact .inl (List.mem_append_left _ (List.mem_flatMap.2 ⟨u,hu,hb⟩))
              · exact .inr (m3.A x hA)
            · exact (m4 x hx).imp (fun h=>List.mem_append_right _ h) id
        | false =>
          have hd : f = []∧RepL w A0 vals ds:=hd
          obtain ⟨rfl,hr⟩:=hd
          obtain ⟨E2,m1,m2,m3,m4⟩:=adoptA rs h hq (fun b hb=>hO b (List.mem_append_right _ hb)) hT hnd'.2.1 (fun b hb=>hf b (List.mem_append_right _ hb))
          refine ⟨E2,m1,m2,?_,?_⟩
          · rw [List.flatten_cons,List.nil_append];exact m3
          · rw [List.flatten_cons,List.nil_append];exact m4
theorem partsG_all {L : Nat→Option Nat} {c b0 : Nat} {A0 : Nat→Prop} : ∀ {rs : List Rs} {vs : List Value} {fs : List (List Nat)} {n' c' : Nat},PartsG w E L c rs (resC rs n' c') vs→ResQs w b0 A0 vs rs fs→(∀ b,A0 b→E.A b)→PartsR w E L c (resC rs n' c') vs
  | [],[],_,_,_,_,_,_=>trivial
  | [],_ :: _,_,_,_,_,h,_=>h.elim
  | _ :: _,[],_,_,_,_,h,_=>h.elim
  | _ :: _,_ :: _,[],_,_,_,h,_=>h.elim
  | (b,ds,true) :: rs,v :: vs,f :: fs,n',c',hp,hq,hA=>⟨hp.1,partsG_all hp.2 hq.2 hA⟩
  | (b,ds,false) :: rs,v :: vs,f :: fs,n',c',hp,hq,hA=>by
    obtain ⟨vals,hv,hd⟩:=hq.1
    have hd : f = []∧RepL w A0 vals ds:=hd
    exact ⟨part_mk hv (CellsR.ofRep (hd.2.mono hA)),partsG_all hp hq.2 hA⟩
end
end Go.Proofs.Ytboheedjhnbnhaa
namespace Go.Proofs.Ytboheedjhnbnhaa
open Go.RowKit
section
variable {P : Program} {w0 : Cx} {w w' : World} {N : Nat} {s : AS} {a : Act} {E : En} {o : Oper}
theorem RepE.wrote (h : RepE w0 N s a w E) {g : List Nat} (hw : Wrote w w' g) (hg : ∀ b ∈ g,¬ E.A b∧w0.fr b∧∀ j,j < s.n→b ∉ E.m j) : RepE w0 N s a w' E:=by
  have hstay : Stay w E s.lv s.c w' E s.lv s.c:=⟨fun b hb=>⟨hb,hw.block b (h.A_lt b hb) fun hbg=>(hg b hbg).1 hb⟩,fun i st _ hl=>⟨hl,rfl⟩,Nat.le_refl _⟩
  exact ⟨h.size,h.defers,⟨hw.os.trans h.bel.os,hw.tape.trans h.bel.tape,hw.output.trans h.bel.output,Nat.le_trans h.bel.size hw.size,fun b hb=>(hw.block b (Nat.lt_of_lt_of_le (Cx.lt hb) h.bel.size) (fun hbm=>hb (hg b hbm).2.1)).trans (h.bel.block b hb)⟩,
    fun i hi=>(h.obj i hi).stay hstay rfl rfl rfl (fun b hbm=>hw.block b (h.m_lt i hi b hbm) fun hbg=>(hg b hbg).2.2 i hi hbm) (fun b hbo=>h.A_o i hi b hbo),
    fun t=>(h.slot t).stay hstay,fun b hb=>Nat.lt_of_lt_of_le (h.A_lt b hb) hw.size,h.A_m,h.A_o,h.mm,h.oo,fun i hi b hbm=>Nat.lt_of_lt_of_le (h.m_lt i hi b hbm) hw.size,h.anc,h.mF,h.oF⟩
theorem tops_sub {b0 : Nat} {A0 : Nat→Prop} : ∀ {rs : List Rs} {vs : List Value} {fs : List (List Nat)},ResQs w b0 A0 vs rs fs→∀ b ∈ topsL rs vs,b ∈ fs.flatten
  | [],[],_,_=>by intro b hb;simp [topsL] at hb
  | [],_ :: _,_,h=>h.elim
  | _ :: _,[],_,h=>h.elim
  | _ :: _,_ :: _,[],h=>h.elim
  | (b',ds,true) :: rs,v :: vs,f :: fs,h=>by
    intro b hb
    obtain ⟨vals,hv,hd⟩:=h.1
    rw [List.flatten_cons]
    simp only [topsL,valsV_of hv] at hb
    rcases List.mem_append.1 hb with hb | hb
    · obtain ⟨u,hu,hb⟩:=List.mem_flatMap.1 hb
      exact List.mem_append_left _ (ownL_top (show OwnL w b0 vals ds f from hd) u hu b hb)
    · exact List.mem_append_right _ (tops_sub h.2 b hb)
  | (b',ds,false) :: rs,v :: vs,f :: fs,h=>by
    intro b hb
    rw [List.flatten_cons]
    exact List.mem_append_right _ (tops_sub h.2 b hb)
structure TakeP (w0 : Cx) (N : Nat) (s s' : AS) (a : Act) (w : World) (E : En) (us : List Value) (ds : List DV) (E' : En) (f : List Nat) : Prop where
  rep : RepE w0 N s' a w E'
  own : OwnL w 0 us ds f
  A' : E'.A = E.A
  v : E'.v = E.v
  m' : ∀ i,∀ b ∈ E'.m i,b ∈ E.m i
  o' : ∀ i,∀ b ∈ E'.o i,b ∈ E.o i
  from_ : ∀ b ∈ f,∃ j,j < s.n∧(b ∈ E.m j ∨ b ∈ E.o j)
  nm : ∀ b ∈ f,∀ j,j < s.n→b ∉ E'.m j∧b ∉ E'.o j
  top : ∀ b ∈ f,b ∈ topsU us ∨ E.A b
  tm : ∀ b ∈ topsU us,∃ j,j < s.n∧b ∈ E.m j
def Takes (s s' : AS) (xs : List AC) (ds : List DV) : Prop :=
  s'.n = s.n∧s'.c = s.c∧s'.sl = s.sl∧(∀ i st,s'.lv i = some st→s.lv i = some st) ∧
    ∀ w0 N a w E us,RepE w0 N s a w E→CellsR w E s.lv s.c xs us→∃ E' f,TakeP w0 N s s' a w E us ds E' f
theorem take_nil : Takes s s [] [] :=
  ⟨rfl,rfl,rfl,fun _ _ h=>h,fun w0 N a w E us h hc=>⟨E,[],h,by rw [hc.nil'];exact .nil,rfl,rfl,fun _ _ h=>h,fun _ _ h=>h,by simp,by simp,by simp,by rw [hc.nil'];simp [topsU]⟩⟩
theorem take_sc {s' : AS} {v : Value} {xs : List AC} {ds : List DV} (h : Takes s s' xs ds) : Takes s s' (.d (.sc v) :: xs) (.sc v :: ds):=by
  obtain ⟨h1,h2,h3,h4,h5⟩:=h
  refine ⟨h1,h2,h3,h4,fun w0 N a w E us hr hc=>?_⟩
  obtain ⟨u,us,rfl,c1,c2⟩:=hc.cons'
  obtain ⟨E',f,hg⟩:=h5 w0 N a w E us hr c2
  obtain ⟨rfl,hs⟩:=RepL.scOf c1
  have e : topsU (u :: us) = topsU us:=by
    cases u <;> simp [Sc,topsU,Value.ownBlock] at hs ⊢
  exact ⟨E',f,hg.rep,.sc hs hg.own,hg.A',hg.v,hg.m',hg.o',hg.from_,hg.nm,by rw [e];exact hg.top,by rw [e];exact hg.tm⟩
theorem take_nilS {s' : AS} {t k : Nat} {xs : List AC} {ds : List DV} (hk : 0 < k) (h : Takes s s' xs ds) : Takes s s' (.nil :: xs) (.sl t k [] :: ds):=by
  obtain ⟨h1,h2,h3,h4,h5⟩:=h
  refine ⟨h1,h2,h3,h4,fun w0 N a w E us hr hc=>?_⟩
  obtain ⟨u,us,rfl,c1,c2⟩:=hc.cons'
  obtain ⟨E',f,hg⟩:=h5 w0 N a w E us hr c2
  obtain rfl : u = .slice none 0 0:=c1
  have e : topsU (.slice none 0 0 :: us) = topsU us:=by simp [topsU,Value.ownBlock]
  refine ⟨E',f,hg.rep,?_,hg.A',hg.v,hg.m',hg.o',hg.from_,hg.nm,by rw [e];exact hg.top,by rw [e];exact hg.tm⟩
  have:=OwnL.sl (v:=.slice none 0 0) (t:=t) (k:=k) (es:=[]) (cells:=[]) (g:=[]) (World.ownsRow_nil _ _ _ _) hk (by simp) .nil hg.own (by simpa [Value.ownBlock] using hg.own.nodup)
  simpa [Value.ownBlock] using this
theorem take_own {s' : AS} {i st t k : Nat} {es : List (List DV)} {xs : List AC} {ds : List DV} (hi : s.own? i st = some (.row st t k es true)) (h : Takes (s.kill i) s' xs ds) : Takes s s' (.own i st :: xs) (.sl t k es :: ds):=by
  obtain ⟨h1,h2,h3,h4,h5⟩:=h
  refine ⟨h1,h2,h3,fun j st hl=>kill_lv j st (h4 j st hl),fun w0 N a w E us hr hc=>?_⟩
  obtain ⟨u,us,rfl,c1,c2⟩:=hc.cons'
  obtain ⟨hin,hob,hlv⟩:=own?_some hi
  have hu : u = E.v i:=c1.2 hlv
  subst hu
  have hO:=hr.obj i hin
  rw [hob] at hO
  obtain ⟨cells,hst,g1,g2,g3,g4,g5⟩:=hO
  simp only [if_pos] at g5
  have hown : OwnL w 0 [E.v i] [.sl t k es] (E.m i ++ E.o i):=by
    have:=OwnL.sl (vs:=[]) (ds:=[]) (f:=[]) g1 g2 g3 g5 .nil (by
      rw [List.append_nil,← g4]
      refine List.nodup_append.2 ⟨?_,g5.nodup,fun b hb b' hb' e=>?_⟩
      · rw [g4];cases (E.v i).ownBlock <;> simp
      · subst e;exact hr.A_m b (hr.A_o i hin b hb') i hin hb)
    rwa [List.append_nil,← g4] at this
  have k1:=kill_ok hr hin
  have ev : upd E.v i (E.v i) = E.v:=by
    funext j;by_cases e : j = i
    · subst e;simp only [upd_same]
    · simp only [upd_ne _ _ e]
  have c2' : CellsR w ⟨upd E.v i (E.v i),upd E.m i [],upd E.o i [],E.A⟩ (s.kill i).lv (s.kill i).c xs us :=
    c2.stay ⟨fun b hb=>⟨hb,rfl⟩,fun j st _ hl=>⟨kill_lv j st hl,by simp only [ev]⟩,Nat.le_refl _⟩
  obtain ⟨E2,f,hg⟩:=h5 w0 N a w _ us k1 c2'
  have dm : ∀ j,∀ b ∈ upd E.m i [] j,j ≠ i∧b ∈ E.m j:=by
    intro j b hb;by_cases e : j = i
    · subst e;simp [upd_same] at hb
    · exact ⟨e,by simpa only [upd_ne _ _ e] using hb⟩
  have dO : ∀ j,∀ b ∈ upd E.o i [] j,j ≠ i∧b ∈ E.o j:=by
    intro j b hb;by_cases e : j = i
    · subst e;simp [upd_same] at hb
    · exact ⟨e,by simpa only [upd_ne _ _ e] using hb⟩
  have dis : ∀ b ∈ E.m i ++ E.o i,∀ j,j < s.n→b ∉ upd E.m i [] j∧b ∉ upd E.o i [] j:=by
    intro b hb j hj
    rcases List.mem_append.1 hb with hb | hb
    · exact ⟨fun h=>by obtain ⟨e,h⟩:=dm j b h;exact hr.mm i j hin hj (Ne.symm e) b hb h,fun h=>by obtain ⟨e,h⟩:=dO j b h;exact hr.A_m b (hr.A_o j hj b h) i hin hb⟩
    · exact ⟨fun h=>by obtain ⟨e,h⟩:=dm j b h;exact hr.A_m b (hr.A_o i hin b hb) j hj h,fun h=>by obtain ⟨e,h⟩:=dO j b h;exact hr.oo i j hin hj (Ne.symm e) b hb h⟩
  have e : topsU (E.v i :: us) = E.m i ++ topsU us:=by simp [topsU,g4]
  refine ⟨E2,(E.m i ++ E.o i) ++ f,hg.rep,hown.app hg.own (fun b hb hbf=>?_),hg.A',hg.v.trans ev,fun j b hb=>(dm j b (hg.m' j b hb)).2,fun j b hb=>(dO j b (hg.o' j b hb)).2,?_,?_,?_,?_⟩
  · obtain ⟨j,hj,hbj⟩:=hg.from_ b hbf
    exact hbj.elim (dis b hb j hj).1 (dis b hb j hj).2
  · intro b hb
    rcases List.mem_append.1 hb with hb | hb
    · exact ⟨i,hin,List.mem_append.1 hb⟩
    · obtain ⟨j,hj,hbj⟩:=hg.from_ b hb
      exact ⟨j,hj,hbj.imp (fun h=>(dm j b h).2) (fun h=>(dO j b h).2)⟩
  · intro b hb j hj
    rcases List.mem_append.1 hb with hb | hb
    · exact ⟨fun h=>(dis b hb j hj).1 (hg.m' j b h),fun h=>(dis b hb j hj).2 (hg.o' j b h)⟩
    · exact hg.nm b hb j hj
  · intro b hb
    rw [e]
    rcases List.mem_append.1 hb with hb | hb
    · rcases List.mem_append.1 hb with hb | hb
      · exact .inl (List.mem_append_left _ hb)
      · exact .inr (hr.A_o i hin b hb)
    · exact (hg.top b hb).imp (fun h=>List.mem_append_right _ h) id
  · intro b hb
    rw [e] at hb
    rcases List.mem_append.1 hb with hb | hb
    · exact ⟨i,hin,hb⟩
    · obtain ⟨j,hj,h⟩:=hg.tm b hb
      exact ⟨j,hj,(dm j b h).2⟩
def TakeA (s0 sF : AS) : List Operand→List Rs→AS→Prop
  | x :: xs,(b,ds,true) :: rs,s=>match s0.ev x with
    | .p b' cs=>b' = b∧∃ s1,Takes s s1 cs ds∧TakeA s0 sF xs rs s1
    | _=>False
  | x :: xs,(b,ds,false) :: rs,s=>match s0.ev x with
    | .p b' cs=>b' = b∧rdL sF cs ds∧TakeA s0 sF xs rs s
    | _=>False
  | [],[],s=>s = sF
  | _,_,_=>False
structure TakeR (w0 : Cx) (N : Nat) (s0 : AS) (E0 : En) (s sF : AS) (a : Act) (w : World) (E : En) (vs : List Value) (rs : List Rs) (E' : En) (fs : List (List Nat)) : Prop where
  rep : RepE w0 N sF a w E'
  q : ResQs w 0 (AM sF E') vs rs fs
  nd : fs.flatten.Nodup
  n : sF.n = s.n
  c : sF.c = s.c
  A' : E'.A = E.A
  stay : Stay w E0 s0.lv s0.c w E' sF.lv sF.c
  m' : ∀ i,∀ b ∈ E'.m i,b ∈ E.m i
  o' : ∀ i,∀ b ∈ E'.o i,b ∈ E.o i
  from_ : ∀ b ∈ fs.flatten,∃ j,j < s.n∧(b ∈ E.m j ∨ b ∈ E.o j)
  nm : ∀ b ∈ fs.flatten,∀ j,j < s.n→b ∉ E'.m j∧b ∉ E'.o j
  top : ∀ b ∈ fs.flatten,b ∈ topsL rs vs ∨ E.A b
  tm : ∀ b ∈ topsL rs vs,∃ j,j < s.n∧b ∈ E.m j
theorem takeA_ok {s0 sF : AS} {E0 : En} (h0 : RepE w0 N s0 a w E0) : ∀ {xs : List Operand} {rs : List Rs} {s : AS} {E : En},TakeA s0 sF xs rs s→RepE w0 N s a w E→Stay w E0 s0.lv s0.c w E s.lv s.c →
    ∃ E' fs,TakeR w0 N s0 E0 s sF a w E (xs.map a.eval) rs E' fs
  | [],[],s,E,ht,h,hst=>by
    have ht : s = sF:=ht
    subst ht
    exact ⟨E,[],h,trivial,by simp,rfl,rfl,rfl,hst,fun _ _ h=>h,fun _ _ h=>h,by simp,by simp,by simp,by simp [topsL]⟩
  | [],_ :: _,_,_,ht,_,_=>ht.elim
  | x :: xs,[],_,_,ht,_,_=>ht.elim
  | x :: xs,(b,ds,true) :: rs,s,E,ht,h,hst=>by
    simp only [TakeA] at ht
    split at ht
    · rename_i b' cs he
      obtain ⟨rfl,s1,⟨t1,t2,t3,t4,t5⟩,ht⟩:=ht
      have hev:=ev_ok h0 x
      rw [he] at hev
      obtain ⟨vals,hp,hcell⟩:=part_get hev
      obtain ⟨E1,f,hg⟩:=t5 w0 N a w E vals h (hcell.stay hst)
      have hst' : Stay w E0 s0.lv s0.c w E1 s1.lv s1.c:=by
        refine ⟨fun b hb=>⟨by rw [hg.A'];exact (hst.A b hb).1,rfl⟩,fun i st hlt hl=>?_,by rw [t2];exact hst.c⟩
        obtain ⟨k1,k2⟩:=hst.L i st hlt (t4 i st hl)
        exact ⟨k1,by rw [hg.v];exact k2⟩
      obtain ⟨E2,fs,r⟩:=takeA_ok h0 ht hg.rep hst'
      have etop : topsL ((b',ds,true) :: rs) (a.eval x :: xs.map a.eval) = topsU vals ++ topsL rs (xs.map a.eval):=by simp only [topsL,valsV_of hp]
      refine ⟨E2,f :: fs,r.rep,⟨⟨vals,hp,hg.own⟩,r.q⟩,?_,r.n.trans t1,r.c.trans t2,r.A'.trans hg.A',r.stay,fun i b hb=>hg.m' i b (r.m' i b hb),fun i b hb=>hg.o' i b (r.o' i b hb),?_,?_,?_,?_⟩
      · rw [List.flatten_cons]
        refine List.nodup_append.2 ⟨hg.own.nodup,r.nd,fun y hy z hz e=>?_⟩
        subst e
        obtain ⟨j,hj,hbj⟩:=r.from_ y hz
        rw [t1] at hj
        exact hbj.elim (hg.nm y hy j hj).1 (hg.nm y hy j hj).2
      · intro y hy
        rw [List.flatten_cons] at hy
        rcases List.mem_append.1 hy with hy | hy
        · exact hg.from_ y hy
        · obtain ⟨j,hj,hbj⟩:=r.from_ y hy
          exact ⟨j,by rw [t1] at hj;exact hj,hbj.imp (hg.m' j y) (hg.o' j y)⟩
      · intro y hy j hj
        rw [List.flatten_cons] at hy
        rcases List.mem_append.1 hy with hy | hy
        · exact ⟨fun h=>(hg.nm y hy j hj).1 (r.m' j y h),fun h=>(hg.nm y hy j hj).2 (r.o' j y h)⟩
        · exact r.nm y hy j (by rw [t1];exact hj)
      · intro y hy
        rw [List.flatten_cons] at hy
        rw [List.map_cons,etop]
        rcases List.mem_append.1 hy with hy | hy
        · exact (hg.top y hy).imp (fun h=>List.mem_append_left _ h) id
        · exact (r.top y hy).imp (fun h=>List.mem_append_right _ h) (fun h=>by rw [← hg.A'];exact h)
      · intro y hy
        rw [List.map_cons,etop] at hy
        rcases List.mem_append.1 hy with hy | hy
        · exact hg.tm y hy
        · obtain ⟨j,hj,hb⟩:=r.tm y hy
          exact ⟨j,by rw [t1] at hj;exact hj,hg.m' j y hb⟩
    · exact ht.elim
  | x :: xs,(b,ds,false) :: rs,s,E,ht,h,hst=>by
    simp only [TakeA] at ht
    split at ht
    · rename_i b' cs he
      obtain ⟨rfl,hrd,ht⟩:=ht
      have hev:=ev_ok h0 x
      rw [he] at hev
      obtain ⟨vals,hp,hcell⟩:=part_get hev
      obtain ⟨E2,fs,r⟩:=takeA_ok h0 ht h hst
      exact ⟨E2,[] :: fs,r.rep,⟨⟨vals,hp,rfl,rdL_ok r.rep (hcell.stay r.stay) hrd⟩,r.q⟩,by rw [List.flatten_cons];exact r.nd,r.n,r.c,r.A',r.stay,r.m',r.o',by rw [List.flatten_cons];exact r.from_,by rw [List.flatten_cons];exact r.nm,
        by rw [List.flatten_cons];exact r.top,r.tm⟩
    · exact ht.elim
theorem st_callG {f : FuncId} {args : Array Operand} {ts : Array TypeId} {rs res : List Rs} {sF : AS} (ho : o.op = .call ⟨.value (.func f),args,ts⟩) (hd : dB N o.dst = true) (hm : MeetsG P f rs res) (ht : TakeA s sF args.toList rs s) :
    OStep P N o s ((sF.pushL (resO false res sF.c)).put o.dst (resAV res sF.n sF.c)):=by
  intro w0 a w E h
  obtain ⟨hc,hdp,hm⟩:=hm
  obtain ⟨E1,fs,r⟩:=takeA_ok h ht h Stay.refl
  have hts:=tops_sub r.q
  have hB : ∀ b,AM sF E1 b→b < w.heap.size∧b ∉ topsL rs (args.toList.map a.eval):=by
    intro b hb
    refine ⟨?_,fun hbt=>?_⟩
    · rcases hb with hb | ⟨j,hj,hjd,hb⟩
      · exact r.rep.A_lt b hb
      · exact r.rep.m_lt j hj b hb
    · rcases hb with hb | ⟨j,hj,hjd,hb⟩
      · obtain ⟨j,hj,h1⟩:=r.tm b hbt
        exact h.A_m b (by rw [← r.A'];exact hb) j hj h1
      · exact (r.nm b (hts b hbt) j (by rw [← r.n];exact hj)).1 hb
  unfold Oper.wp
  rw [run_call ho hc,Oper.upon_enter]
  refine (hm w _ _ fs hB r.q r.nd (fun b hb=>(r.top b hb).imp id fun h=>.inl (by rw [r.A'];exact h))).mono ?_
  rintro e w' ⟨v,rfl,hw,us,fs',hv,hq,hnd,hfg,htg⟩
  simp only
  have htf : ∀ b ∈ topsL rs (args.toList.map a.eval),¬ E1.A b∧w0.fr b∧∀ j,j < sF.n→b ∉ E1.m j:=by
    intro b hb
    obtain ⟨j,hj,h1⟩:=r.tm b hb
    exact ⟨fun hA=>h.A_m b (by rw [← r.A'];exact hA) j hj h1,h.mF j hj b h1,fun j hj=>(r.nm b (hts b hb) j (by rw [← r.n];exact hj)).1⟩
  have hrep:=r.rep.wrote hw htf
  obtain ⟨E2,q1,q2,q3,-⟩:=adoptA res hrep hq (fun b hb=>by
    rcases hfg b hb with h6 | h6
    · obtain ⟨j,hj,h1⟩:=r.from_ b h6
      refine ⟨h1.elim (fun h2=>w0.how _ (h.mF j hj b h2)) (h.oF j hj b),?_⟩
      rcases r.top b h6 with h7 | h7
      · exact .inr (htf b h7).2.1
      · exact h.anc b h7
    · have:=w0.hfr b (Nat.le_trans h.bel.size h6)
      exact ⟨w0.how _ this,.inr this⟩) (fun b hb=>(htg b hb).elim (fun h6=>(htf b h6).2.1) fun h6=>w0.hfr b (Nat.le_trans h.bel.size h6)) hnd (fun b hb=>by
    refine ⟨fun hbt hA=>?_,fun j hj=>?_⟩
    · rcases htg b hbt with h6 | h6
      · exact (htf b h6).1 hA
      · have:=r.rep.A_lt b hA;omega
    · rcases hfg b hb with h6 | h6
      · exact r.nm b h6 j (by rw [← r.n];exact hj)
      · refine ⟨fun hm=>?_,fun hm=>?_⟩
        · have:=r.rep.m_lt j hj b hm;omega
        · have:=r.rep.A_lt b (r.rep.A_o j hj b hm);omega)
  exact ⟨E2,q1.put (resAV_ok (partsG_all q2 hq (fun _ h=>h.elim)) hv) (dB_ok hd)⟩
def mkRs : List Bool→List (Bool × List DV)→List Rs
  | g :: gs,(b,ds) :: ys=>(b,ds,g) :: mkRs gs ys
  | _,_=>[]
def bitsL : Nat→Nat→List Bool
  | 0,_=>[]
  | n + 1,b=>(b % 2 == 1) :: bitsL n (b / 2)
end
end Go.Proofs.Ytboheedjhnbnhaa
namespace Go.Proofs.Ytboheedjhnbnhaa
open Go.RowKit
def cvD (t : TypeId) (x : DV) (cs : List DV) : DV:=.sl t 0 [[x],cs]
theorem RepL.flat {w w' : World} {A B : Nat→Prop} {vs : List Value} {ds : List DV} (h : RepL w A vs ds) (hf : Flat ds) : RepL w' B vs ds:=by
  induction h with
  | nil=>exact .nil
  | sc h1 _ ih=>exact .sc h1 (ih fun d hd=>hf d (List.mem_cons_of_mem _ hd))
  | sl0=>obtain ⟨v,hv⟩:=hf _ (List.mem_cons_self ..);cases hv
  | sl=>obtain ⟨v,hv⟩:=hf _ (List.mem_cons_self ..);cases hv
theorem CurR.mono {w : World} {A B : Nat→Prop} {g : Nat} {u : Value} {t : TypeId} {x : DV} {cs : List DV} (h : CurR w A g u t x cs) (hA : ∀ b,A b→B b) : CurR w B g u t x cs:=by
  obtain ⟨vals,h1,h2,h3,h4⟩:=h
  exact ⟨vals,h1,h2.mono hA,h3.mono hA,h4⟩
def RetC (w : World) (B : Nat→Prop) (g : Nat) (u : Value) (t : TypeId) (x : DV) (res : List Rs) (cs' : List DV) (e : Ending) (w' : World) : Prop :=
  ∃ v,e = .returned v∧Wrote w w' [g]∧(∃ (us : List Value) (fs : List (List Nat)),(if res.length = 1 then us = [v] else v = .tuple us.toArray)∧ResQs w' w.heap.size (fun _=>False) us res fs∧fs.flatten.Nodup)∧CurR w' B g u t x cs'
def MeetsC (P : Program) (f : FuncId) (t : TypeId) (x : DV) (cs : List DV) (args : List (Bool × List DV)) (res : List Rs) (cs' : List DV) : Prop :=
  callable P f = true∧(∀ r ∈ res,r.2.2 = true)∧∀ (w : World) (B : Nat→Prop) (g : Nat) (u : Value) (vs : List Value),(∀ b,B b→b < w.heap.size∧b ≠ g)→g < w.heap.size→CurR w B g u t x cs→ArgsR w B vs args →
    Calls P f (.pointer (some ⟨g,0,none⟩) :: vs).toArray w (RetC w B g u t x res cs')
def MeetsN (P : Program) (f : FuncId) (args : List (Bool × List DV)) (t : TypeId) (x : DV) (cs' : List DV) : Prop :=
  callable P f = true∧∀ (w : World) (B : Nat→Prop) (vs : List Value),(∀ b,B b→b < w.heap.size)→ArgsR w B vs args →
    Calls P f vs.toArray w fun e w'=>∃ g u,e = .returned (.pointer (some ⟨g,0,none⟩))∧w.heap.size≤g∧g < w'.heap.size∧Below w.heap.size w w'∧CurR w' (fun b=>B b ∨ (w.heap.size≤b∧b < w'.heap.size∧b ≠ g)) g u t x cs'
section
variable {P : Program} {w0 : Cx} {w w' : World} {N : Nat} {s : AS} {a : Act} {E : En} {o : Oper}
theorem st_callC {f : FuncId} {X : Operand} {xs : List Operand} {args : Array Operand} {ts : Array TypeId} {i st : Nat} {id : Bool} {t : TypeId} {x : DV} {cs cs' : List DV} {ys : List (Bool × List DV)} {res : List Rs} (ho : o.op = .call ⟨.value (.func f),args,ts⟩) (hargs : args.toList = X :: xs) (hd : dB N o.dst = true)
    (hm : MeetsC P f t x cs ys res cs') (hX : s.ev X = .p false [.own i st]) (hi : s.own? i st = some (.cur st id t x cs)) (har : argsRd (s.kill i) xs ys) :
    OStep P N o s ((AS.pushL { s with ob:=upd s.ob i (.cur st id t x cs') } (resO false res s.c)).put o.dst (resAV res s.n s.c)):=by
  intro w0 a w E h
  obtain ⟨hc,hdp,hm⟩:=hm
  obtain ⟨hin,hob,hlv⟩:=own?_some hi
  have hO:=h.obj i hin
  rw [hob] at hO
  obtain ⟨g,u,hst,ev,em,eo,hid,vals,c1,c2,c3,c4⟩:=hO
  have hk:=kill_ok h hin
  have hgm : g ∈ E.m i:=by rw [em];simp
  have hB : ∀ b,AM (s.kill i) ⟨upd E.v i (E.v i),upd E.m i [],upd E.o i [],E.A⟩ b→b < w.heap.size∧b ≠ g:=by
    intro b hb
    rcases hb with hb | ⟨j,hj,hjd,hb⟩
    · exact ⟨h.A_lt b hb,fun e=>h.A_m b hb i hin (by rw [em,e];simp)⟩
    · by_cases e : j = i
      · subst e;simp [upd_same] at hb
      · simp only [upd_ne _ _ e] at hb
        exact ⟨h.m_lt j hj b hb,fun e'=>h.mm j i hj hin e b hb (by rw [em,e'];simp)⟩
  have hu : a.eval X = .pointer (some ⟨g,0,none⟩):=by
    have:=ev_ok h X
    rw [hX] at this
    rw [(slot_one this).2 hlv,ev]
  unfold Oper.wp
  rw [run_call ho hc,Oper.upon_enter,hargs,List.map_cons,hu]
  refine (hm w _ g u _ hB (h.m_lt i hin g hgm) ⟨vals,c1,c2.mono fun b hb=>Or.inl hb,c3.flat c4,c4⟩ (argsRd_ok hk har)).mono ?_
  rintro e w' ⟨v,rfl,hw,⟨us,fs,hv,hq,hnd⟩,vals',d1,d2,d3,d4⟩
  simp only
  have hsame : ∀ b,b < w.heap.size→b ≠ g→w'.heap[b]? = w.heap[b]?:=fun b hb hn=>hw.block b hb (by simpa using hn)
  have hrep : RepE w0 N { s with ob:=upd s.ob i (.cur st id t x cs') } a w' ⟨upd E.v i (E.v i),upd E.m i (E.m i),upd E.o i [],E.A⟩ :=
    h.change (i:=i) (n':=s.n) (X:=.cur st id t x cs') (v':=E.v i) (m':=E.m i) (o':=[]) (A':=E.A) (c':=s.c) (Nat.le_refl _) (fun j hj _=>hj) hin
      ⟨hw.os.trans h.bel.os,hw.tape.trans h.bel.tape,hw.output.trans h.bel.output,Nat.le_trans h.bel.size hw.size,fun b hb=>(hsame b (Nat.lt_of_lt_of_le (Cx.lt hb) h.bel.size) (fun e=>hb (h.mF i hin b (by rw [em,e];simp)))).trans (h.bel.block b hb)⟩
      hw.size (fun b hb hbm=>hsame b hb (fun e=>hbm hin (by rw [em,e];simp))) (Nat.le_refl _) (.inl ⟨hin,by rw [hob];rfl,rfl⟩) (fun _ hb=>hb) (fun _ hb=>.inl hb)
      (fun b hb=>⟨Nat.lt_of_lt_of_le (h.A_lt b hb) hw.size,h.A_m b hb i hin,fun j hj _=>h.A_m b hb j hj⟩) (fun b hb=>⟨Nat.lt_of_lt_of_le (h.m_lt i hin b hb) hw.size,fun j hj hne=>h.mm i j hin hj (Ne.symm hne) b hb⟩) (by simp) (by
        rintro s' rfl E' rfl hstay
        refine ⟨g,u,hst,by simp only [upd_same];exact ev,by simp only [upd_same];exact em,by simp only [upd_same],hid,vals',d1,?_,d3.flat d4,d4⟩
        exact c2.keep fun b hb=>hsame b (h.A_lt b hb) (fun e=>h.A_m b hb i hin (by rw [em,e];simp))) (h.mF i hin)
  obtain ⟨E2,q1,q2,q3⟩:=adoptRs (X:=false) (b0:=w.heap.size) h.bel.size res hrep (A0:=fun _=>False) (fun _ h=>h.elim) hq hnd (fun b hb=>by
    have hge:=resQs_ge hq b hb
    refine ⟨fun hA=>by have:=h.A_lt b hA;omega,fun j hj=>?_⟩
    by_cases e : j = i
    · subst e
      simp only [upd_same]
      exact ⟨fun hm=>by have:=h.m_lt j hin b hm;omega,by simp⟩
    · simp only [upd_ne _ _ e]
      exact ⟨fun hm=>by have:=h.m_lt j hj b hm;omega,fun hm=>by have:=h.A_lt b (h.A_o j hj b hm);omega⟩)
  exact ⟨E2,q1.put (resAV_ok q2 hv) (dB_ok hd)⟩
theorem st_callN {f : FuncId} {args : Array Operand} {ts : Array TypeId} {t : TypeId} {x : DV} {cs' : List DV} {ys : List (Bool × List DV)} (ho : o.op = .call ⟨.value (.func f),args,ts⟩) (hd : dB N o.dst = true) (hm : MeetsN P f ys t x cs') (har : argsRdF s args.toList ys) :
    OStep P N o s ((s.push (.cur s.c false t x cs')).put o.dst (.p false [.own s.n s.c])):=by
  intro w0 a w E h
  unfold Oper.wp
  rw [run_call ho hm.1,Oper.upon_enter]
  refine (hm.2 w E.A _ h.A_lt (argsRdF_ok h har)).mono ?_
  rintro e w' ⟨g,u,rfl,hg1,hg2,hb,hcur⟩
  simp only
  have h0:=h.world hb (A':=fun b=>E.A b ∨ (w.heap.size≤b∧b < w'.heap.size∧b ≠ g)) (fun b hb=>.inl hb) (fun b hb=>hb.imp id fun hb=>⟨hb.1,hb.2.1⟩)
  have h1:=h0.pushOb (X:=.cur s.c false t x cs') (v':=.pointer (some ⟨g,0,none⟩)) (m':=[g]) (o':=[]) rfl (Below.refl _ _) (fun b hbm=>by
      simp at hbm;subst hbm
      exact ⟨hg2,fun hA=>hA.elim (fun hA=>by have:=h.A_lt _ hA;omega) (fun hA=>hA.2.2 rfl),fun j hj hm=>by have:=h.m_lt j hj _ hm;omega⟩) (by simp) (by simp) (by
      rintro E' rfl hstay
      refine ⟨g,u,by exact Nat.lt_succ_self _,?_,?_,?_,fun h=>by (cases h),hcur.mono fun b hb=>.inl hb⟩
      · exact upd_same _ _ _
      · exact upd_same _ _ _
      · exact upd_same _ _ _) (fun b hbm=>by simp at hbm;subst hbm;exact w0.hfr _ (Nat.le_trans h.bel.size hg1))
  exact ⟨_,h1.put (slot_one_mk ⟨by exact Nat.lt_succ_self _,fun _=>(upd_same _ _ _).symm⟩) (dB_ok hd)⟩
end
inductive MeetsX (P : Program) : Nat→List (Bool × List DV)→List Rs→Prop
  | n {f ys res} : Meets P f ys res→MeetsX P f ys res
  | p {f ys res} : MeetsP P f ys res→MeetsX P (1000000 + f) ys res
  | c {f t x cs ys res cs'} : MeetsC P f t x cs ys res cs'→MeetsX P (2000000 + f) ((false,[cvD t x cs]) :: ys) (res ++ [(false,[cvD t x cs'],true)])
  | w {f ys t x cs'} : MeetsN P f ys t x cs'→MeetsX P (3000000 + f) ys [(false,[cvD t x cs'],true)]
  | g {f bits ys res} : MeetsG P f (mkRs (bitsL ys.length bits) ys) res→MeetsX P ((4 + bits) * 1000000 + f) ys res
theorem MeetsX.plain {P : Program} {f : Nat} {ys : List (Bool × List DV)} {res : List Rs} (h : MeetsX P f ys res) (hf : f < 1000000) : Meets P f ys res:=by
  cases h with
  | n h=>exact h
  | p h=>omega
  | c h=>omega
  | w h=>omega
  | g h=>omega
end Go.Proofs.Ytboheedjhnbnhaa
namespace Go.Proofs.Ytboheedjhnbnhaa
open Go.RowKit
def ren (σ : Nat→Nat) (o : Oper) : Oper:={ o with after:=o.after.map (fun e=>{ e with on:=σ e.on }),guard:=o.guard.map fun g=>(σ g.1,g.2) }
structure Pm (σ : Nat→Nat) (n : Nat) (l l' : List Oper) : Prop where
  len : l.length = n
  len' : l'.length = n
  lt : ∀ i,i < n→σ i < n
  inj : ∀ i j,i < n→j < n→σ i = σ j→i = j
  sur : ∀ j,j < n→∃ i,i < n∧σ i = j
  op : ∀ (i : Nat) (o : Oper),l[i]? = some o→l'[σ i]? = some (ren σ o)
  ok : ∀ (i : Nat) (o : Oper),l[i]? = some o→(∀ e ∈ o.after,e.on < n)∧∀ (j : Nat) (b : Bool),o.guard = some (j,b)→j < n
def LR (σ : Nat→Nat) (n : Nat) (a b : Array Bool) : Prop:=a.size = n∧b.size = n∧∀ i,i < n→∀ d,b.getD (σ i) d = a.getD i d
section
variable {P : Program} {md : Region.Mode} {Q : Exit→Act→World→Prop} {l l' : List Oper} {σ : Nat→Nat} {n : Nat}
theorem yielded_perm (hp : Pm σ n l l') {j : Nat} (hj : j < n) (t : Array Value) : yielded l'.toArray t (σ j) = yielded l.toArray t j:=by
  obtain ⟨o,ho⟩ : ∃ o,l[j]? = some o:=⟨_,List.getElem?_eq_getElem (by rw [hp.len];exact hj)⟩
  have h1 : l'.toArray[σ j]? = some (ren σ o):=by simpa using hp.op j o ho
  have h2 : l.toArray[j]? = some o:=by simpa using ho
  unfold yielded
  rw [h1,h2]
  rfl
theorem wpOp_perm (hp : Pm σ n l l') {i : Nat} (hi : i < n) {K : Act→World→Prop} {a : Act} {w : World} : wpOp P l'.toArray Q (σ i) K a w = wpOp P l.toArray Q i K a w:=by
  obtain ⟨o,ho⟩ : ∃ o,l[i]? = some o:=⟨_,List.getElem?_eq_getElem (by rw [hp.len];exact hi)⟩
  have h1 : l'.toArray[σ i]? = some (ren σ o):=by simpa using hp.op i o ho
  have h2 : l.toArray[i]? = some o:=by simpa using ho
  unfold wpOp
  rw [h1,h2]
  have hw : Region.wanted (ren σ o) (yielded l'.toArray a.tmps) = Region.wanted o (yielded l.toArray a.tmps):=by
    unfold Region.wanted ren
    cases hg : o.guard with
    | none=>rfl
    | some g =>
      obtain ⟨j,b⟩:=g
      have:=yielded_perm hp ((hp.ok i o ho).2 j b hg) a.tmps
      simp only [Option.map_some,this]
  simp only [hw]
  rfl
theorem ready_perm (hp : Pm σ n l l') {a b : Array Bool} (hl : LR σ n a b) {i : Nat} (hi : i < n) : σ i ∈ Region.ready md l'.toArray b ↔ i ∈ Region.ready md l.toArray a:=by
  obtain ⟨o,ho⟩ : ∃ o,l[i]? = some o:=⟨_,List.getElem?_eq_getElem (by rw [hp.len];exact hi)⟩
  have h1 : l'.toArray[σ i]? = some (ren σ o):=by simpa using hp.op i o ho
  have h2 : l.toArray[i]? = some o:=by simpa using ho
  have hok:=(hp.ok i o ho).1
  rw [mem_ready,mem_ready,h1,h2,hl.2.2 i hi true]
  constructor
  · rintro ⟨h0,o',e',hall⟩
    injection e' with e'
    subst e'
    refine ⟨h0,o,rfl,fun e he hb=>?_⟩
    have:=hall { e with on:=σ e.on } (by
      unfold ren
      simp only [Array.mem_map]
      exact ⟨e,he,rfl⟩) hb
    rw [← hl.2.2 e.on (hok e he) false]
    exact this
  · rintro ⟨h0,o',e',hall⟩
    injection e' with e'
    subst e'
    refine ⟨h0,_,rfl,fun e he hb=>?_⟩
    unfold ren at he
    simp only [Array.mem_map] at he
    obtain ⟨e0,he0,rfl⟩:=he
    show b.getD (σ e0.on) false = true
    rw [hl.2.2 e0.on (hok e0 he0) false]
    exact hall e0 he0 hb
theorem ready_lt {a : Array Bool} {i : Nat} (h : i ∈ Region.ready md l.toArray a) : i < l.length:=by
  obtain ⟨-,o,ho,-⟩:=mem_ready.1 h
  have:=(Array.getElem?_eq_some_iff.1 ho).1
  simpa using this
theorem LR.set (hp : Pm σ n l l') {a b : Array Bool} (hl : LR σ n a b) {i : Nat} (hi : i < n) : LR σ n (a.setIfInBounds i true) (b.setIfInBounds (σ i) true):=by
  refine ⟨by simp [hl.1],by simp [hl.2.1],fun j hj d=>?_⟩
  by_cases h : i = j
  · subst h
    have h1 : i < a.size:=by rw [hl.1];exact hi
    have h2 : σ i < b.size:=by rw [hl.2.1];exact hp.lt i hi
    simp [Array.getD,h1,h2]
  · have h3 : σ i ≠ σ j:=fun e=>h (hp.inj i j hi hj e)
    rw [getD_set_ne d h3,getD_set_ne d h]
    exact hl.2.2 j hj d
theorem wpAny_perm (hp : Pm σ n l l') : ∀ (fuel : Nat) (x y : Array Bool) (a : Act) (w : World),LR σ n x y→wpAny P md l'.toArray Q fuel y a w→wpAny P md l.toArray Q fuel x a w
  | 0,x,y,a,w,hl,h=>by
    refine ⟨?_,h.2⟩
    rw [List.eq_nil_iff_forall_not_mem]
    intro i hi
    have hn : i < n:=by rw [← hp.len];exact ready_lt hi
    have:=(ready_perm hp hl hn).2 hi
    rw [h.1] at this
    cases this
  | fuel + 1,x,y,a,w,hl,h=>by
    refine ⟨fun he=>h.1 ?_,fun i hi=>?_⟩
    · rw [List.eq_nil_iff_forall_not_mem]
      intro j hj
      have hn : j < n:=by rw [← hp.len'];exact ready_lt hj
      obtain ⟨i,hi,rfl⟩:=hp.sur j hn
      have:=(ready_perm hp hl hi).1 hj
      rw [he] at this
      cases this
    · have hn : i < n:=by rw [← hp.len];exact ready_lt hi
      have h2:=h.2 (σ i) ((ready_perm hp hl hn).2 hi)
      rw [wpOp_perm hp hn] at h2
      exact wpOp_mono (fun a' w' hk=>wpAny_perm hp fuel _ _ a' w' (hl.set hp hn) hk) h2
theorem LR.start (hp : Pm σ n l l') : LR σ n (Array.replicate n false) (Array.replicate n false):=by
  refine ⟨by simp,by simp,fun i hi d=>?_⟩
  have:=hp.lt i hi
  simp [Array.getD,hi,this]
end
end Go.Proofs.Ytboheedjhnbnhaa

