/- Proved: for every input the law 'FnExactRenameName' returns true and its arguments read behind the call as before: part 2 of its proof. No condition. -/
import Derived.WalkKit
import Derived.Lib.Hide
import Derived.WalkSpells
import Derived.Laws.OwnMore
import Derived.Deep.AppendLies
import Derived.Deep.Draws
import Derived.Maps.AppendAt
import Derived.RegionTactic
import Derived.OwnWalk
import Derived.Below
import Derived.Laws.AppendOwnNone
import Derived.Deep.QuietTactic
import Derived.BigQuiet
import Derived.StillTailTactics
import Derived.Laws.Cells
import Derived.Laws.IdiomCopy
import Derived.ChangeKeysEq
import Derived.Laws.BytesArg
import Derived.Laws.StructEq
import Derived.Laws.Tables
import Derived.Great.BuildSlice
import Derived.StillTail
import Derived.OrdersHeld
import Derived.Test.YtboheedjhnbnhaaExRenameNameQ1
set_option linter.unusedVariables false
set_option linter.unusedSimpArgs false
namespace Go.Proofs.Ytboheedjhnbnhaa
open Go.RowKit
def cpyL {α : Type} (es : List α) (a m b m' : Nat) : List α:=plug a ((es.drop b).take (min m' m)) es
section
variable {P : Program} {w0 : Cx} {w w' : World} {N : Nat} {s : AS} {a : Act} {E : En} {o : Oper}
theorem run_copy {t ty el : TypeId} {i : TypeInfo} {k : Nat} (ht : P.underlying t = some (.slice el)) (hi : P.info? el = some i) (hsz : i.size = k) {X Y : Option Addr} {n c n' c' g off : Nat} {news : List Value}
    (hn : news.length = min n' n * k) (hX : 0 < min n' n→X = some ⟨g,off,none⟩) (hY : 0 < min n' n→∃ ad,Y = some ad∧∀ j u,news[j]? = some u→w.cell? (ad.add j) = some u)
    (hc : ∀ j,j < news.length→(w.cell? ⟨g,off + j,none⟩).isSome = true) (hf : ∀ j,w.frozen? ⟨g,j,none⟩ = false) (h1 : ∀ v ∈ news,v.oneCell' = true) :
    (Builtin.copy_ #[t,t] ty #[.slice X n c,.slice Y n' c']).run P w = .ok (.int .i64 (min n' n : Nat)) (w.setCells g off news):=by
  rcases Nat.eq_zero_or_pos (min n' n) with h0 | h0
  · have hnil : news = []:=List.eq_nil_of_length_eq_zero (by rw [hn,h0,Nat.zero_mul])
    subst hnil
    have hm : Nat.min n' n = 0:=h0
    cases X <;> cases Y <;> simp [Builtin.copy_,run_underlying ht,sizeOf,typeInfo,hi,Builtin.lenOf,hm,Builtin.firstCells,loadCells,loadCellsFrom,storeCells,h0] <;> exact ⟨rfl,rfl⟩
  · obtain rfl:=hX h0
    obtain ⟨ad,rfl,hcl⟩:=hY h0
    have hl:=run_loadCells_list (P:=P) w ad news hcl
    rw [hn] at hl
    have hst:=run_storeCells_cells (P:=P) g off news 0 w (fun j hj=>by simpa using hc j hj) (fun j hj=>hf _) h1
    rw [Nat.add_zero] at hst
    have hm : Nat.min n' n = min n' n:=rfl
    simp [Builtin.copy_,run_underlying ht,sizeOf,typeInfo,hi,hsz,Builtin.lenOf,hm,Builtin.firstCells,hl,hst]
    rfl
theorem flat_cpy {es : List (List DV)} {k lo n lo' n' : Nat} (hk : ∀ e ∈ es,e.length = k) (h1 : lo + n≤es.length) (h2 : lo' + n'≤es.length) :
    (cpyL es lo n lo' n').flatten = plug (lo * k) ((es.flatten.drop (lo' * k)).take (min n' n * k)) es.flatten∧(cpyL es lo n lo' n').length = es.length∧∀ e ∈ cpyL es lo n lo' n',e.length = k:=by
  have hl : ((es.drop lo').take (min n' n)).length = min n' n:=by rw [List.length_take,List.length_drop];omega
  have hfl:=flat_length hk
  have hb : lo' * k + min n' n * k≤es.length * k:=by rw [← Nat.add_mul];exact Nat.mul_le_mul_right _ (by omega)
  have hl2 : ((es.flatten.drop (lo' * k)).take (min n' n * k)).length = min n' n * k:=by rw [List.length_take,List.length_drop,hfl];omega
  refine ⟨?_,?_,?_⟩
  · unfold cpyL plug
    rw [List.flatten_append,List.flatten_append,flat_cut hk,hl,hl2]
    have e1 : (es.take lo).flatten = es.flatten.take (lo * k):=by have:=flat_cut (l:=0) (m:=lo) hk;simpa using this
    have e2 : (es.drop (lo + min n' n)).flatten = es.flatten.drop (lo * k + min n' n * k):=by
      have:=flat_cut (l:=lo + min n' n) (m:=es.length) hk
      rw [List.take_of_length_le (by rw [List.length_drop];omega),List.take_of_length_le (by rw [List.length_drop,hfl];omega),Nat.add_mul] at this
      exact this
    rw [e1,e2]
  · unfold cpyL;rw [plug_len (by rw [hl];omega)]
  · intro e he
    unfold cpyL plug at he
    simp only [List.mem_append] at he
    rcases he with (he | he) | he
    · exact hk e (List.mem_of_mem_take he)
    · exact hk e (List.mem_of_mem_drop (List.mem_of_mem_take he))
    · exact hk e (List.mem_of_mem_drop he)
theorem rep_flat_take {A : Nat→Prop} {vs : List Value} {ds : List DV} (h : OwnL w 0 vs ds []) (n : Nat) : OwnL w 0 (vs.take n) (ds.take n) []∧OwnL w 0 (vs.drop n) (ds.drop n) []:=by
  obtain ⟨f1,f2,e,h1,h2⟩:=h.split n
  obtain ⟨rfl,rfl⟩:=List.append_eq_nil_iff.1 e.symm
  exact ⟨h1,h2⟩
theorem ownL_flat {vs : List Value} {ds : List DV} {f : List Nat} (h : OwnL w 0 vs ds f) (hf : Flat ds) : OwnL w 0 vs ds []:=OwnL.flat h.rep hf
theorem st_copy {X Y : Operand} {t el : TypeId} {k i st lo n lo' n' : Nat} {es : List (List DV)} (ho : o.op = .call ⟨.builtin .copy,#[X,Y],#[t,t]⟩) (hd : ∀ q,o.dst = some q→q < N) (ht : tel P t = some (el,k))
    (hX : s.ev X = .p false [.sub i st k lo n]) (hY : s.ev Y = .p false [.sub i st k lo' n']) (hi : s.own? i st = some (.row st el k es true)) (hfl : Flat es.flatten) :
    OStep P N o s ({ s with ob:=upd s.ob i (.row st el k (cpyL es lo n lo' n') true) }.put o.dst (.p false [.d (.sc (.int .i64 ((min n' n : Nat) : Int)))])):=by
  intro w0 a w E h
  obtain ⟨hin,hob,hlv⟩:=own?_some hi
  have e1:=ev_ok h X;have e2:=ev_ok h Y
  rw [hX] at e1;rw [hY] at e2
  obtain ⟨A,M,cp,B,a1,a2,a3,a4,a5⟩:=(slot_one e1).2 hlv
  obtain ⟨A',M',cp',B',b1,b2,b3,b4,b5⟩:=(slot_one e2).2 hlv
  rw [a1] at b1;injection b1 with b1a b1b b1c;subst b1a b1b b1c
  have hO:=h.obj i hin
  rw [hob] at hO
  obtain ⟨cells,hst,h1,h2,h3,h4,h5⟩:=hO
  simp only [if_pos] at h5
  have h5':=ownL_flat h5 hfl
  rw [a1] at h1 h4
  obtain ⟨A2,c2,hv2,hMe,hmx⟩:=own_shape h1
  injection hv2 with _ hM _
  subst hM
  obtain ⟨hu,hsz⟩:=tel_u ht
  unfold tsz at hsz
  cases hin2 : P.info? el with
  | none=>simp [hin2] at hsz
  | some ie =>
    simp [hin2] at hsz
    have hcl : cells.length = es.length * k:=h1.1
    have hbn : lo' * k + min n' n * k≤es.length * k:=by rw [← Nat.add_mul];exact Nat.mul_le_mul_right _ (by omega)
    have hbn2 : lo * k + min n' n * k≤es.length * k:=by rw [← Nat.add_mul];exact Nat.mul_le_mul_right _ (by omega)
    obtain ⟨q1,q2⟩:=rep_flat_take (A:=fun _=>True) h5' (lo' * k)
    obtain ⟨q3,q4⟩:=rep_flat_take (A:=fun _=>True) q2 (min n' n * k)
    have hnl : ((cells.drop (lo' * k)).take (min n' n * k)).length = min n' n * k:=by rw [List.length_take,List.length_drop,hcl];omega
    obtain ⟨fc1,fc2,fc3⟩:=flat_cpy (lo:=lo) (n:=n) (lo':=lo') (n':=n') h3 a2 b2
    obtain ⟨g,hg⟩ : ∃ g,(0 < min n' n→A = some ⟨g,0,none⟩)∧(0 < min n' n→g ∈ E.m i):=by
      rcases Nat.eq_zero_or_pos (min n' n) with h0 | h0
      · exact ⟨0,fun h=>by omega,fun h=>by omega⟩
      · obtain ⟨g,cap,hv,hb,hlt⟩:=h1.form (by omega)
        injection hv with hv _ _
        exact ⟨g,fun _=>hv,fun _=>by rw [h4,hv];simp [Value.ownBlock]⟩
    obtain ⟨hgA,hgm⟩:=hg
    have hcell : 0 < min n' n→∀ j u,cells[j]? = some u→w.cell? ⟨g,j,none⟩ = some u:=fun h0 j u hu=>by
      have hA:=hgA h0
      subst hA
      have:=h1.cells (g:=g) rfl j u hu
      rwa [add_head] at this
    have hrun:=run_copy (P:=P) (w:=w) (ty:=o.type) hu hin2 hsz (X:=B) (Y:=B') (n:=n) (c:=cp - lo) (n':=n') (c':=cp - lo') (g:=if 0 < min n' n then g else w.heap.size) (off:=lo * k) (news:=(cells.drop (lo' * k)).take (min n' n * k)) hnl
      (fun h0=>by rw [a5 (by omega),hgA h0,if_pos h0,Option.map_some,add_head])
      (fun h0=>⟨⟨g,lo' * k,none⟩,by rw [b5 (by omega),hgA h0,Option.map_some,add_head],fun j u hu=>by
        have hadd : (⟨g,lo' * k,none⟩ : Addr).add j = ⟨g,lo' * k + j,none⟩:=by unfold Addr.add;split <;> simp_all
        rw [hadd]
        refine hcell h0 _ u ?_
        rw [List.getElem?_take] at hu
        split at hu
        · rw [List.getElem?_drop] at hu;exact hu
        · cases hu⟩)
      (fun j hj=>by
        rw [hnl] at hj
        have h0 : 0 < min n' n:=by
          rcases Nat.eq_zero_or_pos (min n' n) with h0 | h0
          · rw [h0] at hj;omega
          · exact h0
        rw [if_pos h0,hcell h0 _ _ (List.getElem?_eq_getElem (by omega))];rfl)
      (fun j=>by
        by_cases h0 : 0 < min n' n
        · rw [if_pos h0]
          have hA:=hgA h0
          subst hA
          exact h1.frozenAt j
        · rw [if_neg h0]
          simp [World.frozen?])
      q3.rep.one
    unfold Oper.wp
    have hrun' : (execOp a.eval o).run P w = .ok (.value (.int .i64 ((min n' n : Nat) : Int))) (w.setCells (if 0 < min n' n then g else w.heap.size) (lo * k) ((cells.drop (lo' * k)).take (min n' n * k))):=by
      simp only [execOp,ho,resolve,invoke,builtin,Sem.run_bind,Sem.run_pure,Result.andThen_ok,List.map_toArray,List.map_cons,List.map_nil,a3,b3,hrun]
    rw [hrun',Oper.upon_value]
    generalize hg' : (if 0 < min n' n then g else w.heap.size) = g' at *
    generalize hnews : (cells.drop (lo' * k)).take (min n' n * k) = news at *
    obtain ⟨k1,k2,k3,k4,k5⟩:=setCells_heap (g:=g') (us:=news) (off:=lo * k) (w:=w)
    have hsame : ∀ b,b ∉ E.m i→b < w.heap.size→(w.setCells g' (lo * k) news).heap[b]? = w.heap[b]?:=fun b hb hlt=>k2 b (fun e=>by
      by_cases h0 : 0 < min n' n
      · rw [if_pos h0] at hg';subst hg' e;exact hb (hgm h0)
      · rw [if_neg h0] at hg';omega)
    have hbel : Bel w0 (w.setCells g' (lo * k) news):=by
      by_cases h0 : 0 < min n' n
      · rw [if_pos h0] at hg';subst hg'
        exact h.bel.setCells (h.mF i hin _ (hgm h0))
      · have : news = []:=List.eq_nil_of_length_eq_zero (by rw [hnl,Nat.eq_zero_of_not_pos h0,Nat.zero_mul])
        subst this;exact h.bel
    have hown : (w.setCells g' (lo * k) news).ownsRow 0 el k (.slice A es.length cp) es.length (plug (lo * k) news cells):=by
      by_cases h0 : 0 < min n' n
      · rw [if_pos h0] at hg';subst hg'
        have hA:=hgA h0
        subst hA
        obtain ⟨p1,p2⟩:=own_setCells news w cells (lo * k) h1
        rw [putAt_eq _ _ _ (by omega)] at p1
        exact p1
      · have : news = []:=List.eq_nil_of_length_eq_zero (by rw [hnl,Nat.eq_zero_of_not_pos h0,Nat.zero_mul])
        subst this
        simpa [plug,World.setCells] using h1
    have hnew : OwnL w 0 (plug (lo * k) news cells) (cpyL es lo n lo' n').flatten []:=by
      rw [fc1]
      unfold plug
      obtain ⟨r1,r2⟩:=rep_flat_take (A:=fun _=>True) h5' (lo * k)
      obtain ⟨r3,r4⟩:=rep_flat_take (A:=fun _=>True) h5' (lo * k + min n' n * k)
      have hdl : ((es.flatten.drop (lo' * k)).take (min n' n * k)).length = min n' n * k:=by rw [List.length_take,List.length_drop,flat_length h3];omega
      rw [hnl,hdl]
      exact (r1.app q3 (by simp)).app r4 (by simp)
    have hch:=h.change (i:=i) (n':=s.n) (X:=.row st el k (cpyL es lo n lo' n') true) (v':=E.v i) (m':=E.m i) (o':=[]) (A':=E.A) (c':=s.c) (w':=w.setCells g' (lo * k) news) (Nat.le_refl _) (fun j hj _=>hj) hin
      hbel (by rw [k1];exact Nat.le_refl _) (fun q hq hm=>hsame q (hm hin) hq) (Nat.le_refl _) (.inl ⟨hin,by rw [hob];rfl,rfl⟩) (fun _ hb=>hb) (fun _ hb=>.inl hb)
      (fun b hb=>⟨by rw [k1];exact h.A_lt b hb,h.A_m b hb i hin,fun j hj _=>h.A_m b hb j hj⟩) (fun b hb=>⟨by rw [k1];exact h.m_lt i hin b hb,fun j hj hne=>h.mm i j hin hj (Ne.symm hne) b hb⟩)
      (by simp) (by
        rintro s'' rfl E' rfl hstay
        refine ⟨_,hst,by simp only [upd_same,fc2,a1];exact hown,h2,fc3,by simp only [upd_same,a1];exact h4,?_⟩
        simp only [if_pos,upd_same]
        exact hnew.keep (by simp)) (h.mF i hin)
    refine ⟨_,hch.put (x:=.p false [.d (.sc (.int .i64 ((min n' n : Nat) : Int)))]) ?_ hd⟩
    exact slot_sc_mk trivial
end
end Go.Proofs.Ytboheedjhnbnhaa
namespace Go.Proofs.Ytboheedjhnbnhaa
open Go.RowKit
def Re (s s' : AS) : Prop:=∀ w0 N a w E,RepE w0 N s a w E→∃ E',RepE w0 N s' a w E'
theorem Re.refl (s : AS) : Re s s:=fun _ _ _ _ E h=>⟨E,h⟩
theorem Re.trans {s t u : AS} (h : Re s t) (k : Re t u) : Re s u:=fun w0 N a w E hr=>by
  obtain ⟨E',h'⟩:=h w0 N a w E hr
  exact k w0 N a w E' h'
def renC (φ : Nat→Nat) : AC→AC
  | .own i st=>.own (φ i) st
  | .ptr i st off=>.ptr (φ i) st off
  | .elt i st k j off=>.elt (φ i) st k j off
  | .sub i st k lo n=>.sub (φ i) st k lo n
  | x=>x
def renV (φ : Nat→Nat) : AV→AV
  | .p b cs=>.p b (cs.map (renC φ))
  | .tup xs=>.tup (xs.map fun x=>(x.1,x.2.map (renC φ)))
  | .und=>.und
def renO (φ : Nat→Nat) : Ob→Ob
  | .var st t cs=>.var st t (cs.map (renC φ))
  | .arr st t k es=>.arr st t k (es.map fun e=>e.map (renC φ))
  | .opn st t k es h=>.opn st t k es (h.map fun q=>(q.1,q.2.1,φ q.2.2.1,q.2.2.2))
  | x=>x
theorem renO_st (φ : Nat→Nat) (x : Ob) : (renO φ x).st = x.st:=by cases x <;> rfl
section
variable {w0 : Cx} {w : World} {E : En} {N : Nat} {s s' : AS} {a : Act}
theorem RepE.reindex (h : RepE w0 N s a w E) {φ : Nat→Nat} (hφ : ∀ i,i < s'.n→φ i < s.n) (inj : ∀ i j,i < s'.n→j < s'.n→φ i = φ j→i = j) (hc : s.c≤s'.c)
    (ho : ∀ i,i < s'.n→s'.ob i = .dead ∨ renO φ (s'.ob i) = s.ob (φ i)) (hs : ∀ t,s'.sl t = .und ∨ renV φ (s'.sl t) = s.sl t) :
    RepE w0 N s' a w ⟨fun i=>E.v (φ i),fun i=>E.m (φ i),fun i=>E.o (φ i),E.A⟩:=by
  have hL : ∀ i st,s'.lv i = some st→s.lv (φ i) = some st:=by
    intro i st hl
    unfold AS.lv at hl ⊢
    split at hl
    · rename_i hi
      rw [if_pos (hφ i hi)]
      rcases ho i hi with e | e
      · rw [e] at hl;cases hl
      · rw [← e,renO_st];exact hl
    · cases hl
  have hC : ∀ (x : AC) (u : Value),CellR w E s.lv s.c (renC φ x) u→CellR w ⟨fun i=>E.v (φ i),fun i=>E.m (φ i),fun i=>E.o (φ i),E.A⟩ s'.lv s'.c x u:=by
    intro x u hx
    cases x with
    | d y=>exact hx
    | nil=>exact hx
    | own i st=>exact ⟨Nat.lt_of_lt_of_le hx.1 hc,fun hl=>hx.2 (hL i st hl)⟩
    | ptr i st off=>exact ⟨Nat.lt_of_lt_of_le hx.1 hc,fun hl=>hx.2 (hL i st hl)⟩
    | elt i st k j off=>exact ⟨Nat.lt_of_lt_of_le hx.1 hc,fun hl=>hx.2 (hL i st hl)⟩
    | sub i st k lo n=>exact ⟨Nat.lt_of_lt_of_le hx.1 hc,fun hl=>hx.2 (hL i st hl)⟩
    | emp=>exact hx
    | rd cs=>exact hx
  have hCs : ∀ (cs : List AC) (us : List Value),CellsR w E s.lv s.c (cs.map (renC φ)) us→CellsR w ⟨fun i=>E.v (φ i),fun i=>E.m (φ i),fun i=>E.o (φ i),E.A⟩ s'.lv s'.c cs us:=by
    intro cs us hx
    refine ⟨by simpa using hx.1,fun j x u h1 h2=>hC x u (hx.2 j _ u (by rw [List.getElem?_map,h1];rfl) h2)⟩
  have hP : ∀ (b : Bool) (cs : List AC) (v : Value),PartR w E s.lv s.c b (cs.map (renC φ)) v→PartR w ⟨fun i=>E.v (φ i),fun i=>E.m (φ i),fun i=>E.o (φ i),E.A⟩ s'.lv s'.c b cs v:=by
    intro b cs v hx
    unfold PartR at hx ⊢
    split
    · rename_i hb;rw [if_pos hb] at hx;obtain ⟨vals,h1,h2⟩:=hx;exact ⟨vals,h1,hCs _ _ h2⟩
    · rename_i hb;rw [if_neg hb] at hx;exact hCs _ _ hx
  refine ⟨h.size,h.defers,h.bel,fun i hi=>?_,fun t=>?_,h.A_lt,fun b hb i hi=>h.A_m b hb _ (hφ i hi),fun i hi=>h.A_o _ (hφ i hi),fun i j hi hj hne=>h.mm _ _ (hφ i hi) (hφ j hj) (fun e=>hne (inj i j hi hj e)),
    fun i j hi hj hne=>h.oo _ _ (hφ i hi) (hφ j hj) (fun e=>hne (inj i j hi hj e)),fun i hi=>h.m_lt _ (hφ i hi),h.anc,fun i hi=>h.mF _ (hφ i hi),fun i hi=>h.oF _ (hφ i hi)⟩
  · have hO:=h.obj (φ i) (hφ i hi)
    rcases ho i hi with e | e
    · rw [e];trivial
    · rw [← e] at hO
      cases hx : s'.ob i with
      | var st t cs =>
        rw [hx] at hO
        obtain ⟨g,vals,h1,h2,h3,h4,h5,h6,h7⟩:=hO
        exact ⟨g,vals,Nat.lt_of_lt_of_le h1 hc,h2,h3,h4,h5,h6,hCs _ _ h7⟩
      | arr st t k es =>
        rw [hx] at hO
        obtain ⟨g,vals,h1,h2,h3,h4,h5,h6,h7,h8,h9,h10⟩:=hO
        rw [List.length_map] at h2 h6
        refine ⟨g,vals,Nat.lt_of_lt_of_le h1 hc,h2,h3,h4,h5,h6,h7,h8,fun e he=>?_,hCs _ _ ?_⟩
        · have:=h9 _ (List.mem_map.2 ⟨e,he,rfl⟩);simpa using this
        · rw [List.map_flatten];exact h10
      | row st t k es deep =>
        rw [hx] at hO
        obtain ⟨cells,h1,h2,h3,h4,h5,h6⟩:=hO
        exact ⟨cells,Nat.lt_of_lt_of_le h1 hc,h2,h3,h4,h5,h6⟩
      | frz st x=>rw [hx] at hO;exact ⟨Nat.lt_of_lt_of_le hO.1 hc,hO.2⟩
      | dx st x=>rw [hx] at hO;exact ⟨Nat.lt_of_lt_of_le hO.1 hc,hO.2⟩
      | cur st id t x cs =>
        rw [hx] at hO
        obtain ⟨g,u,h0,h1,h2,h3,h4,h5⟩:=hO
        exact ⟨g,u,Nat.lt_of_lt_of_le h0 hc,h1,h2,h3,h4,h5⟩
      | opn st t k es q =>
        rw [hx] at hO
        obtain ⟨cells,g,h0,h1,h2,h3,h4,h5,h6,h7,h8⟩:=hO
        have hq : ∀ {α : Type} (x : α) (l : List α),hcut k x (q.map fun q=>(q.1,q.2.1,φ q.2.2.1,q.2.2.2)) l = hcut k x q l:=fun x l=>by cases q <;> rfl
        rw [hq,hq] at h7
        refine ⟨cells,g,Nat.lt_of_lt_of_le h0 hc,h1,h2,h3,h4,h5,h6,h7,fun p hp=>?_⟩
        obtain ⟨a1,a2,a5,a3,a4⟩:=h8 (p.1,p.2.1,φ p.2.2.1,p.2.2.2) (by rw [hp];rfl)
        exact ⟨a1,a2,a5,Nat.lt_of_lt_of_le a3 hc,fun hl=>a4 (hL _ _ hl)⟩
      | dead=>trivial
  · have hS:=h.slot t
    rcases hs t with e | e
    · rw [e];trivial
    · rw [← e] at hS
      cases hx : s'.sl t with
      | p b cs=>rw [hx] at hS;exact hP b cs _ hS
      | tup xs =>
        rw [hx] at hS
        obtain ⟨vs,h1,h2,h3⟩:=hS
        refine ⟨vs,h1,by simpa using h2,fun j b cs u k1 k2=>hP b cs u (h3 j b _ u ?_ k2)⟩
        rw [List.getElem?_map,k1];rfl
      | und=>trivial
theorem Re.reindex {φ : Nat→Nat} (hφ : ∀ i,i < s'.n→φ i < s.n) (inj : ∀ i j,i < s'.n→j < s'.n→φ i = φ j→i = j) (hc : s.c≤s'.c)
    (ho : ∀ i,i < s'.n→s'.ob i = .dead ∨ renO φ (s'.ob i) = s.ob (φ i)) (hs : ∀ t,s'.sl t = .und ∨ renV φ (s'.sl t) = s.sl t) : Re s s' :=
  fun w0 N a w E h=>⟨_,h.reindex hφ inj hc ho hs⟩
end
section
variable {P : Program} {N : Nat} {Q : Exit→AS→Prop} {s s' : AS} {o : Oper}
theorem awp_re {c : Code} (h : Re s s') (k : AWp P N c Q s') : AWp P N c Q s:=fun w0 a w E hr=>by
  obtain ⟨E',h'⟩:=h w0 N a w E hr
  exact k w0 a w E' h'
theorem aops_re {ops : Array Oper} {l : List Oper} (h : Re s s') (k : AOps P N ops l Q s') : AOps P N ops l Q s:=fun w0 a w E hr=>by
  obtain ⟨E',h'⟩:=h w0 N a w E hr
  exact k w0 a w E' h'
theorem OStep.re {s'' : AS} (h : OStep P N o s s') (k : Re s' s'') : OStep P N o s s'':=fun w0 a w E hr =>
  Oper.wp_mono2 (fun a w ⟨E',h'⟩=>k w0 N a w E' h') (h w0 a w E hr)
theorem awp_skip (h : Q .normal s) : AWp P N .skip Q s:=fun w0 a w E hr=>wp_skip ⟨s,E,h,hr⟩
theorem awp_exit {id : Nat} (h : Q (.exit id) s) : AWp P N (.exit id) Q s:=fun w0 a w E hr=>wp_exit ⟨s,E,h,hr⟩
theorem awp_ret (h : Q .ret s) : AWp P N .ret Q s:=fun w0 a w E hr=>wp_ret ⟨s,E,h,hr⟩
def seqQ (P : Program) (N : Nat) (y : Code) (Q : Exit→AS→Prop) : Exit→AS→Prop
  | .normal,s=>AWp P N y Q s
  | e,s=>Q e s
theorem awp_seq {x y : Code} (h : AWp P N x (seqQ P N y Q) s) : AWp P N (.seq x y) Q s:=fun w0 a w E hr=>by
  refine wp_seq (Code.wp_mono (fun e a w he=>?_) (h w0 a w E hr))
  obtain ⟨s',E',h1,h2⟩:=he
  cases e with
  | normal=>exact h1 w0 a w E' h2
  | _=>exact ⟨s',E',h1,h2⟩
theorem awp_block {id : Nat} {x : Code} (h : AWp P N x (blkK id Q) s) : AWp P N (.block id x) Q s:=fun w0 a w E hr=>by
  refine wp_block (Code.wp_mono (fun e a w he=>?_) (h w0 a w E hr))
  obtain ⟨s',E',h1,h2⟩:=he
  cases e with
  | exit id' =>
    simp only [blkK] at h1
    show (if id' = id then AQ w0 N Q .normal _ _ else AQ w0 N Q (.exit id') _ _)
    split
    · rename_i he;rw [if_pos he] at h1;exact ⟨s',E',h1,h2⟩
    · rename_i he;rw [if_neg he] at h1;exact ⟨s',E',h1,h2⟩
  | _=>exact ⟨s',E',h1,h2⟩
theorem awp_cond {c : Operand} {x y : Code} {b : Bool} (hb : s.ev c = .p false [.d (.sc (.bool b))]) (h : AWp P N (if b then x else y) Q s) : AWp P N (.cond c x y) Q s:=fun w0 a w E hr=>by
  have:=ev_ok hr c
  rw [hb] at this
  refine wp_cond_split (slot_sc this) (fun hb=>?_) (fun hb=>?_)
  · subst hb;exact h w0 a w E hr
  · subst hb;exact h w0 a w E hr
theorem awp_region {id : Nat} {ops : Array Oper} (h : AOps P N ops ops.toList Q s) : AWp P N (.region id ops false) Q s:=fun w0 a w E hr=>wp_region_list (h w0 a w E hr)
theorem awp_rounds {c : Code} (I : AS→Nat→Prop) (m : Nat) (h0 : I s m) (round : ∀ s m,I s m→AWp P N c (fun e s'=>match e with | .normal=>∃ m' s'',m' < m∧Re s' s''∧I s'' m' | e=>Q e s') s) : AWp P N (.loop c) Q s:=by
  intro w0 a w E hrep b k cs
  have key : ∀ m s a w E,I s m→RepE w0 N s a w E→∃ e a' w',AQ w0 N Q e a' w'∧Arrives P (lone (b.at a (.code c :: .inLoop c :: k)) cs w) b k cs e a' w':=by
    intro m
    induction m using Nat.strongRecOn with
    | _ m ih =>
      intro s a w E hI hr
      obtain ⟨e,a₁,w₁,⟨s1,E1,hq,hr1⟩,harr⟩:=round s m hI w0 a w E hr b (.inLoop c :: k) cs
      cases e with
      | normal =>
        obtain ⟨m',s2,hlt,hre,hI'⟩:=hq
        obtain ⟨E2,hr2⟩:=hre w0 N a₁ w₁ E1 hr1
        obtain ⟨e₂,a₂,w₂,hq₂,harr₂⟩:=ih m' hlt _ a₁ w₁ E2 hI' hr2
        exact ⟨e₂,a₂,w₂,hq₂,.of_steps (Steps.trans harr (.one step_inLoop)) harr₂⟩
      | exit id=>exact ⟨_,a₁,w₁,⟨s1,E1,hq,hr1⟩,.pass (x:=.inLoop c) rfl (fun _ _=>.inl (by simp)) harr⟩
      | goto l=>exact ⟨_,a₁,w₁,⟨s1,E1,hq,hr1⟩,.pass (x:=.inLoop c) rfl (fun _ _=>.inl (by simp)) harr⟩
      | ret=>exact ⟨_,a₁,w₁,⟨s1,E1,hq,hr1⟩,.pass (x:=.inLoop c) rfl (fun _ _=>.inl (by simp)) harr⟩
      | panic ch=>exact ⟨_,a₁,w₁,⟨s1,E1,hq,hr1⟩,.pass (x:=.inLoop c) rfl (fun _ _=>.inl (by simp)) harr⟩
      | outgrown=>exact ⟨_,a₁,w₁,⟨s1,E1,hq,hr1⟩,.pass (x:=.inLoop c) rfl (fun _ _=>.inl (by simp)) harr⟩
  obtain ⟨e,a',w',hq,harr⟩:=key m s a w E h0 hrep
  exact ⟨e,a',w',hq,.of_steps (.one step_loop) harr⟩
theorem meets_awp {f : FuncId} {fn : Func} {c : Code} {args : List (Bool × List DV)} {res : List Rs} (hf : P.funcs[f]? = some fn) (hb : fn.body = some c) (hc : callable P f = true) (hN : args.length≤fn.ntmps)
    (h : AWp P fn.ntmps c (retK P fn.results.toList res) (initS args)) : Meets P f args res:=by
  refine ⟨hc,fun w B vs hB ha=>?_⟩
  refine calls_of_wp hf hb ?_
  refine Code.wp_mono (fun e a' w' he=>?_) (h (cxR w B) _ w _ (init_ok hB ha (by rw [ha.1];exact hN)))
  obtain ⟨s,E,hq,hr⟩:=he
  have key:=fun hq=>ret_done (P:=P) (fn:=fn) (res:=res) hr hq
  cases e with
  | normal=>exact key hq
  | ret=>exact key hq
  | _=>exact hq.elim
end
end Go.Proofs.Ytboheedjhnbnhaa
namespace Go.Proofs.Ytboheedjhnbnhaa
open Go.RowKit
inductive SC where
  | d (i : Nat)
  | nil
  | own (i st : Nat)
  | ptr (i st off : Nat)
  | elt (i st k j off : Nat)
  | rd (cs : List Nat)
  | sub (i st k lo n : Nat)
  | emp
  deriving DecidableEq
inductive SV where
  | p (agg : Bool) (cs : List SC)
  | tup (xs : List (Bool × List SC))
inductive SO where
  | var (st : Nat) (t : TypeId) (cs : List SC)
  | row (st : Nat) (t : TypeId) (k x : Nat)
  | frz (st x : Nat)
  | dx (st x : Nat)
  | cur (st : Nat) (id : Bool) (t : TypeId) (z : Nat)
  | arr (st : Nat) (t : TypeId) (k : Nat) (es : List (List SC))
  | opn (st k x : Nat) (q : Option (Nat × Nat × Nat × Nat))
  | dead
def SO.st : SO→Option Nat
  | .var st _ _ | .row st _ _ _ | .frz st _ | .dx st _ | .arr st _ _ _ | .cur st _ _ _ | .opn st _ _ _=>some st
  | .dead=>none
structure Sy where
  sl : List (Nat × SV)
  ob : List (Nat × SO)
  n : Nat
  c : Nat
  m : Nat
  kn : List (Nat × Bool)
def alook {α : Type} : List (Nat × α)→Nat→Option α
  | [],_=>none
  | (j,x) :: r,i=>if j = i then some x else alook r i
def Sy.own (S : Sy) (i st : Nat) : Option SO:=(alook S.ob i).bind fun o=>if o.st = some st then some o else none
def Sy.put (S : Sy) (d : Option Nat) (v : SV) : Sy:=match d with | some t=>{ S with sl:=(t,v) :: S.sl } | none=>S
inductive PO where
  | k (v : Value)
  | e (t k : Nat)
  | sc (x : Nat)
  | isI (x : Nat)
  | flat (x : Nat)
  | isL (t k x : Nat)
  | bin (op : BinOp) (b : Bool) (x y : Nat)
  | un (op : UnOp) (x : Nat)
  | cvI (k : IntKind) (x : Nat)
  | cvS (x : Nat)
  | cvB (x : Nat)
  | lenS (x : Nat)
  | lenL (x : Nat)
  | chr (x i : Nat)
  | idx (k x i : Nat)
  | chk (k x i : Nat)
  | cutS (x : Nat) (lo hi : Option Nat)
  | cutL (k x : Nat) (lo hi : Option Nat)
  | app (el k b x y : Nat)
  | mk (el k : Nat) (rows : List (List Nat))
  | make (el k b : Nat) (z : List DV) (n : Nat)
  | set (k x j off : Nat) (vs : List Nat)
  | mm (mx : Bool) (x y : Nat)
  | eqS (neg : Bool) (ks : List Kd) (xs ys : List Nat)
  | cutI (x : Nat) (lo hi : Option Nat)
  | cutJ (z m : Nat) (lo hi : Option Nat)
  | atJ (z m i : Nat)
  | viewD (x z m : Nat)
  | cutP (x z m : Nat)
  | emp (x : Nat)
  | unc (z n : Nat)
  | cuS (z off v : Nat)
  | stop (k : Nat)
  | cpy (k x lo n lo' n' : Nat)
def isSc : Value→Bool
  | .bool _ | .int _ _ | .string _=>true
  | _=>false
def isScD : DV→Bool
  | .sc v=>isSc v
  | _=>false
def gI (ρ : List DV) (i : Nat) : Option Int:=match ρ[i]? with | some (.sc (.int _ z))=>some z | _=>none
def gIo (ρ : List DV) : Option Nat→Option (Option Int)
  | none=>some none
  | some i=>(gI ρ i).map some
def gL (ρ : List DV) : List Nat→Option (List DV)
  | []=>some []
  | i :: r=>match ρ[i]?,gL ρ r with | some x,some xs=>some (x :: xs) | _,_=>none
def gLL (ρ : List DV) : List (List Nat)→Option (List (List DV))
  | []=>some []
  | i :: r=>match gL ρ i,gLL ρ r with | some x,some xs=>some (x :: xs) | _,_=>none
def binG (op : BinOp) (b : Bool) (x y : Value) : Option Value :=
  match x,y with
  | .int k a,.int k' c=>intF op k k' a c
  | .string a,.string c=>strF op a c
  | .bool a,.bool c=>if b then (match op with
    | .eql=>some (.bool (a == c))
    | .neq=>some (.bool (!(a == c)))
    | _=>none) else none
  | _,_=>none
def sc1 : Option Value→Option (List DV)
  | some v=>some [.sc v]
  | none=>none
def eqKD : List Kd→List DV→List DV→Option Bool
  | [],[],[]=>some true
  | k :: ks,.sc a :: xs,.sc b :: ys=>(match eqK k a b,eqKD ks xs ys with | some p,some q=>some (p && q) | _,_=>none)
  | _,_,_=>none
def evalP (ρ : List DV) : PO→Option (List DV)
  | .k v=>if isSc v then some [.sc v] else none
  | .e t k=>some [.sl t k []]
  | .sc x=>match ρ[x]? with | some d=>if isScD d then some [] else none | none=>none
  | .isI x=>match ρ[x]? with | some (.sc (.int _ _))=>some [] | _=>none
  | .flat x=>match ρ[x]? with | some (.sl _ _ es)=>if es.flatten.all isScD then some [] else none | _=>none
  | .isL t k x=>match ρ[x]? with | some (.sl t' k' es)=>if t' = t∧k' = k∧es.flatten.all isScD = true then some [] else none | _=>none
  | .bin op b x y=>match ρ[x]?,ρ[y]? with | some (.sc u),some (.sc v)=>sc1 (binG op b u v) | _,_=>none
  | .un op x=>match ρ[x]? with | some (.sc u)=>sc1 (unF op u) | _=>none
  | .cvI k x=>match ρ[x]? with | some (.sc (.int _ n))=>some [.sc (.int k (k.wrap n))] | _=>none
  | .cvS x=>match ρ[x]? with | some (.sc (.string s))=>some [.sc (.string s)] | _=>none
  | .cvB x=>match ρ[x]? with | some (.sl _ 1 es)=>(match numsOf es with | some xs=>some [.sc (.string (strOfNums xs))] | none=>none) | _=>none
  | .lenS x=>match ρ[x]? with | some (.sc (.string s))=>some [.sc (.int .i64 s.size)] | _=>none
  | .lenL x=>match ρ[x]? with | some (.sl _ _ es)=>some [.sc (.int .i64 es.length)] | _=>none
  | .chr x i=>match ρ[x]?,ρ[i]? with
    | some (.sc (.string s)),some (.sc (.int _ z))=>if 0≤z then (match s[z.toNat]? with | some u=>some [.sc (.int .u8 u.toNat)] | none=>none) else none
    | _,_=>none
  | .idx k x i=>match ρ[x]?,ρ[i]? with
    | some (.sl _ k' es),some (.sc (.int _ z))=>if k' = k∧0≤z then (match es[z.toNat]? with | some e=>if e.length = k then some e else none | none=>none) else none
    | _,_=>none
  | .chk k x i=>match ρ[x]?,ρ[i]? with
    | some (.sl _ k' es),some (.sc (.int _ z))=>if k' = k∧0≤z∧z.toNat < es.length then some [] else none
    | _,_=>none
  | .cutS x lo hi=>match ρ[x]?,gIo ρ lo,gIo ρ hi with
    | some (.sc (.string s)),some l,some h=>(match cutF l h s.size with | some (a,b)=>some [.sc (.string (s.extract a b))] | none=>none)
    | _,_,_=>none
  | .cutL k x lo hi=>match ρ[x]?,gIo ρ lo,gIo ρ hi with
    | some (.sl t k' es),some l,some h=>if k' = k then (match cutF l h es.length with | some (a,b)=>some [.sl t k ((es.drop a).take (b - a))] | none=>none) else none
    | _,_,_=>none
  | .app el k b x y=>match ρ[x]?,ρ[y]? with
    | some (.sl t1 k1 es),some (.sl _ k2 fs)=>if t1 = el∧k1 = k∧k2 = k∧es.length + fs.length≤9223372036854775807∧(es.length + fs.length) * b≤140737488355328 then some [.sl el k (es ++ fs)] else none
    | _,_=>none
  | .mk el k rows=>match gLL ρ rows with | some es=>if es.all (fun e=>e.length == k) then some [.sl el k es] else none | none=>none
  | .make el k b z n=>match ρ[n]? with
    | some (.sc (.int .i64 n))=>if 0≤n∧b * n.toNat≤281474976710656∧n.toNat≤9223372036854775807 then some [.sl el k (List.replicate n.toNat z)] else none
    | _=>none
  | .set k x j off vs=>match ρ[x]?,ρ[j]?,gL ρ vs with
    | some (.sl t k' es),some (.sc (.int _ z)),some ds=>if k' = k∧0≤z∧off + ds.length≤k then (match es[z.toNat]? with | some e=>some [.sl t k (es.set z.toNat (plug off ds e))] | none=>none) else none
    | _,_,_=>none
  | .mm mx x y=>match ρ[x]?,ρ[y]? with
    | some (.sc (.int k a)),some (.sc (.int k' b))=>if k = k' then some [.sc (.int k (mmF mx a b))] else none
    | _,_=>none
  | .eqS neg ks xs ys=>match gL ρ xs,gL ρ ys with
    | some ds,some es=>(match eqKD ks ds es with | some b=>some [.sc (.bool (if neg then !b else b))] | none=>none)
    | _,_=>none
  | .cutI x lo hi=>match ρ[x]?,gIo ρ lo,gIo ρ hi with
    | some (.sl _ _ es),some l,some h=>(match cutF l h es.length with | some (a,b)=>some [.sc (.int .i64 a),.sc (.int .i64 ((b - a : Nat) : Int))] | none=>none)
    | _,_,_=>none
  | .cutJ z m lo hi=>match ρ[z]?,ρ[m]?,gIo ρ lo,gIo ρ hi with
    | some (.sc (.int .i64 u)),some (.sc (.int .i64 v)),some l,some h=>if 0≤u∧0≤v then (match cutF l h v.toNat with | some (a,b)=>some [.sc (.int .i64 ((u.toNat + a : Nat) : Int)),.sc (.int .i64 ((b - a : Nat) : Int))] | none=>none) else none
    | _,_,_,_=>none
  | .atJ z m i=>match ρ[z]?,ρ[m]?,ρ[i]? with
    | some (.sc (.int .i64 u)),some (.sc (.int .i64 v)),some (.sc (.int _ j))=>if 0≤u∧0≤j∧j < v then some [.sc (.int .i64 (u + j))] else none
    | _,_,_=>none
  | .viewD x z m=>match ρ[x]?,ρ[z]?,ρ[m]? with
    | some (.sl t k es),some (.sc (.int .i64 u)),some (.sc (.int .i64 v))=>some [.sl t k ((es.drop u.toNat).take v.toNat)]
    | _,_,_=>none
  | .cutP x z m=>match ρ[x]?,ρ[z]?,ρ[m]? with
    | some (.sl t k es),some (.sc (.int .i64 u)),some (.sc (.int .i64 v))=>if u = 0∧v.toNat≤es.length then some [.sl t k (es.take v.toNat)] else none
    | _,_,_=>none
  | .emp x=>match ρ[x]? with
    | some (.sl _ _ es)=>some [.sc (.bool es.isEmpty)]
    | _=>none
  | .unc z n=>match ρ[z]? with
    | some (.sl _ 0 [[x],cs])=>if cs.length + 1 = n then some (x :: cs) else none
    | _=>none
  | .cuS z off v=>match ρ[z]?,ρ[v]? with
    | some (.sl t 0 [[x],cs]),some (.sc u)=>if isSc u = true∧0 < off∧off - 1 < cs.length then some [.sl t 0 [[x],cs.set (off - 1) (.sc u)]] else none
    | _,_=>none
  | .stop _=>none
  | .cpy k x lo n lo' n'=>match ρ[x]?,ρ[lo]?,ρ[n]?,ρ[lo']?,ρ[n']? with
    | some (.sl t k' es),some (.sc (.int .i64 a)),some (.sc (.int .i64 m)),some (.sc (.int .i64 b)),some (.sc (.int .i64 m')) =>
      if k' = k∧es.flatten.all isScD = true then some [.sl t k (cpyL es a.toNat m.toNat b.toNat m'.toNat),.sc (.int .i64 ((min m'.toNat m.toNat : Nat) : Int))] else none
    | _,_,_,_,_=>none
def evalPs : List PO→List DV→Option (List DV)
  | [],ρ=>some ρ
  | o :: r,ρ=>match evalP ρ o with | some out=>evalPs r (ρ ++ out) | none=>none
section
variable (ρ : List DV) (σ : List Nat)
def RD : List Nat→List DV→Prop
  | [],[]=>True
  | i :: is,x :: xs=>ρ[i]? = some x∧RD is xs
  | _,_=>False
def RC : SC→AC→Prop
  | .d i,.d x=>ρ[i]? = some x
  | .nil,.nil=>True
  | .own i st,.own i' st'=>i' = i∧σ[st]? = some st'
  | .ptr i st off,.ptr i' st' off'=>i' = i∧σ[st]? = some st'∧off' = off
  | .elt i st k j off,.elt i' st' k' j' off'=>i' = i∧σ[st]? = some st'∧k' = k∧(∃ kd z,ρ[j]? = some (.sc (.int kd z))∧0≤z∧j' = z.toNat)∧off' = off
  | .rd cs,.rd ds=>RD ρ cs ds
  | .sub i st k lo n,.sub i' st' k' lo' n'=>i' = i∧σ[st]? = some st'∧k' = k∧(∃ z,ρ[lo]? = some (.sc (.int .i64 z))∧0≤z∧lo' = z.toNat)∧(∃ z,ρ[n]? = some (.sc (.int .i64 z))∧0≤z∧n' = z.toNat)
  | .emp,.emp=>True
  | _,_=>False
def RCs : List SC→List AC→Prop
  | [],[]=>True
  | x :: xs,y :: ys=>RC ρ σ x y∧RCs xs ys
  | _,_=>False
def RT : List (Bool × List SC)→List (Bool × List AC)→Prop
  | [],[]=>True
  | x :: xs,y :: ys=>(y.1 = x.1∧RCs ρ σ x.2 y.2)∧RT xs ys
  | _,_=>False
def RV : SV→AV→Prop
  | .p b cs,.p b' cs'=>b' = b∧RCs ρ σ cs cs'
  | .tup xs,.tup ys=>RT ρ σ xs ys
  | _,_=>False
def RLL : List (List SC)→List (List AC)→Prop
  | [],[]=>True
  | x :: xs,y :: ys=>RCs ρ σ x y∧RLL xs ys
  | _,_=>False
def RH : Option (Nat × Nat × Nat × Nat)→Option (Nat × Nat × Nat × Nat)→Prop
  | none,none=>True
  | some (j,off,n,sn),some (j',off',n',sn')=>(∃ kd z,ρ[j]? = some (.sc (.int kd z))∧0≤z∧j' = z.toNat)∧off' = off∧n' = n∧σ[sn]? = some sn'
  | _,_=>False
def RO : SO→Ob→Prop
  | .arr st t k es,.arr st' t' k' es'=>σ[st]? = some st'∧t' = t∧k' = k∧RLL ρ σ es es'
  | .var st t cs,.var st' t' cs'=>σ[st]? = some st'∧t' = t∧RCs ρ σ cs cs'
  | .row st t k x,.row st' t' k' es dp=>σ[st]? = some st'∧t' = t∧k' = k∧dp = true∧ρ[x]? = some (.sl t k es)
  | .frz st x,.frz st' y=>σ[st]? = some st'∧ρ[x]? = some y
  | .dx st x,.dx st' y=>σ[st]? = some st'∧ρ[x]? = some y
  | .cur st id t z,.cur st' id' t' x cs=>σ[st]? = some st'∧id' = id∧t' = t∧ρ[z]? = some (cvD t x cs)
  | .opn st k x q,.opn st' t' k' es q'=>σ[st]? = some st'∧k' = k∧ρ[x]? = some (.sl t' k es)∧RH ρ σ q q'
  | .dead,_=>True
  | _,_=>False
end
structure Rel (S : Sy) (ρ : List DV) (σ : List Nat) (s : AS) : Prop where
  n : s.n = S.n
  c : σ.length = S.c
  m : ρ.length = S.m
  sl : ∀ t x,alook S.sl t = some x→RV ρ σ x (s.sl t)
  ob : ∀ i x,alook S.ob i = some x→i < S.n∧RO ρ σ x (s.ob i)
  kn : ∀ i b,alook S.kn i = some b→ρ[i]? = some (.sc (.bool b))
def Pre {α : Type} (l l' : List α) : Prop:=∃ e,l' = l ++ e
theorem Pre.refl {α : Type} (l : List α) : Pre l l:=⟨[],by simp⟩
theorem Pre.trans {α : Type} {a b c : List α} (h : Pre a b) (k : Pre b c) : Pre a c:=by
  obtain ⟨e,rfl⟩:=h;obtain ⟨f,rfl⟩:=k;exact ⟨e ++ f,by simp⟩
theorem Pre.get {α : Type} {l l' : List α} (h : Pre l l') {i : Nat} {x : α} (hx : l[i]? = some x) : l'[i]? = some x:=by
  obtain ⟨e,rfl⟩:=h
  rw [List.getElem?_append_left (List.getElem?_eq_some_iff.1 hx).1];exact hx
theorem Pre.app {α : Type} (l e : List α) : Pre l (l ++ e):=⟨e,rfl⟩
section
variable {ρ ρ' : List DV} {σ σ' : List Nat}
theorem RD.mono (h : Pre ρ ρ') : ∀ {is : List Nat} {xs : List DV},RD ρ is xs→RD ρ' is xs
  | [],[],_=>trivial
  | i :: is,x :: xs,k=>⟨h.get k.1,RD.mono h k.2⟩
  | [],_ :: _,k=>k.elim
  | _ :: _,[],k=>k.elim
theorem RC.mono (h : Pre ρ ρ') (g : Pre σ σ') {x : SC} {y : AC} (k : RC ρ σ x y) : RC ρ' σ' x y:=by
  cases x <;> cases y <;> first | exact k.elim | skip
  · exact h.get k
  · trivial
  · exact ⟨k.1,g.get k.2⟩
  · exact ⟨k.1,g.get k.2.1,k.2.2⟩
  · obtain ⟨k1,k2,k3,⟨kd,z,k4,k5⟩,k6⟩:=k
    exact ⟨k1,g.get k2,k3,⟨kd,z,h.get k4,k5⟩,k6⟩
  · exact RD.mono h k
  · obtain ⟨k1,k2,k3,⟨z,k4,k5⟩,⟨z',k6,k7⟩⟩:=k
    exact ⟨k1,g.get k2,k3,⟨z,h.get k4,k5⟩,⟨z',h.get k6,k7⟩⟩
  · trivial
theorem RCs.mono (h : Pre ρ ρ') (g : Pre σ σ') : ∀ {xs : List SC} {ys : List AC},RCs ρ σ xs ys→RCs ρ' σ' xs ys
  | [],[],_=>trivial
  | x :: xs,y :: ys,k=>⟨k.1.mono h g,RCs.mono h g k.2⟩
  | [],_ :: _,k=>k.elim
  | _ :: _,[],k=>k.elim
theorem RT.mono (h : Pre ρ ρ') (g : Pre σ σ') : ∀ {xs : List (Bool × List SC)} {ys : List (Bool × List AC)},RT ρ σ xs ys→RT ρ' σ' xs ys
  | [],[],_=>trivial
  | x :: xs,y :: ys,k=>⟨⟨k.1.1,RCs.mono h g k.1.2⟩,RT.mono h g k.2⟩
  | [],_ :: _,k=>k.elim
  | _ :: _,[],k=>k.elim
theorem RV.mono (h : Pre ρ ρ') (g : Pre σ σ') {x : SV} {y : AV} (k : RV ρ σ x y) : RV ρ' σ' x y:=by
  cases x <;> cases y <;> first | exact k.elim | skip
  · exact ⟨k.1,RCs.mono h g k.2⟩
  · exact RT.mono h g k
theorem RLL.mono (h : Pre ρ ρ') (g : Pre σ σ') : ∀ {xs : List (List SC)} {ys : List (List AC)},RLL ρ σ xs ys→RLL ρ' σ' xs ys
  | [],[],_=>trivial
  | x :: xs,y :: ys,k=>⟨RCs.mono h g k.1,RLL.mono h g k.2⟩
  | [],_ :: _,k=>k.elim
  | _ :: _,[],k=>k.elim
theorem RH.mono (h : Pre ρ ρ') (g : Pre σ σ') {x y : Option (Nat × Nat × Nat × Nat)} (k : RH ρ σ x y) : RH ρ' σ' x y:=by
  cases x <;> cases y <;> first | exact k.elim | trivial | skip
  obtain ⟨⟨kd,z,k1,k2⟩,k3,k4,k5⟩:=k
  exact ⟨⟨kd,z,h.get k1,k2⟩,k3,k4,g.get k5⟩
theorem RO.mono (h : Pre ρ ρ') (g : Pre σ σ') {x : SO} {y : Ob} (k : RO ρ σ x y) : RO ρ' σ' x y:=by
  cases x <;> cases y <;> first | exact k.elim | trivial | skip
  · exact ⟨g.get k.1,k.2.1,RCs.mono h g k.2.2⟩
  · exact ⟨g.get k.1,k.2.1,k.2.2.1,k.2.2.2.1,h.get k.2.2.2.2⟩
  · exact ⟨g.get k.1,h.get k.2⟩
  · exact ⟨g.get k.1,h.get k.2⟩
  · exact ⟨g.get k.1,k.2.1,k.2.2.1,h.get k.2.2.2⟩
  · exact ⟨g.get k.1,k.2.1,k.2.2.1,RLL.mono h g k.2.2.2⟩
  · exact ⟨g.get k.1,k.2.1,h.get k.2.2.1,RH.mono h g k.2.2.2⟩
theorem RCs.len : ∀ {xs : List SC} {ys : List AC},RCs ρ σ xs ys→xs.length = ys.length
  | [],[],_=>rfl
  | x :: xs,y :: ys,k=>by simp [RCs.len k.2]
  | [],_ :: _,k=>k.elim
  | _ :: _,[],k=>k.elim
theorem RCs.drop (n : Nat) : ∀ {xs : List SC} {ys : List AC},RCs ρ σ xs ys→RCs ρ σ (xs.drop n) (ys.drop n):=by
  induction n with
  | zero=>intro xs ys k;simpa using k
  | succ n ih=>intro xs ys k;match xs,ys,k with
    | [],[],_=>simp;trivial
    | x :: xs,y :: ys,k=>exact ih k.2
theorem RCs.take (n : Nat) : ∀ {xs : List SC} {ys : List AC},RCs ρ σ xs ys→RCs ρ σ (xs.take n) (ys.take n):=by
  induction n with
  | zero=>intro xs ys k;simp;trivial
  | succ n ih=>intro xs ys k;match xs,ys,k with
    | [],[],_=>simp;trivial
    | x :: xs,y :: ys,k=>exact ⟨k.1,ih k.2⟩
theorem RCs.app : ∀ {xs xs' : List SC} {ys ys' : List AC},RCs ρ σ xs ys→RCs ρ σ xs' ys'→RCs ρ σ (xs ++ xs') (ys ++ ys')
  | [],_,[],_,_,h=>h
  | x :: xs,_,y :: ys,_,k,h=>⟨k.1,RCs.app k.2 h⟩
  | [],_,_ :: _,_,k,_=>k.elim
  | _ :: _,_,[],_,k,_=>k.elim
theorem RCs.get : ∀ {xs : List SC} {ys : List AC} {i : Nat} {x : SC},RCs ρ σ xs ys→xs[i]? = some x→∃ y,ys[i]? = some y∧RC ρ σ x y
  | x :: xs,y :: ys,0,x',k,h=>by simp at h;subst h;exact ⟨y,rfl,k.1⟩
  | x :: xs,y :: ys,i + 1,x',k,h=>by obtain ⟨y',h1,h2⟩:=RCs.get k.2 (i:=i) (by simpa using h);exact ⟨y',by simpa using h1,h2⟩
  | [],[],i,x,_,h=>by simp at h
  | [],_ :: _,_,_,k,_=>k.elim
  | _ :: _,[],_,_,k,_=>k.elim
theorem rt_get : ∀ {xs : List (Bool × List SC)} {ys : List (Bool × List AC)} {i : Nat} {b : Bool} {cs : List SC},RT ρ σ xs ys→xs[i]? = some (b,cs)→∃ y,ys[i]? = some y∧y.1 = b∧RCs ρ σ cs y.2
  | x :: xs,y :: ys,0,b,cs,k,h=>by simp at h;subst h;exact ⟨y,rfl,k.1.1,k.1.2⟩
  | x :: xs,y :: ys,i + 1,b,cs,k,h=>by obtain ⟨y',h1,h2⟩:=rt_get k.2 (i:=i) (by simpa using h);exact ⟨y',by simpa using h1,h2⟩
  | [],[],i,b,cs,_,h=>by simp at h
  | [],_ :: _,_,_,_,k,_=>k.elim
  | _ :: _,[],_,_,_,k,_=>k.elim
theorem RD.toC : ∀ {is : List Nat} {xs : List DV},RD ρ is xs→RCs ρ σ (is.map .d) (xs.map .d)
  | [],[],_=>trivial
  | i :: is,x :: xs,k=>⟨k.1,RD.toC k.2⟩
  | [],_ :: _,k=>k.elim
  | _ :: _,[],k=>k.elim
theorem RD.drop (n : Nat) : ∀ {xs : List Nat} {ys : List DV},RD ρ xs ys→RD ρ (xs.drop n) (ys.drop n):=by
  induction n with
  | zero=>intro xs ys k;simpa using k
  | succ n ih=>intro xs ys k;match xs,ys,k with
    | [],[],_=>simp;trivial
    | x :: xs,y :: ys,k=>exact ih k.2
theorem RD.take (n : Nat) : ∀ {xs : List Nat} {ys : List DV},RD ρ xs ys→RD ρ (xs.take n) (ys.take n):=by
  induction n with
  | zero=>intro xs ys k;simp;trivial
  | succ n ih=>intro xs ys k;match xs,ys,k with
    | [],[],_=>simp;trivial
    | x :: xs,y :: ys,k=>exact ⟨k.1,ih k.2⟩
theorem rd_gL : ∀ {is : List Nat} {xs : List DV},RD ρ is xs→gL ρ is = some xs
  | [],[],_=>rfl
  | i :: is,x :: xs,k=>by simp only [gL,k.1,rd_gL k.2]
  | [],_ :: _,k=>k.elim
  | _ :: _,[],k=>k.elim
theorem RD.len : ∀ {xs : List Nat} {ys : List DV},RD ρ xs ys→xs.length = ys.length
  | [],[],_=>rfl
  | x :: xs,y :: ys,k=>by simp [RD.len k.2]
  | [],_ :: _,k=>k.elim
  | _ :: _,[],k=>k.elim
theorem gL_rd : ∀ {is : List Nat} {xs : List DV},gL ρ is = some xs→RD ρ is xs
  | [],xs,h=>by simp only [gL] at h;injection h with h;subst h;trivial
  | i :: is,xs,h=>by
    simp only [gL] at h
    split at h
    · rename_i x xs' h1 h2;injection h with h;subst h;exact ⟨h1,gL_rd h2⟩
    · cases h
def vars : Nat→Nat→List Nat
  | _,0=>[]
  | m,k + 1=>m :: vars (m + 1) k
theorem vars_rd : ∀ {e : List DV} {ρ : List DV},RD (ρ ++ e) (vars ρ.length e.length) e
  | [],ρ=>trivial
  | x :: e,ρ=>by
    refine ⟨by simp,?_⟩
    have:=vars_rd (e:=e) (ρ:=ρ ++ [x])
    simpa using this
theorem vars_rd' {e : List DV} {m k : Nat} (h : ρ.length = m) (hk : e.length = k) : RD (ρ ++ e) (vars m k) e:=by subst h hk;exact vars_rd
theorem evalPs_pre : ∀ {ps : List PO} {ρ ρ' : List DV},evalPs ps ρ = some ρ'→Pre ρ ρ'
  | [],ρ,ρ',h=>by simp only [evalPs] at h;injection h with h;subst h;exact Pre.refl _
  | o :: r,ρ,ρ',h=>by
    simp only [evalPs] at h
    split at h
    · exact (Pre.app _ _).trans (evalPs_pre h)
    · cases h
theorem evalPs_app : ∀ {ps qs : List PO} {ρ ρ' : List DV},evalPs (ps ++ qs) ρ = some ρ'→∃ ρ1,evalPs ps ρ = some ρ1∧evalPs qs ρ1 = some ρ'
  | [],qs,ρ,ρ',h=>⟨ρ,rfl,h⟩
  | o :: r,qs,ρ,ρ',h=>by
    simp only [List.cons_append,evalPs] at h ⊢
    split at h
    · rename_i out he;obtain ⟨ρ1,h1,h2⟩:=evalPs_app h;exact ⟨ρ1,h1,h2⟩
    · cases h
theorem evalPs_one {o : PO} {ρ ρ' : List DV} (h : evalPs [o] ρ = some ρ') : ∃ out,evalP ρ o = some out∧ρ' = ρ ++ out:=by
  simp only [evalPs] at h
  split at h
  · rename_i out he;injection h with h;exact ⟨out,he,h.symm⟩
  · cases h
variable {S : Sy} {s : AS}
theorem Rel.more (h : Rel S ρ σ s) (hp : Pre ρ ρ') {m : Nat} (hm : ρ'.length = m) : Rel { S with m:=m } ρ' σ s :=
  ⟨h.n,h.c,hm,fun t x hx=>(h.sl t x hx).mono hp (Pre.refl _),fun i x hx=>⟨(h.ob i x hx).1,(h.ob i x hx).2.mono hp (Pre.refl _)⟩,fun i b hb=>hp.get (h.kn i b hb)⟩
theorem Rel.know (h : Rel S ρ σ s) {i : Nat} {b : Bool} (hb : ρ[i]? = some (.sc (.bool b))) : Rel { S with kn:=(i,b) :: S.kn } ρ σ s :=
  ⟨h.n,h.c,h.m,h.sl,h.ob,fun j c hc=>by
    simp only [alook] at hc
    split at hc
    · rename_i e;injection hc with hc;subst e hc;exact hb
    · exact h.kn j c hc⟩
theorem Rel.put (h : Rel S ρ σ s) {d : Option Nat} {v : SV} {x : AV} (hv : RV ρ σ v x) : Rel (S.put d v) ρ σ (s.put d x):=by
  cases d with
  | none=>exact h
  | some t =>
    refine ⟨h.n,h.c,h.m,fun t' x' hx'=>?_,h.ob,h.kn⟩
    simp only [Sy.put,alook] at hx'
    simp only [AS.put]
    split at hx'
    · rename_i e;injection hx' with hx';subst e hx';rw [upd_same];exact hv
    · rename_i e;rw [upd_ne _ _ (fun h=>e h.symm)];exact h.sl t' x' hx'
theorem Rel.own (h : Rel S ρ σ s) {i st st' : Nat} {o : SO} (ho : S.own i st = some o) (hs : σ[st]? = some st') : ∃ o',s.own? i st' = some o'∧RO ρ σ o o'∧s.ob i = o'∧i < S.n:=by
  unfold Sy.own at ho
  cases hl : alook S.ob i with
  | none=>simp [hl] at ho
  | some x =>
    simp only [hl,Option.bind_some] at ho
    split at ho
    · rename_i hst
      injection ho with ho;subst ho
      obtain ⟨hi,hr⟩:=h.ob i x hl
      refine ⟨s.ob i,?_,hr,rfl,hi⟩
      unfold AS.own?
      rw [if_pos (by rw [h.n];exact hi)]
      have : (s.ob i).st = some st':=by
        cases hx : x with
        | var a t cs => rw [hx] at hr hst; cases hy : s.ob i <;> rw [hy] at hr <;> first | exact hr.elim | skip
                        simp only [SO.st] at hst;injection hst with hst;subst hst
                        have:=hr.1;rw [hs] at this;injection this with this;simp [Ob.st,this]
        | row a t k y => rw [hx] at hr hst; cases hy : s.ob i <;> rw [hy] at hr <;> first | exact hr.elim | skip
                         simp only [SO.st] at hst;injection hst with hst;subst hst
                         have:=hr.1;rw [hs] at this;injection this with this;simp [Ob.st,this]
        | dx a y => rw [hx] at hr hst; cases hy : s.ob i <;> rw [hy] at hr <;> first | exact hr.elim | skip
                    simp only [SO.st] at hst;injection hst with hst;subst hst
                    have:=hr.1;rw [hs] at this;injection this with this;simp [Ob.st,this]
        | frz a y => rw [hx] at hr hst; cases hy : s.ob i <;> rw [hy] at hr <;> first | exact hr.elim | skip
                     simp only [SO.st] at hst;injection hst with hst;subst hst
                     have:=hr.1;rw [hs] at this;injection this with this;simp [Ob.st,this]
        | arr a t k es => rw [hx] at hr hst; cases hy : s.ob i <;> rw [hy] at hr <;> first | exact hr.elim | skip
                          simp only [SO.st] at hst;injection hst with hst;subst hst
                          have:=hr.1;rw [hs] at this;injection this with this;simp [Ob.st,this]
        | cur a b t y => rw [hx] at hr hst; cases hy : s.ob i <;> rw [hy] at hr <;> first | exact hr.elim | skip
                         simp only [SO.st] at hst;injection hst with hst;subst hst
                         have:=hr.1;rw [hs] at this;injection this with this;simp [Ob.st,this]
        | opn a b y q => rw [hx] at hr hst; cases hy : s.ob i <;> rw [hy] at hr <;> first | exact hr.elim | skip
                         simp only [SO.st] at hst;injection hst with hst;subst hst
                         have:=hr.1;rw [hs] at this;injection this with this;simp [Ob.st,this]
        | dead=>rw [hx] at hst;cases hst
      rw [if_pos this]
    · cases ho
end
end Go.Proofs.Ytboheedjhnbnhaa
namespace Go.Proofs.Ytboheedjhnbnhaa
open Go.RowKit
def sev (S : Sy) : Operand→Option (List PO × SV × Sy)
  | .tmp t=>match alook S.sl t with | some v=>some ([],v,S) | none=>none
  | .const (.bool b)=>some ([.k (.bool b)],.p false [.d S.m],{ S with m:=S.m + 1,kn:=(S.m,b) :: S.kn })
  | .const (.int k n)=>some ([.k (.int k n)],.p false [.d S.m],{ S with m:=S.m + 1 })
  | .const (.string x)=>some ([.k (.string x)],.p false [.d S.m],{ S with m:=S.m + 1 })
  | .const (.slice none 0 0)=>some ([],.p false [.nil],S)
  | _=>none
section
variable {P : Program} {ρ ρ' : List DV} {σ σ' : List Nat} {S S' : Sy} {s : AS} {ps : List PO} {v : SV}
theorem sev_ok {x : Operand} (h : sev S x = some (ps,v,S')) (he : evalPs ps ρ = some ρ') (hr : Rel S ρ σ s) : RV ρ' σ v (s.ev x)∧Rel S' ρ' σ s:=by
  have key : ∀ (u : Value),isSc u = true→evalPs [.k u] ρ = some ρ'→ρ' = ρ ++ [.sc u]∧ρ'.length = S.m + 1∧ρ'[S.m]? = some (.sc u):=by
    intro u hu he
    obtain ⟨out,h1,h2⟩:=evalPs_one he
    simp only [evalP,hu,if_true] at h1
    injection h1 with h1
    subst h1 h2
    exact ⟨rfl,by simp [hr.m],by simp [← hr.m]⟩
  unfold sev at h
  split at h
  · split at h
    · rename_i v' hv
      injection h with h;injection h with h1 h;injection h with h2 h3
      subst h1 h2 h3
      simp only [evalPs] at he;injection he with he;subst he
      exact ⟨hr.sl _ _ hv,hr⟩
    · cases h
  · injection h with h;injection h with h1 h;injection h with h2 h3
    subst h1 h2 h3
    obtain ⟨e1,e2,e3⟩:=key _ rfl he
    have hp:=evalPs_pre he
    refine ⟨⟨rfl,e3,trivial⟩,?_⟩
    exact (hr.more hp e2).know e3
  · injection h with h;injection h with h1 h;injection h with h2 h3
    subst h1 h2 h3
    obtain ⟨e1,e2,e3⟩:=key _ rfl he
    exact ⟨⟨rfl,e3,trivial⟩,hr.more (evalPs_pre he) e2⟩
  · injection h with h;injection h with h1 h;injection h with h2 h3
    subst h1 h2 h3
    obtain ⟨e1,e2,e3⟩:=key _ rfl he
    exact ⟨⟨rfl,e3,trivial⟩,hr.more (evalPs_pre he) e2⟩
  · injection h with h;injection h with h1 h;injection h with h2 h3
    subst h1 h2 h3
    simp only [evalPs] at he;injection he with he;subst he
    exact ⟨⟨rfl,trivial,trivial⟩,hr⟩
  · cases h
def Sy.bind (S : Sy) (k : Nat) : Sy:={ S with m:=S.m + k }
theorem Rel.bind (h : Rel S ρ σ s) {out : List DV} {k : Nat} (hk : out.length = k) : Rel (S.bind k) (ρ ++ out) σ s :=
  h.more (Pre.app _ _) (by simp [h.m,hk])
def one (v : SV) : Option SC:=match v with | .p false [c]=>some c | _=>none
def dat (v : SV) : Option Nat:=match v with | .p false [.d i]=>some i | _=>none
theorem one_rv {x : AV} {c : SC} (h : one v = some c) (hv : RV ρ σ v x) : ∃ y,x = .p false [y]∧RC ρ σ c y:=by
  unfold one at h
  split at h
  · injection h with h;subst h
    cases x with
    | p b cs =>
      obtain ⟨rfl,hc⟩:=hv
      match cs,hc with
      | [y],hc=>exact ⟨y,rfl,hc.1⟩
    | tup=>exact hv.elim
    | und=>exact hv.elim
  · cases h
theorem rc_d {i : Nat} {y : AC} (h : RC ρ σ (.d i) y) : ∃ x,y = .d x∧ρ[i]? = some x:=by
  cases y <;> first | exact h.elim | exact ⟨_,rfl,h⟩
theorem dat_rv {x : AV} {i : Nat} (h : dat v = some i) (hv : RV ρ σ v x) : ∃ y,x = .p false [.d y]∧ρ[i]? = some y:=by
  unfold dat at h
  split at h
  · rename_i j
    injection h with h;subst h
    obtain ⟨y,rfl,hy⟩:=one_rv (c:=.d j) rfl hv
    obtain ⟨z,rfl,hz⟩:=rc_d hy
    exact ⟨z,rfl,hz⟩
  · cases h
def sLd (P : Program) (t : TypeId) (cs : List SC) : Option SV :=
  match tagg P t with
  | some true=>match tsz P t with | some k=>if k≤cs.length then some (.p true (cs.take k)) else none | none=>none
  | some false=>match cs with | c :: _=>some (.p false [c]) | []=>none
  | none=>none
theorem sLd_ok {t : TypeId} {cs : List SC} {ys : List AC} (h : sLd P t cs = some v) (hc : RCs ρ σ cs ys) : ∃ x,ldV P t ys = some x∧RV ρ σ v x:=by
  unfold sLd at h
  unfold ldV
  split at h
  · split at h
    · split at h
      · rename_i k hk hl
        injection h with h;subst h
        refine ⟨.p true (ys.take k),?_,rfl,hc.take k⟩
        simp only [*];rw [if_pos (by rw [← hc.len];exact hl)]
      · cases h
    · cases h
  · split at h
    · rename_i c r
      injection h with h;subst h
      match ys,hc with
      | y :: ys,hc=>refine ⟨.p false [y],?_,rfl,hc.1,trivial⟩;simp only [*]
    · cases h
  · cases h
def sLoad (P : Program) (S : Sy) (t : TypeId) : SC→Option (List PO × SV × Sy)
  | .ptr i st off=>match S.own i st with
    | some (.var _ _ cs)=>(match sLd P t (cs.drop off) with | some v=>some ([],v,S) | none=>none)
    | some (.cur _ _ ty z)=>(match tsz P ty with
      | some n=>(match sLd P t (((vars S.m n).drop off).map .d) with | some v=>some ([.unc z n],v,S.bind n) | none=>none)
      | none=>none)
    | _=>none
  | .elt i st k j off=>match S.own i st with
    | some (.row _ _ k' x)=>if k' = k then (match sLd P t (((vars S.m k).drop off).map .d) with | some v=>some ([.idx k x j],v,S.bind k) | none=>none) else none
    | _=>none
  | .rd cs=>match sLd P t (cs.map .d) with | some v=>some ([],v,S) | none=>none
  | _=>none
theorem idx_eval {k x i : Nat} {out : List DV} (h : evalP ρ (.idx k x i) = some out) : ∃ t es kd z,ρ[x]? = some (.sl t k es)∧ρ[i]? = some (.sc (.int kd z))∧0≤z∧es[z.toNat]? = some out∧out.length = k:=by
  simp only [evalP] at h
  split at h
  · rename_i t k' es kd z h1 h2
    split at h
    · rename_i hk
      split at h
      · rename_i e he
        split at h
        · rename_i hl
          injection h with h;subst h
          obtain ⟨rfl,hz⟩:=hk
          exact ⟨t,es,kd,z,h1,h2,hz,he,hl⟩
        · cases h
      · cases h
    · cases h
  · cases h
theorem sLoad_ok {t : TypeId} {c : SC} {y : AC} (h : sLoad P S t c = some (ps,v,S')) (he : evalPs ps ρ = some ρ') (hr : Rel S ρ σ s) (hc : RC ρ σ c y) :
    ∃ x,ldA P s t (.p false [y]) = some x∧RV ρ' σ v x∧Rel S' ρ' σ s:=by
  unfold sLoad at h
  split at h
  · rename_i i st off
    cases y <;> first | exact hc.elim | skip
    rename_i i' st' off'
    obtain ⟨rfl,hst,rfl⟩:=hc
    split at h
    · rename_i a ty cs ho
      split at h
      · rename_i v' hv
        injection h with h;injection h with h1 h;injection h with h2 h3
        subst h1 h2 h3
        simp only [evalPs] at he;injection he with he;subst he
        obtain ⟨o',k1,k2,-,-⟩:=hr.own ho hst
        cases o' <;> first | exact k2.elim | skip
        rename_i b ty' ys
        obtain ⟨x,q1,q2⟩:=sLd_ok (P:=P) hv (k2.2.2.drop off')
        refine ⟨x,?_,q2,hr⟩
        simp only [ldA,k1];exact q1
      · cases h
    · rename_i a id ty z ho
      split at h
      · rename_i n hn
        split at h
        · rename_i v' hv
          injection h with h;injection h with h1 h;injection h with h2 h3
          subst h1 h2 h3
          obtain ⟨out,e1,rfl⟩:=evalPs_one he
          obtain ⟨o',k1,k2,-,-⟩:=hr.own ho hst
          cases o' <;> first | exact k2.elim | skip
          rename_i b id' ty' x0 cs0
          obtain ⟨-,rfl,rfl,hz⟩:=k2
          simp only [evalP,hz,cvD] at e1
          split at e1
          · rename_i hl
            injection e1 with e1;subst e1
            have hln : (x0 :: cs0).length = n:=by simpa using hl
            have hrd : RD (ρ ++ (x0 :: cs0)) (vars S.m n) (x0 :: cs0):=vars_rd' hr.m hln
            obtain ⟨x,q1,q2⟩:=sLd_ok (P:=P) (σ:=σ) hv (RD.toC (hrd.drop off'))
            refine ⟨x,?_,q2,hr.bind hln⟩
            simp only [ldA,k1]
            rw [← List.map_drop];exact q1
          · cases e1
        · cases h
      · cases h
    · cases h
  · rename_i i st k j off
    cases y <;> first | exact hc.elim | skip
    rename_i i' st' k' j' off'
    obtain ⟨rfl,hst,rfl,⟨kd,z,hz1,hz2,rfl⟩,rfl⟩:=hc
    split at h
    · rename_i a ty k'' x ho
      split at h
      · rename_i hk;subst hk
        split at h
        · rename_i v' hv
          injection h with h;injection h with h1 h;injection h with h2 h3
          subst h1 h2 h3
          obtain ⟨out,e1,rfl⟩:=evalPs_one he
          obtain ⟨t',es,kd',z',i1,i2,i3,i4,i5⟩:=idx_eval e1
          obtain ⟨o',k1,k2,-,-⟩:=hr.own ho hst
          cases o' <;> first | exact k2.elim | skip
          rename_i b ty' kk es' dp
          obtain ⟨-,rfl,rfl,rfl,hx⟩:=k2
          rw [i1] at hx;injection hx with hx;injection hx with hx1 hx2 hx3
          subst hx1 hx3
          rw [hz1] at i2;injection i2 with i2;injection i2 with i2;injection i2 with i2a i2b
          subst i2b
          have hrd : RD (ρ ++ out) (vars S.m kk) out:=vars_rd' hr.m i5
          obtain ⟨x',q1,q2⟩:=sLd_ok (P:=P) (σ:=σ) hv (RD.toC (hrd.drop off'))
          refine ⟨x',?_,q2,hr.bind i5⟩
          simp only [ldA,k1,if_true,i4];exact q1
        · cases h
      · cases h
    · cases h
  · rename_i cs
    cases y <;> first | exact hc.elim | skip
    split at h
    · rename_i v' hv
      injection h with h;injection h with h1 h;injection h with h2 h3
      subst h1 h2 h3
      simp only [evalPs] at he;injection he with he;subst he
      obtain ⟨x,q1,q2⟩:=sLd_ok (P:=P) (σ:=σ) hv (RD.toC hc)
      exact ⟨x,q1,q2,hr⟩
    · cases h
  · cases h
def sFa (P : Program) (S : Sy) (t : TypeId) (f : Nat) (c : SC) : Option SV :=
  match tfl P t f with
  | some (fo,k,_)=>if 0 < k then (match c with
    | .ptr i st off=>if (S.own i st).isSome then some (.p false [.ptr i st (off + fo)]) else none
    | .elt i st k' j off=>if (S.own i st).isSome then some (.p false [.elt i st k' j (off + fo)]) else none
    | .rd cs=>some (.p false [.rd (cs.drop fo)])
    | .own i st=>(match S.own i st with | some (.cur _ _ _ _)=>some (.p false [.ptr i st fo]) | _=>none)
    | _=>none) else none
  | none=>none
theorem own_isSome (hr : Rel S ρ σ s) {i st st' : Nat} (h : (S.own i st).isSome = true) (hs : σ[st]? = some st') : (s.own? i st').isSome = true:=by
  obtain ⟨o,ho⟩:=Option.isSome_iff_exists.1 h
  obtain ⟨o',k1,-⟩:=hr.own ho hs
  rw [k1];rfl
theorem sFa_ok {t : TypeId} {f : Nat} {c : SC} {y : AC} (h : sFa P S t f c = some v) (hr : Rel S ρ σ s) (hc : RC ρ σ c y) : ∃ x,faV P s t f (.p false [y]) = some x∧RV ρ σ v x:=by
  unfold sFa at h
  unfold faV
  split at h
  · rename_i fo k ag hf
    split at h
    · rename_i hk
      rw [hf];simp only [if_pos hk]
      split at h
      · cases y <;> first | exact hc.elim | skip
        obtain ⟨rfl,hst,rfl⟩:=hc
        split at h
        · rename_i ho
          injection h with h;subst h
          simp only [own_isSome hr ho hst,if_true]
          exact ⟨_,rfl,rfl,⟨rfl,hst,rfl⟩,trivial⟩
        · cases h
      · cases y <;> first | exact hc.elim | skip
        obtain ⟨rfl,hst,rfl,hj,rfl⟩:=hc
        split at h
        · rename_i ho
          injection h with h;subst h
          simp only [own_isSome hr ho hst,if_true]
          exact ⟨_,rfl,rfl,⟨rfl,hst,rfl,hj,rfl⟩,trivial⟩
        · cases h
      · cases y <;> first | exact hc.elim | skip
        injection h with h;subst h
        exact ⟨_,rfl,rfl,RD.drop fo hc,trivial⟩
      · split at h
        · rename_i i st _ _ _ _ ho
          injection h with h;subst h
          cases y <;> first | exact hc.elim | skip
          rename_i i' st'
          obtain ⟨rfl,hst⟩:=hc
          obtain ⟨o',k1,k2,-,-⟩:=hr.own ho hst
          cases o' <;> first | exact k2.elim | skip
          refine ⟨.p false [.ptr i' st' fo],?_,rfl,⟨rfl,hst,rfl⟩,trivial⟩
          simp only [k1]
        · cases h
      · cases h
    · cases h
  · cases h
def sFv (P : Program) (t : TypeId) (f : Nat) (x : SV) : Option SV :=
  match tfl P t f,x with
  | some (fo,k,true),.p true cs=>if fo + k≤cs.length then some (.p true ((cs.drop fo).take k)) else none
  | some (fo,k,false),.p true cs=>(match cs[fo]? with | some c=>some (.p false [c]) | none=>none)
  | _,_=>none
theorem sFv_ok {t : TypeId} {f : Nat} {w : SV} {y : AV} (h : sFv P t f w = some v) (hw : RV ρ σ w y) : ∃ x,fvV P t f y = some x∧RV ρ σ v x:=by
  unfold sFv at h
  split at h
  · rename_i fo k cs hf
    split at h
    · rename_i hl
      injection h with h;subst h
      cases y <;> first | exact hw.elim | skip
      rename_i b ys
      obtain ⟨rfl,hc⟩:=hw
      refine ⟨.p true ((ys.drop fo).take k),?_,rfl,(hc.drop fo).take k⟩
      simp only [fvV,hf];rw [if_pos (by rw [← hc.len];exact hl)]
    · cases h
  · rename_i fo k cs hf
    split at h
    · rename_i c hc'
      injection h with h;subst h
      cases y <;> first | exact hw.elim | skip
      rename_i b ys
      obtain ⟨rfl,hc⟩:=hw
      obtain ⟨y,k1,k2⟩:=hc.get hc'
      exact ⟨.p false [y],by simp only [fvV,hf,k1],rfl,k2,trivial⟩
    · cases h
  · cases h
def sIdx (P : Program) (S : Sy) (t : TypeId) (i : Nat) : SC→Option (List PO × SV × Sy)
  | .d x=>match tel P t with | some (_,k)=>some ([.idx k x i],.p false [.rd (vars S.m k)],S.bind k) | none=>none
  | .own id st=>match tel P t,S.own id st with
    | some (_,k),some (.row _ _ k' x)=>if k' = k then some ([.chk k x i],.p false [.elt id st k i 0],S) else none
    | some (_,k),some (.frz _ x)=>some ([.idx k x i],.p false [.rd (vars S.m k)],S.bind k)
    | _,_=>none
  | .sub id st k z m=>match tel P t,S.own id st with
    | some (_,k1),some (.row _ _ k2 x)=>if k1 = k∧k2 = k then some ([.atJ z m i],.p false [.elt id st k S.m 0],S.bind 1) else none
    | _,_=>none
  | .nil=>match tel P t with | some (_,k)=>some ([.stop k],.p false [.rd (vars S.m k)],S.bind k) | none=>none
  | _=>none
theorem sIdx_ok {t : TypeId} {i : Nat} {c : SC} {y : AC} {kd : IntKind} {z : Int} (h : sIdx P S t i c = some (ps,v,S')) (he : evalPs ps ρ = some ρ') (hr : Rel S ρ σ s) (hc : RC ρ σ c y) (hi : ρ[i]? = some (.sc (.int kd z))) :
    ∃ x,idxV P s t y z = some x∧RV ρ' σ v x∧Rel S' ρ' σ s:=by
  unfold sIdx at h
  split at h
  · obtain ⟨x,rfl,hx⟩:=rc_d hc
    split at h
    · rename_i el k ht
      injection h with h;injection h with h1 h;injection h with h2 h3
      subst h1 h2 h3
      obtain ⟨out,e1,rfl⟩:=evalPs_one he
      obtain ⟨t',es,kd',z',i1,i2,i3,i4,i5⟩:=idx_eval e1
      rw [hx] at i1;injection i1 with i1;subst i1
      rw [hi] at i2;injection i2 with i2;injection i2 with i2;injection i2 with i2a i2b
      subst i2b
      refine ⟨.p false [.rd out],?_,⟨rfl,vars_rd' hr.m i5,trivial⟩,hr.bind i5⟩
      simp only [idxV,if_pos i3,ht,if_true,i4]
    · cases h
  · rename_i id st
    cases y <;> first | exact hc.elim | skip
    obtain ⟨rfl,hst⟩:=hc
    split at h
    · rename_i el k a ty k' x ht ho
      split at h
      · rename_i hk;subst hk
        injection h with h;injection h with h1 h;injection h with h2 h3
        subst h1 h2 h3
        obtain ⟨out,e1,rfl⟩:=evalPs_one he
        obtain ⟨o',k1,k2,-,-⟩:=hr.own ho hst
        cases o' <;> first | exact k2.elim | skip
        rename_i b ty' kk es' dp
        obtain ⟨-,rfl,rfl,rfl,hx⟩:=k2
        simp only [evalP,hx,hi] at e1
        split at e1
        · rename_i hb
          injection e1 with e1;subst e1
          rw [List.append_nil]
          refine ⟨.p false [.elt _ _ kk z.toNat 0],?_,⟨rfl,⟨rfl,hst,rfl,⟨kd,z,hi,hb.2.1,rfl⟩,rfl⟩,trivial⟩,hr⟩
          simp only [idxV,if_pos hb.2.1,ht,k1]
          simp [hb.2.2]
        · cases e1
      · cases h
    · rename_i el k a x ht ho
      injection h with h;injection h with h1 h;injection h with h2 h3
      subst h1 h2 h3
      obtain ⟨out,e1,rfl⟩:=evalPs_one he
      obtain ⟨t',es,kd',z',i1,i2,i3,i4,i5⟩:=idx_eval e1
      obtain ⟨o',k1,k2,-,-⟩:=hr.own ho hst
      cases o' <;> first | exact k2.elim | skip
      rename_i b yy
      obtain ⟨-,hx⟩:=k2
      rw [hx] at i1;injection i1 with i1;subst i1
      rw [hi] at i2;injection i2 with i2;injection i2 with i2;injection i2 with i2a i2b
      subst i2b
      refine ⟨.p false [.rd out],?_,⟨rfl,vars_rd' hr.m i5,trivial⟩,hr.bind i5⟩
      simp only [idxV,if_pos i3,ht,k1,if_true,i4]
    · cases h
  · rename_i id st k zz mm
    cases y <;> first | exact hc.elim | skip
    rename_i i' st' k' lo' n'
    obtain ⟨rfl,hst,rfl,⟨u,u1,u2,rfl⟩,⟨v',v1,v2,rfl⟩⟩:=hc
    split at h
    · rename_i el k1 a ty k2 x ht ho
      split at h
      · rename_i hk;obtain ⟨rfl,rfl⟩:=hk
        injection h with h;injection h with h1 h;injection h with h2 h3
        subst h1 h2 h3
        obtain ⟨out,e1,rfl⟩:=evalPs_one he
        obtain ⟨o',q1,q2,-,-⟩:=hr.own ho hst
        cases o' <;> first | exact q2.elim | skip
        rename_i b ty' kk es' dp
        obtain ⟨-,rfl,rfl,rfl,hx⟩:=q2
        simp only [evalP,u1,v1,hi] at e1
        split at e1
        · rename_i hb
          injection e1 with e1;subst e1
          have hj : z.toNat < v'.toNat:=by omega
          refine ⟨.p false [.elt _ _ kk (u.toNat + z.toNat) 0],?_,⟨rfl,⟨rfl,hst,rfl,⟨.i64,u + z,by show (_ : List DV)[_]? = _;simp [← hr.m],by omega,by omega⟩,rfl⟩,trivial⟩,hr.bind rfl⟩
          simp only [idxV,if_pos hb.2.1,ht,q1]
          simp [hj]
        · cases e1
      · cases h
    · cases h
  · split at h
    · injection h with h;injection h with h1 h;injection h with h2 h3
      subst h1 h2 h3
      obtain ⟨out,e1,-⟩:=evalPs_one he
      simp [evalP] at e1
    · cases h
  · cases h
end
end Go.Proofs.Ytboheedjhnbnhaa
namespace Go.Proofs.Ytboheedjhnbnhaa
open Go.RowKit
abbrev SR:=Option (List PO × SV × Sy)
def sbind (r : SR) (k : SV→Sy→SR) : SR :=
  match r with
  | some (p,v,S)=>(match k v S with | some (q,u,T)=>some (p ++ q,u,T) | none=>none)
  | none=>none
theorem sbind_inv {r : SR} {k : SV→Sy→SR} {ps : List PO} {v : SV} {S' : Sy} (h : sbind r k = some (ps,v,S')) : ∃ p v1 S1 q,r = some (p,v1,S1)∧k v1 S1 = some (q,v,S')∧ps = p ++ q:=by
  unfold sbind at h
  split at h
  · rename_i p v1 S1
    split at h
    · rename_i q u T hk
      injection h with h;injection h with h1 h;injection h with h2 h3
      subst h1 h2 h3
      exact ⟨p,v1,S1,q,rfl,hk,rfl⟩
    · cases h
  · cases h
def isB (P : Program) (t : TypeId) : Bool:=match P.underlying t with | some .bool=>true | _=>false
def isS (P : Program) (t : TypeId) : Bool:=match P.underlying t with | some .string=>true | _=>false
theorem isS_ok {P : Program} {t : TypeId} (h : isS P t = true) : P.underlying t = some .string:=by
  unfold isS at h;split at h
  · assumption
  · cases h
theorem binG_F {P : Program} {op : BinOp} {t : TypeId} {a b w : Value} (h : binG op (isB P t) a b = some w) : binF P op t a b = some w:=by
  unfold binG at h
  unfold binF
  split at h
  · exact h
  · exact h
  · rename_i x y
    split at h
    · rename_i hb
      have hu : P.underlying t = some .bool:=by
        unfold isB at hb;split at hb
        · assumption
        · cases hb
      simp only [hu]
      split at h
      · exact h
      · exact h
      · cases h
    · cases h
  · cases h
def sCv (P : Program) (a b : TypeId) (S : Sy) (i : Nat) : SR :=
  match P.underlying a,P.underlying b with
  | some _,some (.int k)=>some ([.cvI k i],.p false [.d S.m],S.bind 1)
  | some _,some .string=>some ([.cvS i],.p false [.d S.m],S.bind 1)
  | _,_=>none
def sBy (S : Sy) : SC→SR
  | .d i=>some ([.cvB i],.p false [.d S.m],S.bind 1)
  | .own i st=>(match S.own i st with
    | some (.row _ _ _ x)=>some ([.cvB x],.p false [.d S.m],S.bind 1)
    | some (.frz _ x)=>some ([.cvB x],.p false [.d S.m],S.bind 1)
    | _=>none)
  | _=>none
def sLen (P : Program) (S : Sy) (t : TypeId) : SC→SR
  | .d i=>if isS P t then some ([.lenS i],.p false [.d S.m],S.bind 1) else if (tel P t).isSome then some ([.lenL i],.p false [.d S.m],S.bind 1) else none
  | .nil=>if (tel P t).isSome then some ([.k (.int .i64 0)],.p false [.d S.m],S.bind 1) else none
  | .own i st=>if (tel P t).isSome then (match S.own i st with
    | some (.row _ _ _ x)=>some ([.lenL x],.p false [.d S.m],S.bind 1)
    | some (.frz _ x)=>some ([.lenL x],.p false [.d S.m],S.bind 1)
    | some (.dx _ x)=>some ([.lenL x],.p false [.d S.m],S.bind 1)
    | some (.opn _ _ x _)=>some ([.lenL x],.p false [.d S.m],S.bind 1)
    | _=>none) else none
  | .sub i st _ _ m=>if (tel P t).isSome∧(S.own i st).isSome then some ([],.p false [.d m],S) else none
  | .emp=>if (tel P t).isSome then some ([.k (.int .i64 0)],.p false [.d S.m],S.bind 1) else none
  | _=>none
def sOpt (S : Sy) : Option Operand→Option (List PO × Option Nat × Sy)
  | none=>some ([],none,S)
  | some x=>match sev S x with | some (p,v,S1)=>(match dat v with | some i=>some (p,some i,S1) | none=>none) | none=>none
def sCut (P : Program) (t : TypeId) (i : Nat) (lo hi : Option Nat) (S : Sy) : SR :=
  if isS P t then some ([.cutS i lo hi],.p false [.d S.m],S.bind 1) else match tel P t with | some (_,k)=>some ([.cutL k i lo hi],.p false [.d S.m],S.bind 1) | none=>none
def sSlc (P : Program) (t : TypeId) (S : Sy) (v : SV) (lo hi : Option Operand) : SR :=
  match dat v with
  | some i=>(match sOpt S lo with
    | some (p,l,S1)=>(match sOpt S1 hi with
      | some (q,h,S2)=>(match sCut P t i l h S2 with | some (r,u,S3)=>some (p ++ (q ++ r),u,S3) | none=>none)
      | none=>none)
    | none=>none)
  | none=>(match v with
    | .p false [.own i st]=>(match tel P t,S.own i st with
      | some (_,k1),some (.row _ _ k x)=>if k1 = k then (match sOpt S lo with
        | some (p,l,S1)=>(match sOpt S1 hi with
          | some (q,h,S2)=>some (p ++ (q ++ [.cutI x l h]),.p false [.sub i st k S2.m (S2.m + 1)],S2.bind 2)
          | none=>none)
        | none=>none) else none
      | _,_=>none)
    | .p false [.sub i st k z m]=>(match tel P t,S.own i st with
      | some (_,k1),some (.row _ _ k2 x)=>if k1 = k∧k2 = k then (match sOpt S lo with
        | some (p,l,S1)=>(match sOpt S1 hi with
          | some (q,h,S2)=>some (p ++ (q ++ [.cutJ z m l h]),.p false [.sub i st k S2.m (S2.m + 1)],S2.bind 2)
          | none=>none)
        | none=>none) else none
      | _,_=>none)
    | _=>none)
def dds : List SC→Option (List Nat)
  | []=>some []
  | .d i :: r=>(match dds r with | some is=>some (i :: is) | none=>none)
  | _ :: _=>none
theorem dds_rv {ρ : List DV} {σ : List Nat} : ∀ {cs : List SC} {is : List Nat} {ys : List AC},dds cs = some is→RCs ρ σ cs ys→∃ ds,ys = ds.map .d∧RD ρ is ds
  | [],is,ys,h,hc=>by
    simp only [dds] at h;injection h with h;subst h
    cases ys with
    | nil=>exact ⟨[],rfl,trivial⟩
    | cons=>exact hc.elim
  | c :: r,is,[],h,hc=>hc.elim
  | .d i :: r,is,y :: ys,h,hc=>by
    simp only [dds] at h
    split at h
    · rename_i js hj
      injection h with h;subst h
      obtain ⟨x,rfl,hx⟩:=rc_d hc.1
      obtain ⟨ds,rfl,h2⟩:=dds_rv hj hc.2
      exact ⟨x :: ds,rfl,hx,h2⟩
    · cases h
  | .nil :: _,is,_ :: _,h,_=>by simp [dds] at h
  | .own _ _ :: _,is,_ :: _,h,_=>by simp [dds] at h
  | .ptr _ _ _ :: _,is,_ :: _,h,_=>by simp [dds] at h
  | .elt _ _ _ _ _ :: _,is,_ :: _,h,_=>by simp [dds] at h
  | .sub _ _ _ _ _ :: _,is,_ :: _,h,_=>by simp [dds] at h
  | .emp :: _,is,_ :: _,h,_=>by simp [dds] at h
  | .rd _ :: _,is,_ :: _,h,_=>by simp [dds] at h
theorem eqKD_A : ∀ {ks : List Kd} {ds es : List DV} {b : Bool},eqKD ks ds es = some b→eqKA ks (ds.map .d) (es.map .d) = some b
  | [],[],[],b,h=>h
  | k :: ks,.sc x :: ds,.sc y :: es,b,h=>by
    simp only [eqKD] at h
    split at h
    · rename_i p q h1 h2
      injection h with h;subst h
      simp only [List.map_cons,eqKA,h1,eqKD_A h2]
    · cases h
  | [],_ :: _,_,_,h=>by simp [eqKD] at h
  | [],[],_ :: _,_,h=>by simp [eqKD] at h
  | _ :: _,[],_,_,h=>by simp [eqKD] at h
  | _ :: _,_ :: _,[],_,h=>by simp [eqKD] at h
  | _ :: _,.sl _ _ _ :: _,_ :: _,_,h=>by simp [eqKD] at h
  | _ :: _,.sc _ :: _,.sl _ _ _ :: _,_,h=>by simp [eqKD] at h
def sEq (P : Program) (op : BinOp) (t : TypeId) (S : Sy) (v u : SV) : SR :=
  match v,u with
  | .p true cs,.p true cs'=>(match dds cs,dds cs',stKinds P t,op with
    | some is,some js,some ks,.eql=>some ([.eqS false ks is js],.p false [.d S.m],S.bind 1)
    | some is,some js,some ks,.neq=>some ([.eqS true ks is js],.p false [.d S.m],S.bind 1)
    | _,_,_,_=>none)
  | _,_=>none
def sHV (P : Program) (S : Sy) : Op→SR
  | .move x=>sev S x
  | .assign x=>sev S x
  | .pick c x y=>sbind (sev S c) fun v S1=>match dat v with | some i=>(match alook S1.kn i with | some b=>sev S1 (if b then x else y) | none=>none) | none=>none
  | .load t x=>sbind (sev S x) fun v S1=>match one v with | some c=>sLoad P S1 t c | none=>none
  | .fieldAddr t x f=>sbind (sev S x) fun v S1=>match one v with | some c=>(match sFa P S1 t f c with | some u=>some ([],u,S1) | none=>none) | none=>none
  | .field t x f=>sbind (sev S x) fun v S1=>match sFv P t f v with | some u=>some ([],u,S1) | none=>none
  | .indexAddr t x ix=>sbind (sev S ix) fun v S1=>match dat v with | some i=>sbind (sev S1 x) fun u S2=>(match one u with | some c=>sbind (some ([.isI i],.p false [],S2)) fun _ S3=>sIdx P S3 t i c | none=>none) | none=>none
  | .index t x ix=>sbind (sev S x) fun v S1=>sbind (sev S1 ix) fun u S2=>match dat v,dat u with | some i,some j=>if isS P t then some ([.chr i j],.p false [.d S2.m],S2.bind 1) else none | _,_=>none
  | .binOp op t x y _=>sbind (sev S x) fun v S1=>sbind (sev S1 y) fun u S2=>match dat v,dat u with | some i,some j=>some ([.bin op (isB P t) i j],.p false [.d S2.m],S2.bind 1) | _,_=>sEq P op t S2 v u
  | .unOp op _ x=>sbind (sev S x) fun v S1=>match dat v with | some i=>some ([.un op i],.p false [.d S1.m],S1.bind 1) | _=>none
  | .convert a b x=>sbind (sev S x) fun v S1=>if bytesT P a b then (match one v with | some c=>sBy S1 c | none=>none) else match dat v with | some i=>sCv P a b S1 i | _=>none
  | .extract x ix=>sbind (sev S x) fun v S1=>match v with | .tup xs=>(match xs[ix]? with | some (b,cs)=>some ([],.p b cs,S1) | none=>none) | _=>none
  | .slice t x lo hi none=>sbind (sev S x) fun v S1=>sSlc P t S1 v lo hi
  | .call c=>match c.callee,c.args.toList,c.argTypes.toList with
    | .builtin .len,[x],[t]=>sbind (sev S x) fun v S1=>(match one v with | some c=>sLen P S1 t c | none=>none)
    | .builtin .max,[x,y],_=>sbind (sev S x) fun v S1=>sbind (sev S1 y) fun u S2=>(match dat v,dat u with | some i,some j=>some ([.mm true i j],.p false [.d S2.m],S2.bind 1) | _,_=>none)
    | .builtin .min,[x,y],_=>sbind (sev S x) fun v S1=>sbind (sev S1 y) fun u S2=>(match dat v,dat u with | some i,some j=>some ([.mm false i j],.p false [.d S2.m],S2.bind 1) | _,_=>none)
    | _,_,_=>none
  | .nilCheck x=>sbind (sev S x) fun v S1=>match v with | .p false [.own i st]=>(match S1.own i st with | some (.cur _ _ _ _)=>some ([],v,S1) | _=>none) | _=>none
  | _=>none
section
variable {P : Program} {ρ ρ' : List DV} {σ σ' : List Nat} {S S' : Sy} {s : AS} {ps : List PO} {v : SV}
theorem out1 (hr : Rel S ρ σ s) {o : PO} {w : Value} (h : evalP ρ o = some [.sc w]) (he : evalPs [o] ρ = some ρ') : RV ρ' σ (.p false [.d S.m]) (scAV w)∧Rel (S.bind 1) ρ' σ s:=by
  obtain ⟨out,h1,rfl⟩:=evalPs_one he
  rw [h] at h1;injection h1 with h1;subst h1
  exact ⟨⟨rfl,by show (_ : List DV)[_]? = _;simp [← hr.m],trivial⟩,hr.bind rfl⟩
theorem sc1_some {x : Option Value} {out : List DV} (h : sc1 x = some out) : ∃ w,x = some w∧out = [.sc w]:=by
  unfold sc1 at h;split at h
  · injection h with h;exact ⟨_,rfl,h.symm⟩
  · cases h
theorem sCv_ok {a b : TypeId} {i : Nat} (h : sCv P a b S i = some (ps,v,S')) (he : evalPs ps ρ = some ρ') (hr : Rel S ρ σ s) {y : DV} (hy : ρ[i]? = some y) : ∃ u,cvV P a b (.p false [.d y]) = some u∧RV ρ' σ v u∧Rel S' ρ' σ s:=by
  unfold sCv at h
  split at h
  · rename_i d k h1 h2
    injection h with h;injection h with e1 h;injection h with e2 e3
    subst e1 e2 e3
    obtain ⟨out,o1,-⟩:=evalPs_one he
    simp only [evalP,hy] at o1
    split at o1
    · rename_i kk n hyy
      injection hyy with hyy;subst hyy
      injection o1 with o1
      obtain ⟨q1,q2⟩:=out1 (w:=.int k (k.wrap n)) hr (by simp [evalP,hy]) he
      exact ⟨_,by simp [cvV,cvF,h1,h2],q1,q2⟩
    · cases o1
  · rename_i d h1 h2
    injection h with h;injection h with e1 h;injection h with e2 e3
    subst e1 e2 e3
    obtain ⟨out,o1,-⟩:=evalPs_one he
    simp only [evalP,hy] at o1
    split at o1
    · rename_i n hyy
      injection hyy with hyy;subst hyy
      injection o1 with o1
      obtain ⟨q1,q2⟩:=out1 (w:=.string n) hr (by simp [evalP,hy]) he
      exact ⟨_,by simp [cvV,cvF,h1,h2],q1,q2⟩
    · cases o1
  · cases h
theorem cvV_bytes {a b : TypeId} {y : DV} {t k : Nat} {es : List (List DV)} (hy : y = .sl t k es) : cvV P a b (.p false [.d y]) = none:=by subst hy;rfl
theorem sBy_ok {a b : TypeId} {c : SC} {y : AC} (hT : bytesT P a b = true) (h : sBy S c = some (ps,v,S')) (he : evalPs ps ρ = some ρ') (hr : Rel S ρ σ s) (hc : RC ρ σ c y) : ∃ u,cvE P s a b (.p false [y]) = some u∧RV ρ' σ v u∧Rel S' ρ' σ s:=by
  have fin : ∀ {x : Nat} {d : DV},ps = [.cvB x]→v = .p false [.d S.m]→S' = S.bind 1→ρ[x]? = some d→rdO s y = some d→cvV P a b (.p false [y]) = none→∃ u,cvE P s a b (.p false [y]) = some u∧RV ρ' σ v u∧Rel S' ρ' σ s:=by
    intro x d e1 e2 e3 hx hrd hcv
    subst e1 e2 e3
    obtain ⟨out,o1,-⟩:=evalPs_one he
    have o1':=o1
    simp only [evalP,hx] at o1
    split at o1
    · rename_i t es hd
      injection hd with hd;subst hd
      split at o1
      · rename_i xs hn
        injection o1 with o1;subst o1
        obtain ⟨q1,q2⟩:=out1 hr o1' he
        exact ⟨_,by simp only [cvE,hcv,cvB,hT,if_true,hrd,hn],q1,q2⟩
      · cases o1
    · cases o1
  unfold sBy at h
  split at h
  · rename_i i
    injection h with h;injection h with e1 h;injection h with e2 e3
    obtain ⟨x,rfl,hx⟩:=rc_d hc
    obtain ⟨out,o1,-⟩:=evalPs_one (e1 ▸ he)
    have hcv : cvV P a b (.p false [.d x]) = none:=by
      simp only [evalP,hx] at o1
      split at o1
      · rename_i t es hd
        injection hd with hd
        exact cvV_bytes hd
      · cases o1
    exact fin e1.symm e2.symm e3.symm hx rfl hcv
  · cases y <;> first | exact hc.elim | skip
    obtain ⟨rfl,hst⟩:=hc
    split at h
    · rename_i ho
      injection h with h;injection h with e1 h;injection h with e2 e3
      obtain ⟨o',k1,k2,k3,k4⟩:=hr.own ho hst
      cases o' <;> first | exact k2.elim | skip
      obtain ⟨-,rfl,rfl,rfl,hx⟩:=k2
      obtain ⟨g1,g2,g3⟩:=own?_some k1
      refine fin e1.symm e2.symm e3.symm hx ?_ rfl
      simp only [AS.lv,if_pos g1,g2,Ob.st,Option.some.injEq] at g3
      subst g3
      simp only [rdO,if_pos g1,g2,if_true]
    · rename_i ho
      injection h with h;injection h with e1 h;injection h with e2 e3
      obtain ⟨o',k1,k2,k3,k4⟩:=hr.own ho hst
      cases o' <;> first | exact k2.elim | skip
      obtain ⟨-,hx⟩:=k2
      obtain ⟨g1,g2,g3⟩:=own?_some k1
      refine fin e1.symm e2.symm e3.symm hx ?_ rfl
      simp only [AS.lv,if_pos g1,g2,Ob.st,Option.some.injEq] at g3
      subst g3
      simp only [rdO,if_pos g1,g2,if_true]
    · cases h
  · cases h
theorem sLen_ok {t : TypeId} {c : SC} {y : AC} (h : sLen P S t c = some (ps,v,S')) (he : evalPs ps ρ = some ρ') (hr : Rel S ρ σ s) (hc : RC ρ σ c y) : ∃ n,lenV P s t y = some n∧RV ρ' σ v (scAV (.int .i64 n))∧Rel S' ρ' σ s:=by
  have fin : ∀ {o : PO} {n : Nat},ps = [o]→v = .p false [.d S.m]→S' = S.bind 1→evalP ρ o = some [.sc (.int .i64 n)]→RV ρ' σ v (scAV (.int .i64 n))∧Rel S' ρ' σ s:=by
    intro o n e1 e2 e3 e4;subst e1 e2 e3;exact out1 hr e4 he
  unfold sLen at h
  split at h
  · obtain ⟨x,rfl,hx⟩:=rc_d hc
    split at h
    · rename_i hs
      injection h with h;injection h with e1 h;injection h with e2 e3
      obtain ⟨out,o1,-⟩:=evalPs_one (e1 ▸ he)
      simp only [evalP,hx] at o1
      split at o1
      · rename_i b hb
        injection hb with hb;subst hb
        exact ⟨b.size,by simp [lenV,isS_ok hs],fin e1.symm e2.symm e3.symm (by simp [evalP,hx])⟩
      · cases o1
    · split at h
      · rename_i ht
        injection h with h;injection h with e1 h;injection h with e2 e3
        obtain ⟨out,o1,-⟩:=evalPs_one (e1 ▸ he)
        simp only [evalP,hx] at o1
        split at o1
        · rename_i tt kk es hb
          injection hb with hb;subst hb
          exact ⟨es.length,by simp [lenV,ht],fin e1.symm e2.symm e3.symm (by simp [evalP,hx])⟩
        · cases o1
      · cases h
  · cases y <;> first | exact hc.elim | skip
    split at h
    · rename_i ht
      injection h with h;injection h with e1 h;injection h with e2 e3
      exact ⟨0,by simp [lenV,ht],fin e1.symm e2.symm e3.symm (by simp [evalP,isSc])⟩
    · cases h
  · cases y <;> first | exact hc.elim | skip
    obtain ⟨rfl,hst⟩:=hc
    split at h
    · rename_i ht
      split at h
      · rename_i ho
        injection h with h;injection h with e1 h;injection h with e2 e3
        obtain ⟨o',k1,k2,-,-⟩:=hr.own ho hst
        cases o' <;> first | exact k2.elim | skip
        rename_i b ty' kk es' dp
        obtain ⟨-,rfl,rfl,rfl,hx⟩:=k2
        exact ⟨es'.length,by simp [lenV,ht,k1],fin e1.symm e2.symm e3.symm (by simp [evalP,hx])⟩
      · rename_i ho
        injection h with h;injection h with e1 h;injection h with e2 e3
        obtain ⟨o',k1,k2,-,-⟩:=hr.own ho hst
        cases o' <;> first | exact k2.elim | skip
        rename_i b yy
        obtain ⟨-,hx⟩:=k2
        obtain ⟨out,o1,-⟩:=evalPs_one (e1 ▸ he)
        simp only [evalP,hx] at o1
        split at o1
        · rename_i tt kk es hb
          injection hb with hb;subst hb
          exact ⟨es.length,by simp [lenV,ht,k1],fin e1.symm e2.symm e3.symm (by simp [evalP,hx])⟩
        · cases o1
      · rename_i ho
        injection h with h;injection h with e1 h;injection h with e2 e3
        obtain ⟨o',k1,k2,-,-⟩:=hr.own ho hst
        cases o' <;> first | exact k2.elim | skip
        rename_i b yy
        obtain ⟨-,hx⟩:=k2
        obtain ⟨out,o1,-⟩:=evalPs_one (e1 ▸ he)
        simp only [evalP,hx] at o1
        split at o1
        · rename_i tt kk es hb
          injection hb with hb;subst hb
          exact ⟨es.length,by simp [lenV,ht,k1],fin e1.symm e2.symm e3.symm (by simp [evalP,hx])⟩
        · cases o1
      · rename_i ho
        injection h with h;injection h with e1 h;injection h with e2 e3
        obtain ⟨o',k1,k2,-,-⟩:=hr.own ho hst
        cases o' <;> first | exact k2.elim | skip
        rename_i b ty' kk es' dp
        obtain ⟨-,rfl,hx,-⟩:=k2
        exact ⟨es'.length,by simp [lenV,ht,k1],fin e1.symm e2.symm e3.symm (by simp [evalP,hx])⟩
      · cases h
    · cases h
  · cases y <;> first | exact hc.elim | skip
    obtain ⟨rfl,hst,rfl,⟨u,u1,u2,rfl⟩,⟨v',v1,v2,rfl⟩⟩:=hc
    split at h
    · rename_i hs
      injection h with h;injection h with e1 h;injection h with e2 e3
      subst e1 e2 e3
      simp only [evalPs] at he;injection he with he;subst he
      have hso:=own_isSome hr hs.2 hst
      exact ⟨v'.toNat,by simp [lenV,hs.1,hso],⟨rfl,by show (_ : List DV)[_]? = _;rw [v1];congr 3;omega,trivial⟩,hr⟩
    · cases h
  · cases y <;> first | exact hc.elim | skip
    split at h
    · rename_i ht
      injection h with h;injection h with e1 h;injection h with e2 e3
      exact ⟨0,by simp [lenV,ht],fin e1.symm e2.symm e3.symm (by simp [evalP,isSc])⟩
    · cases h
  · cases h
theorem sOpt_ok {x : Option Operand} {l : Option Nat} (h : sOpt S x = some (ps,l,S')) (he : evalPs ps ρ = some ρ') (hr : Rel S ρ σ s) : Rel S' ρ' σ s∧∀ ρ'' r,Pre ρ' ρ''→gIo ρ'' l = some r→s.evI x = some r:=by
  unfold sOpt at h
  split at h
  · injection h with h;injection h with e1 h;injection h with e2 e3
    subst e1 e2 e3
    simp only [evalPs] at he;injection he with he;subst he
    refine ⟨hr,fun ρ'' r _ hg=>?_⟩
    simp only [gIo] at hg;injection hg with hg;subst hg;rfl
  · rename_i x
    split at h
    · rename_i p v1 S1 hv
      split at h
      · rename_i i hd
        injection h with h;injection h with e1 h;injection h with e2 e3
        subst e1 e2 e3
        obtain ⟨k1,k2⟩:=sev_ok hv he hr
        refine ⟨k2,fun ρ'' r hp hg=>?_⟩
        obtain ⟨y,y1,y2⟩:=dat_rv hd k1
        simp only [gIo,gI,hp.get y2] at hg
        split at hg
        · rename_i kd z hz
          injection hz with hz;subst hz
          simp only [Option.map_some] at hg;injection hg with hg;subst hg
          simp [AS.evI,y1]
        · cases hg
      · cases h
    · cases h
theorem sSlc_ok {t : TypeId} {lo hi : Option Operand} {u : SV} {x : AV} (h : sSlc P t S u lo hi = some (ps,v,S')) (he : evalPs ps ρ = some ρ') (hr : Rel S ρ σ s) (hu : RV ρ σ u x) :
    ∃ l h' y,s.evI lo = some l∧s.evI hi = some h'∧slcV P s t x l h' = some y∧RV ρ' σ v y∧Rel S' ρ' σ s:=by
  unfold sSlc at h
  split at h
  · rename_i i hd
    split at h
    · rename_i p l S1 h1
      split at h
      · rename_i q hh S2 h2
        split at h
        · rename_i r u' S3 h3
          injection h with h;injection h with e1 h;injection h with e2 e3
          subst e1 e2 e3
          obtain ⟨ρ1,a1,a2⟩:=evalPs_app he
          obtain ⟨ρ2,b1,b2⟩:=evalPs_app a2
          obtain ⟨r1,f1⟩:=sOpt_ok h1 a1 hr
          obtain ⟨r2,f2⟩:=sOpt_ok h2 b1 r1
          have p12:=evalPs_pre b1
          have p02 : Pre ρ ρ2:=(evalPs_pre a1).trans p12
          obtain ⟨y,rfl,hy⟩:=dat_rv hd hu
          have hy2:=p02.get hy
          unfold sCut at h3
          split at h3
          · rename_i hs
            injection h3 with h3;injection h3 with e1 h3;injection h3 with e2 e3
            subst e1 e2 e3
            obtain ⟨out,o1,o2⟩:=evalPs_one b2
            have o1':=o1
            simp only [evalP,hy2] at o1
            split at o1
            · rename_i b lv hv' g1 g2 g3
              injection g1 with g1;subst g1
              split at o1
              · rename_i a b' hc
                injection o1 with o1
                subst o1
                obtain ⟨q1,q2⟩:=out1 (w:=.string (b.extract a b')) r2 o1' b2
                exact ⟨lv,hv',_,f1 _ _ p12 g2,f2 _ _ (Pre.refl _) g3,by simp [slcV,isS_ok hs,hc],q1,q2⟩
              · cases o1
            · cases o1
          · split at h3
            · rename_i el k ht
              injection h3 with h3;injection h3 with e1 h3;injection h3 with e2 e3
              subst e1 e2 e3
              obtain ⟨out,o1,rfl⟩:=evalPs_one b2
              simp only [evalP,hy2] at o1
              split at o1
              · rename_i tt k' es lv hv' g1 g2 g3
                injection g1 with g1;subst g1
                split at o1
                · rename_i hk;subst hk
                  split at o1
                  · rename_i a b' hc
                    injection o1 with o1
                    subst o1
                    refine ⟨lv,hv',.p false [.d (.sl tt k' ((es.drop a).take (b' - a)))],f1 _ _ p12 g2,f2 _ _ (Pre.refl _) g3,by simp [slcV,ht,hc],⟨rfl,by show (_ : List DV)[_]? = _;simp [← r2.m],trivial⟩,r2.bind rfl⟩
                  · cases o1
                · cases o1
              · cases o1
            · cases h3
        · cases h
      · cases h
    · cases h
  · split at h
    · rename_i i st hdd
      split at h
      · rename_i el k1 a ty k xx ht ho
        split at h
        · rename_i hk;subst hk
          split at h
          · rename_i p l S1 h1
            split at h
            · rename_i q hh S2 h2
              injection h with h;injection h with e1 h;injection h with e2 e3
              subst e1 e2 e3
              obtain ⟨ρ1,a1,a2⟩:=evalPs_app he
              obtain ⟨ρ2,b1,b2⟩:=evalPs_app a2
              obtain ⟨r1,f1⟩:=sOpt_ok h1 a1 hr
              obtain ⟨r2,f2⟩:=sOpt_ok h2 b1 r1
              have p12:=evalPs_pre b1
              have p02 : Pre ρ ρ2:=(evalPs_pre a1).trans p12
              obtain ⟨y,rfl,hy⟩:=one_rv (c:=.own i st) rfl hu
              cases y <;> first | exact hy.elim | skip
              obtain ⟨rfl,hst⟩:=hy
              obtain ⟨o',q1,q2,-,-⟩:=hr.own ho hst
              cases o' <;> first | exact q2.elim | skip
              rename_i b ty' kk es' dp
              obtain ⟨-,rfl,rfl,rfl,hx⟩:=q2
              obtain ⟨out,o1,rfl⟩:=evalPs_one b2
              simp only [evalP,p02.get hx] at o1
              split at o1
              · rename_i tt k3 es lv hv' g1 g2 g3
                injection g1 with g1;injection g1 with g1 g1' g1''
                subst g1 g1' g1''
                split at o1
                · rename_i a' b' hc
                  injection o1 with o1;subst o1
                  refine ⟨lv,hv',.p false [.sub _ _ kk a' (b' - a')],f1 _ _ p12 g2,f2 _ _ (Pre.refl _) g3,by simp [slcV,ht,q1,hc],⟨rfl,⟨rfl,hst,rfl,⟨((a' : Nat) : Int),by simp [← r2.m],by omega,by simp⟩,⟨((b' - a' : Nat) : Int),by rw [← r2.m];simp,by omega,by simp⟩⟩,trivial⟩,r2.bind rfl⟩
                · cases o1
              · cases o1
            · cases h
          · cases h
        · cases h
      · cases h
    · rename_i i st k zz mm hdd
      split at h
      · rename_i el k1 a ty k2 xx ht ho
        split at h
        · rename_i hk;obtain ⟨rfl,rfl⟩:=hk
          split at h
          · rename_i p l S1 h1
            split at h
            · rename_i q hh S2 h2
              injection h with h;injection h with e1 h;injection h with e2 e3
              subst e1 e2 e3
              obtain ⟨ρ1,a1,a2⟩:=evalPs_app he
              obtain ⟨ρ2,b1,b2⟩:=evalPs_app a2
              obtain ⟨r1,f1⟩:=sOpt_ok h1 a1 hr
              obtain ⟨r2,f2⟩:=sOpt_ok h2 b1 r1
              have p12:=evalPs_pre b1
              have p02 : Pre ρ ρ2:=(evalPs_pre a1).trans p12
              obtain ⟨y,rfl,hy⟩:=one_rv (c:=.sub i st _ zz mm) rfl hu
              cases y <;> first | exact hy.elim | skip
              obtain ⟨rfl,hst,rfl,⟨u0,u1,u2,rfl⟩,⟨v0,v1,v2,rfl⟩⟩:=hy
              obtain ⟨o',q1,q2,-,-⟩:=hr.own ho hst
              cases o' <;> first | exact q2.elim | skip
              rename_i b ty' kk es' dp
              obtain ⟨-,rfl,rfl,rfl,hx⟩:=q2
              obtain ⟨out,o1,rfl⟩:=evalPs_one b2
              simp only [evalP,p02.get u1,p02.get v1] at o1
              split at o1
              · rename_i uu vv lv hv' g1 g1' g2 g3
                injection g1 with g1;injection g1 with g1;injection g1 with _ g1
                injection g1' with g1';injection g1' with g1';injection g1' with _ g1'
                subst g1 g1'
                split at o1
                · split at o1
                  · rename_i a' b' hc
                    injection o1 with o1;subst o1
                    refine ⟨lv,hv',.p false [.sub _ _ kk (u0.toNat + a') (b' - a')],f1 _ _ p12 g2,f2 _ _ (Pre.refl _) g3,by simp [slcV,ht,q1,hc],⟨rfl,⟨rfl,hst,rfl,⟨((u0.toNat + a' : Nat) : Int),by rw [← r2.m];simp,by omega,by omega⟩,⟨((b' - a' : Nat) : Int),by rw [← r2.m];simp,by omega,by omega⟩⟩,trivial⟩,r2.bind rfl⟩
                  · cases o1
                · cases o1
              · cases o1
            · cases h
          · cases h
        · cases h
      · cases h
    · cases h
theorem sHV_ok {op : Op} (h : sHV P S op = some (ps,v,S')) (he : evalPs ps ρ = some ρ') (hr : Rel S ρ σ s) : ∃ x,hV P s op = some x∧RV ρ' σ v x∧Rel S' ρ' σ s:=by
  unfold sHV at h
  split at h
  · obtain ⟨k1,k2⟩:=sev_ok h he hr;exact ⟨_,rfl,k1,k2⟩
  · obtain ⟨k1,k2⟩:=sev_ok h he hr;exact ⟨_,rfl,k1,k2⟩
  · rename_i c x y
    obtain ⟨p,v1,S1,q,h1,h2,rfl⟩:=sbind_inv h
    obtain ⟨ρ1,a1,a2⟩:=evalPs_app he
    obtain ⟨k1,k2⟩:=sev_ok h1 a1 hr
    split at h2
    · rename_i i hd
      split at h2
      · rename_i b hb
        obtain ⟨z,z1,z2⟩:=dat_rv hd k1
        rw [k2.kn i b hb] at z2;injection z2 with z2;subst z2
        obtain ⟨m1,m2⟩:=sev_ok h2 a2 k2
        refine ⟨s.ev (if b then x else y),?_,m1,m2⟩
        simp only [hV,z1,pkV]
        cases b <;> rfl
      · cases h2
    · cases h2
  · obtain ⟨p,v1,S1,q,h1,h2,rfl⟩:=sbind_inv h
    obtain ⟨ρ1,a1,a2⟩:=evalPs_app he
    obtain ⟨k1,k2⟩:=sev_ok h1 a1 hr
    split at h2
    · rename_i c hc
      obtain ⟨y,y1,y2⟩:=one_rv hc k1
      obtain ⟨x,x1,x2,x3⟩:=sLoad_ok h2 a2 k2 y2
      exact ⟨x,by simp only [hV,y1];exact x1,x2,x3⟩
    · cases h2
  · obtain ⟨p,v1,S1,q,h1,h2,rfl⟩:=sbind_inv h
    obtain ⟨ρ1,a1,a2⟩:=evalPs_app he
    obtain ⟨k1,k2⟩:=sev_ok h1 a1 hr
    split at h2
    · rename_i c hc
      split at h2
      · rename_i u hu
        injection h2 with h2;injection h2 with e1 h2;injection h2 with e2 e3
        subst e1 e2 e3
        simp only [evalPs] at a2;injection a2 with a2;subst a2
        obtain ⟨y,y1,y2⟩:=one_rv hc k1
        obtain ⟨x,x1,x2⟩:=sFa_ok hu k2 y2
        exact ⟨x,by simp only [hV,y1];exact x1,x2,k2⟩
      · cases h2
    · cases h2
  · obtain ⟨p,v1,S1,q,h1,h2,rfl⟩:=sbind_inv h
    obtain ⟨ρ1,a1,a2⟩:=evalPs_app he
    obtain ⟨k1,k2⟩:=sev_ok h1 a1 hr
    split at h2
    · rename_i u hu
      injection h2 with h2;injection h2 with e1 h2;injection h2 with e2 e3
      subst e1 e2 e3
      simp only [evalPs] at a2;injection a2 with a2;subst a2
      obtain ⟨x,x1,x2⟩:=sFv_ok hu k1
      exact ⟨x,by simp only [hV];exact x1,x2,k2⟩
    · cases h2
  · obtain ⟨p,v1,S1,q,h1,h2,rfl⟩:=sbind_inv h
    obtain ⟨ρ1,a1,a2⟩:=evalPs_app he
    obtain ⟨k1,k2⟩:=sev_ok h1 a1 hr
    split at h2
    · rename_i i hd
      obtain ⟨p2,v2,S2,q2,h3,h4,rfl⟩:=sbind_inv h2
      obtain ⟨ρ2,b1,b2⟩:=evalPs_app a2
      obtain ⟨m1,m2⟩:=sev_ok h3 b1 k2
      split at h4
      · rename_i c hc
        obtain ⟨p3,v3,S3,q3,h5,h6,rfl⟩:=sbind_inv h4
        injection h5 with h5;injection h5 with e1 h5;injection h5 with e2 e3
        subst e1 e2 e3
        obtain ⟨ρ3,c1,c2⟩:=evalPs_app b2
        obtain ⟨out,o1,rfl⟩:=evalPs_one c1
        obtain ⟨z,z1,z2⟩:=dat_rv hd k1
        have z2':=(evalPs_pre b1).get z2
        simp only [evalP,z2'] at o1
        split at o1
        · rename_i kd zz hz
          injection hz with hz;subst hz
          injection o1 with o1;subst o1
          rw [List.append_nil] at c2
          obtain ⟨y,y1,y2⟩:=one_rv hc m1
          obtain ⟨x,x1,x2,x3⟩:=sIdx_ok h6 c2 m2 y2 z2'
          exact ⟨x,by simp only [hV,y1,z1];exact x1,x2,x3⟩
        · cases o1
      · cases h4
    · cases h2
  · obtain ⟨p,v1,S1,q,h1,h2,rfl⟩:=sbind_inv h
    obtain ⟨ρ1,a1,a2⟩:=evalPs_app he
    obtain ⟨k1,k2⟩:=sev_ok h1 a1 hr
    obtain ⟨p2,v2,S2,q2,h3,h4,rfl⟩:=sbind_inv h2
    obtain ⟨ρ2,b1,b2⟩:=evalPs_app a2
    obtain ⟨m1,m2⟩:=sev_ok h3 b1 k2
    split at h4
    · rename_i i j hi hj
      split at h4
      · rename_i hs
        injection h4 with h4;injection h4 with e1 h4;injection h4 with e2 e3
        subst e1 e2 e3
        obtain ⟨y,y1,y2⟩:=dat_rv hi k1
        obtain ⟨z,z1,z2⟩:=dat_rv hj m1
        have y2':=(evalPs_pre b1).get y2
        obtain ⟨out,o1,-⟩:=evalPs_one b2
        have o1':=o1
        simp only [evalP,y2',z2] at o1
        split at o1
        · rename_i b kd zz g1 g2
          injection g1 with g1;injection g2 with g2;subst g1 g2
          split at o1
          · rename_i hz
            split at o1
            · rename_i u hu
              injection o1 with o1;subst o1
              obtain ⟨q1,q2⟩:=out1 m2 o1' b2
              exact ⟨_,by simp only [hV,y1,z1,chV,isS_ok hs];rw [if_pos hz];simp only [hu],q1,q2⟩
            · cases o1
          · cases o1
        · cases o1
      · cases h4
    · cases h4
  · obtain ⟨p,v1,S1,q,h1,h2,rfl⟩:=sbind_inv h
    obtain ⟨ρ1,a1,a2⟩:=evalPs_app he
    obtain ⟨k1,k2⟩:=sev_ok h1 a1 hr
    obtain ⟨p2,v2,S2,q2,h3,h4,rfl⟩:=sbind_inv h2
    obtain ⟨ρ2,b1,b2⟩:=evalPs_app a2
    obtain ⟨m1,m2⟩:=sev_ok h3 b1 k2
    split at h4
    · rename_i i j hi hj
      injection h4 with h4;injection h4 with e1 h4;injection h4 with e2 e3
      subst e1 e2 e3
      obtain ⟨y,y1,y2⟩:=dat_rv hi k1
      obtain ⟨z,z1,z2⟩:=dat_rv hj m1
      have y2':=(evalPs_pre b1).get y2
      obtain ⟨out,o1,-⟩:=evalPs_one b2
      have o1':=o1
      simp only [evalP,y2',z2] at o1
      split at o1
      · rename_i a b g1 g2
        injection g1 with g1;injection g2 with g2;subst g1 g2
        obtain ⟨w,w1,rfl⟩:=sc1_some o1
        obtain ⟨q1,q2⟩:=out1 m2 o1' b2
        exact ⟨_,by simp only [hV,y1,z1,binE,binV,binG_F w1],q1,q2⟩
      · cases o1
    · rename_i op t X Y _ _ _ _
      unfold sEq at h4
      split at h4
      · rename_i cs cs' _
        have key : ∀ (is js : List Nat) (ks : List Kd) (neg : Bool),dds cs = some is→dds cs' = some js→evalPs [.eqS neg ks is js] ρ2 = some ρ'→∃ b,evalP ρ2 (.eqS neg ks is js) = some [.sc (.bool (if neg then !b else b))]∧∃ xs ys,s.ev X = .p true xs∧s.ev Y = .p true ys∧eqKA ks xs ys = some b:=by
          intro is js ks neg g1 g2 g3
          obtain ⟨out,o1,-⟩:=evalPs_one g3
          cases hx : s.ev X with
          | p b1 xs =>
            rw [hx] at k1
            obtain ⟨rfl,c1⟩:=k1
            cases hy : s.ev Y with
            | p b2 ys =>
              rw [hy] at m1
              obtain ⟨rfl,c2⟩:=m1
              obtain ⟨ds,rfl,d1⟩:=dds_rv g1 c1
              obtain ⟨es,rfl,d2⟩:=dds_rv g2 c2
              have o2:=o1
              simp only [evalP,rd_gL (d1.mono (evalPs_pre b1)),rd_gL d2] at o1
              split at o1
              · rename_i b hb
                injection o1 with o1;subst o1
                exact ⟨b,o2,_,_,rfl,rfl,eqKD_A hb⟩
              · cases o1
            | tup=>rw [hy] at m1;exact m1.elim
            | und=>rw [hy] at m1;exact m1.elim
          | tup=>rw [hx] at k1;exact k1.elim
          | und=>rw [hx] at k1;exact k1.elim
        split at h4
        · rename_i is js ks g1 g2 g3
          injection h4 with h4;injection h4 with e1 h4;injection h4 with e2 e3
          subst e1 e2 e3
          obtain ⟨b,o1,xs,ys,hx,hy,hb⟩:=key is js ks false g1 g2 b2
          obtain ⟨q1,q2⟩:=out1 m2 o1 b2
          exact ⟨_,by simp only [hV,hx,hy,binE,binV,eqV,g3,hb];rfl,q1,q2⟩
        · rename_i is js ks g1 g2 g3
          injection h4 with h4;injection h4 with e1 h4;injection h4 with e2 e3
          subst e1 e2 e3
          obtain ⟨b,o1,xs,ys,hx,hy,hb⟩:=key is js ks true g1 g2 b2
          obtain ⟨q1,q2⟩:=out1 m2 o1 b2
          exact ⟨_,by simp only [hV,hx,hy,binE,binV,eqV,g3,hb];rfl,q1,q2⟩
        · cases h4
      · cases h4
  · obtain ⟨p,v1,S1,q,h1,h2,rfl⟩:=sbind_inv h
    obtain ⟨ρ1,a1,a2⟩:=evalPs_app he
    obtain ⟨k1,k2⟩:=sev_ok h1 a1 hr
    split at h2
    · rename_i i hi
      injection h2 with h2;injection h2 with e1 h2;injection h2 with e2 e3
      subst e1 e2 e3
      obtain ⟨y,y1,y2⟩:=dat_rv hi k1
      obtain ⟨out,o1,-⟩:=evalPs_one a2
      have o1':=o1
      simp only [evalP,y2] at o1
      split at o1
      · rename_i a g1
        injection g1 with g1;subst g1
        obtain ⟨w,w1,rfl⟩:=sc1_some o1
        obtain ⟨q1,q2⟩:=out1 k2 o1' a2
        exact ⟨_,by simp only [hV,y1,unV,w1],q1,q2⟩
      · cases o1
    · cases h2
  · obtain ⟨p,v1,S1,q,h1,h2,rfl⟩:=sbind_inv h
    obtain ⟨ρ1,a1,a2⟩:=evalPs_app he
    obtain ⟨k1,k2⟩:=sev_ok h1 a1 hr
    split at h2
    · rename_i hT
      split at h2
      · rename_i c hc
        obtain ⟨y,y1,y2⟩:=one_rv hc k1
        obtain ⟨u,u1,u2,u3⟩:=sBy_ok hT h2 a2 k2 y2
        exact ⟨u,by simp only [hV,y1,u1],u2,u3⟩
      · cases h2
    · split at h2
      · rename_i i hi
        obtain ⟨y,y1,y2⟩:=dat_rv hi k1
        obtain ⟨u,u1,u2,u3⟩:=sCv_ok h2 a2 k2 y2
        exact ⟨u,by simp only [hV,y1,cvE,u1],u2,u3⟩
      · cases h2
  · rename_i x ix
    obtain ⟨p,v1,S1,q,h1,h2,rfl⟩:=sbind_inv h
    obtain ⟨ρ1,a1,a2⟩:=evalPs_app he
    obtain ⟨k1,k2⟩:=sev_ok h1 a1 hr
    split at h2
    · rename_i xs
      split at h2
      · rename_i b cs hx
        injection h2 with h2;injection h2 with e1 h2;injection h2 with e2 e3
        subst e1 e2 e3
        simp only [evalPs] at a2;injection a2 with a2;subst a2
        cases hs : s.ev x with
        | tup ys =>
          rw [hs] at k1
          obtain ⟨y,y1,y2,y3⟩:=rt_get k1 hx
          obtain ⟨yb,yc⟩:=y
          exact ⟨.p yb yc,by simp only [hV,hs,xtV,y1],⟨y2,y3⟩,k2⟩
        | p=>rw [hs] at k1;exact k1.elim
        | und=>rw [hs] at k1;exact k1.elim
      · cases h2
    · cases h2
  · obtain ⟨p,v1,S1,q,h1,h2,rfl⟩:=sbind_inv h
    obtain ⟨ρ1,a1,a2⟩:=evalPs_app he
    obtain ⟨k1,k2⟩:=sev_ok h1 a1 hr
    obtain ⟨l,h',y,y1,y2,y3,y4,y5⟩:=sSlc_ok h2 a2 k2 k1
    exact ⟨y,by simp only [hV,y1,y2];exact y3,y4,y5⟩
  · rename_i c
    split at h
    · rename_i x t hc1 hc2 hc3
      obtain ⟨p,v1,S1,q,h1,h2,rfl⟩:=sbind_inv h
      obtain ⟨ρ1,a1,a2⟩:=evalPs_app he
      obtain ⟨k1,k2⟩:=sev_ok h1 a1 hr
      split at h2
      · rename_i c' hc
        obtain ⟨y,y1,y2⟩:=one_rv hc k1
        obtain ⟨n,n1,n2,n3⟩:=sLen_ok h2 a2 k2 y2
        exact ⟨_,by simp only [hV,hc1,hc2,hc3,lenC,y1,n1],n2,n3⟩
      · cases h2
    · rename_i x y _ hc1 hc2
      obtain ⟨p,v1,S1,q,h1,h2,rfl⟩:=sbind_inv h
      obtain ⟨ρ1,a1,a2⟩:=evalPs_app he
      obtain ⟨k1,k2⟩:=sev_ok h1 a1 hr
      obtain ⟨p2,v2,S2,q2,h3,h4,rfl⟩:=sbind_inv h2
      obtain ⟨ρ2,b1,b2⟩:=evalPs_app a2
      obtain ⟨m1,m2⟩:=sev_ok h3 b1 k2
      split at h4
      · rename_i i j hi hj
        injection h4 with h4;injection h4 with e1 h4;injection h4 with e2 e3
        subst e1 e2 e3
        obtain ⟨y,y1,y2⟩:=dat_rv hi k1
        obtain ⟨z,z1,z2⟩:=dat_rv hj m1
        have y2':=(evalPs_pre b1).get y2
        obtain ⟨out,o1,-⟩:=evalPs_one b2
        have o1':=o1
        simp only [evalP,y2',z2] at o1
        split at o1
        · rename_i k a k' b g1 g2
          injection g1 with g1;injection g2 with g2;subst g1 g2
          split at o1
          · rename_i e
            injection o1 with o1;subst o1
            obtain ⟨q1,q2⟩:=out1 m2 o1' b2
            exact ⟨_,by simp only [hV,hc1,hc2,lenC,y1,z1,mmV];rw [if_pos e],q1,q2⟩
          · cases o1
        · cases o1
      · cases h4
    · rename_i x y _ hc1 hc2
      obtain ⟨p,v1,S1,q,h1,h2,rfl⟩:=sbind_inv h
      obtain ⟨ρ1,a1,a2⟩:=evalPs_app he
      obtain ⟨k1,k2⟩:=sev_ok h1 a1 hr
      obtain ⟨p2,v2,S2,q2,h3,h4,rfl⟩:=sbind_inv h2
      obtain ⟨ρ2,b1,b2⟩:=evalPs_app a2
      obtain ⟨m1,m2⟩:=sev_ok h3 b1 k2
      split at h4
      · rename_i i j hi hj
        injection h4 with h4;injection h4 with e1 h4;injection h4 with e2 e3
        subst e1 e2 e3
        obtain ⟨y,y1,y2⟩:=dat_rv hi k1
        obtain ⟨z,z1,z2⟩:=dat_rv hj m1
        have y2':=(evalPs_pre b1).get y2
        obtain ⟨out,o1,-⟩:=evalPs_one b2
        have o1':=o1
        simp only [evalP,y2',z2] at o1
        split at o1
        · rename_i k a k' b g1 g2
          injection g1 with g1;injection g2 with g2;subst g1 g2
          split at o1
          · rename_i e
            injection o1 with o1;subst o1
            obtain ⟨q1,q2⟩:=out1 m2 o1' b2
            exact ⟨_,by simp only [hV,hc1,hc2,lenC,y1,z1,mmV];rw [if_pos e],q1,q2⟩
          · cases o1
        · cases o1
      · cases h4
    · cases h
  · obtain ⟨p,v1,S1,q,h1,h2,rfl⟩:=sbind_inv h
    obtain ⟨ρ1,a1,a2⟩:=evalPs_app he
    obtain ⟨k1,k2⟩:=sev_ok h1 a1 hr
    split at h2
    · rename_i i st
      split at h2
      · rename_i ob id t z ho
        injection h2 with h2;injection h2 with e1 h2;injection h2 with e2 e3;subst e1 e2 e3
        simp only [evalPs] at a2;injection a2 with a2;subst a2
        obtain ⟨y,y1,y2⟩:=one_rv (c:=.own i st) rfl k1
        cases y <;> first | exact y2.elim | skip
        rename_i i' st'
        obtain ⟨rfl,hst⟩:=y2
        obtain ⟨o',m1,m2,-,-⟩:=k2.own ho hst
        cases o' <;> first | exact m2.elim | skip
        refine ⟨.p false [.own i' st'],?_,⟨rfl,⟨rfl,hst⟩,trivial⟩,k2⟩
        simp only [hV,ncV,y1,m1]
      · cases h2
    · cases h2
  · cases h
end
end Go.Proofs.Ytboheedjhnbnhaa
namespace Go.Proofs.Ytboheedjhnbnhaa
open Go.RowKit
def Sy.push (S : Sy) (o : SO) : Sy:={ S with ob:=(S.n,o) :: S.ob,n:=S.n + 1,c:=S.c + 1 }
section
variable {P : Program} {ρ ρ' : List DV} {σ σ' : List Nat} {S S' : Sy} {s s' : AS} {ps : List PO} {v : SV}
theorem Rel.upd (h : Rel S ρ σ s) (hp : Pre σ σ') {c' n' i : Nat} {so : SO} (hc : σ'.length = c') (hn : s'.n = n') (hle : S.n≤n') (hi : i < n') (hsl : s'.sl = s.sl) (hob : ∀ j,j ≠ i→s'.ob j = s.ob j) (ho : RO ρ σ' so (s'.ob i)) :
    Rel { S with ob:=(i,so) :: S.ob,n:=n',c:=c' } ρ σ' s':=by
  refine ⟨hn,hc,h.m,fun t x hx=>?_,fun j x hx=>?_,h.kn⟩
  · rw [hsl];exact (h.sl t x hx).mono (Pre.refl _) hp
  · simp only [alook] at hx
    split at hx
    · rename_i e;injection hx with hx;subst e hx;exact ⟨hi,ho⟩
    · rename_i e
      obtain ⟨k1,k2⟩:=h.ob j x hx
      refine ⟨Nat.lt_of_lt_of_le k1 hle,?_⟩
      rw [hob j (fun e'=>e e'.symm)];exact k2.mono (Pre.refl _) hp
theorem Rel.last (h : Rel S ρ σ s) (x : Nat) : (σ ++ [x])[S.c]? = some x:=by simp [← h.c]
theorem Rel.push (h : Rel S ρ σ s) {so : SO} {ob : Ob} (ho : RO ρ (σ ++ [s.c]) so ob) : Rel (S.push so) ρ (σ ++ [s.c]) (s.push ob):=by
  have:=h.upd (s':=s.push ob) (i:=S.n) (n':=S.n + 1) (c':=S.c + 1) (so:=so) (Pre.app σ [s.c]) (by simp [h.c]) (by simp [AS.push,h.n]) (by omega) (by omega) rfl
    (fun j hj=>by simp only [AS.push];rw [h.n,upd_ne _ _ hj]) (by simp only [AS.push,h.n,upd_same];exact ho)
  exact this
def sokC (S : Sy) : SC→Bool
  | .d _=>true
  | .nil=>true
  | .own i st=>(S.own i st).isSome
  | .ptr i st _=>(S.own i st).isSome
  | .elt i st _ _ _=>(S.own i st).isSome
  | .sub i st _ _ _=>(S.own i st).isSome
  | .emp=>true
  | .rd _=>true
theorem sokC_ok (hr : Rel S ρ σ s) {c : SC} {y : AC} (hc : RC ρ σ c y) (h : sokC S c = true) : okC s y = true:=by
  cases c <;> cases y <;> first | exact hc.elim | rfl | skip
  · obtain ⟨rfl,h1⟩:=hc;exact own_isSome hr h h1
  · obtain ⟨rfl,h1,rfl⟩:=hc;exact own_isSome hr h h1
  · obtain ⟨rfl,h1,rfl,-,rfl⟩:=hc;exact own_isSome hr h h1
  · obtain ⟨rfl,h1,rfl,-,-⟩:=hc;exact own_isSome hr h h1
theorem sokL_ok (hr : Rel S ρ σ s) : ∀ {cs : List SC} {ys : List AC},RCs ρ σ cs ys→cs.all (sokC S) = true→ys.all (okC s) = true
  | [],[],_,_=>rfl
  | c :: cs,y :: ys,hc,h=>by
    simp only [List.all_cons,Bool.and_eq_true] at h ⊢
    exact ⟨sokC_ok hr hc.1 h.1,sokL_ok hr hc.2 h.2⟩
  | [],_ :: _,hc,_=>hc.elim
  | _ :: _,[],hc,_=>hc.elim
def sCells (S : Sy) : SV→Option (List SC)
  | .p true cs=>if cs.all (sokC S) then some cs else none
  | .p false [c]=>if sokC S c then some [c] else none
  | _=>none
theorem sCells_ok (hr : Rel S ρ σ s) {cs : List SC} {x : AV} (h : sCells S v = some cs) (hv : RV ρ σ v x) : ∃ ys,cellsOk s x = some ys∧RCs ρ σ cs ys:=by
  unfold sCells at h
  split at h
  · split at h
    · rename_i hk
      injection h with h;subst h
      cases x <;> first | exact hv.elim | skip
      rename_i b ys
      obtain ⟨rfl,hc⟩:=hv
      exact ⟨ys,by simp only [cellsOk];rw [if_pos (sokL_ok hr hc hk)],hc⟩
    · cases h
  · rename_i c
    split at h
    · rename_i hk
      injection h with h;subst h
      obtain ⟨y,rfl,hy⟩:=one_rv (c:=c) rfl hv
      exact ⟨[y],by simp only [cellsOk];rw [if_pos (sokC_ok hr hy hk)],hy,trivial⟩
    · cases h
  · cases h
def sGive : List SC→List (Option (Nat × Nat))→Sy→Option (List PO × List Nat × Sy)
  | [],_,S=>some ([],[],S)
  | .d i :: cs,ty,S=>(match sGive cs ty.tail S with | some (p,xs,S')=>some (.sc i :: p,i :: xs,S') | none=>none)
  | .nil :: cs,ty,S=>(match ty.headD none with
    | some (t,k)=>if 0 < k then (match sGive cs ty.tail (S.bind 1) with | some (p,xs,S')=>some (.e t k :: p,S.m :: xs,S') | none=>none) else none
    | none=>none)
  | .own i st :: cs,ty,S=>(match S.own i st with
    | some (.row _ _ _ x)=>(match sGive cs ty.tail { S with ob:=(i,.frz st x) :: S.ob } with | some (p,xs,S')=>some (p,x :: xs,S') | none=>none)
    | some (.dx _ x)=>(match sGive cs ty.tail { S with ob:=(i,.frz st x) :: S.ob } with | some (p,xs,S')=>some (p,x :: xs,S') | none=>none)
    | _=>none)
  | _ :: _,_,_=>none
theorem isScD_ok {d : DV} (h : isScD d = true) : ∃ v,d = .sc v:=by
  cases d with
  | sc v=>exact ⟨v,rfl⟩
  | sl=>simp [isScD] at h
theorem sGive_ok : ∀ {cs : List SC} {ty : List (Option (Nat × Nat))} {S S' : Sy} {ps : List PO} {xs : List Nat} {ρ ρ' : List DV} {s : AS} {ys : List AC},sGive cs ty S = some (ps,xs,S')→evalPs ps ρ = some ρ'→Rel S ρ σ s→RCs ρ σ cs ys →
    ∃ s' ds,Gives s s' ys ds∧RD ρ' xs ds∧Rel S' ρ' σ s'∧∀ i,(∀ st a t k x,S.own i st ≠ some (.row a t k x)∧S.own i st ≠ some (.dx a x))→s'.ob i = s.ob i
  | [],ty,S,S',ps,xs,ρ,ρ',s,ys,h,he,hr,hc=>by
    simp only [sGive] at h
    injection h with h;injection h with e1 h;injection h with e2 e3
    subst e1 e2 e3
    simp only [evalPs] at he;injection he with he;subst he
    cases ys with
    | nil=>exact ⟨s,[],gives_nil,trivial,hr,fun _ _=>rfl⟩
    | cons=>exact hc.elim
  | c :: cs,ty,S,S',ps,xs,ρ,ρ',s,[],h,he,hr,hc=>hc.elim
  | .d i :: cs,ty,S,S',ps,xs,ρ,ρ',s,y :: ys,h,he,hr,hc=>by
    simp only [sGive] at h
    split at h
    · rename_i p xs' S1 hg
      injection h with h;injection h with e1 h;injection h with e2 e3
      subst e1 e2 e3
      obtain ⟨x,rfl,hx⟩:=rc_d hc.1
      simp only [evalPs,evalP,hx] at he
      split at he
      · rename_i out ho
        split at ho
        · rename_i hsc
          injection ho with ho;subst ho
          rw [List.append_nil] at he
          obtain ⟨u,rfl⟩:=isScD_ok hsc
          obtain ⟨s',ds,g1,g2,g3,g4⟩:=sGive_ok hg he hr hc.2
          exact ⟨s',.sc u :: ds,gives_sc g1,⟨(evalPs_pre he).get hx,g2⟩,g3,g4⟩
        · cases ho
      · cases he
    · cases h
  | .nil :: cs,ty,S,S',ps,xs,ρ,ρ',s,y :: ys,h,he,hr,hc=>by
    simp only [sGive] at h
    cases y <;> first | exact hc.1.elim | skip
    split at h
    · rename_i t k ht
      split at h
      · rename_i hk
        split at h
        · rename_i p xs' S1 hg
          injection h with h;injection h with e1 h;injection h with e2 e3
          subst e1 e2 e3
          simp only [evalPs,evalP] at he
          obtain ⟨s',ds,g1,g2,g3,g4⟩:=sGive_ok hg he (hr.bind rfl) (RCs.mono (Pre.app _ _) (Pre.refl _) hc.2)
          refine ⟨s',.sl t k [] :: ds,gives_nilS hk g1,⟨(evalPs_pre he).get (by simp [← hr.m]),g2⟩,g3,g4⟩
        · cases h
      · cases h
    · cases h
  | .own i st :: cs,ty,S,S',ps,xs,ρ,ρ',s,y :: ys,h,he,hr,hc=>by
    simp only [sGive] at h
    cases y <;> first | exact hc.1.elim | skip
    rename_i i' st'
    obtain ⟨⟨rfl,hst⟩,hc2⟩:=hc
    split at h
    · rename_i a t k x ho
      split at h
      · rename_i p xs' S1 hg
        injection h with h;injection h with e1 h;injection h with e2 e3
        subst e1 e2 e3
        obtain ⟨o',k1,k2,k3,k4⟩:=hr.own ho hst
        cases o' <;> first | exact k2.elim | skip
        rename_i b ty' kk es' dp
        obtain ⟨k5,rfl,rfl,rfl,hx⟩:=k2
        have hb : b = st':=by
          obtain ⟨-,q2,q3⟩:=own?_some k1
          rw [← k3] at q2
          unfold AS.lv at q3
          split at q3
          · rw [k3] at q3;simpa [Ob.st] using q3
          · cases q3
        subst hb
        have hr2 : Rel { S with ob:=(i',SO.frz st x) :: S.ob } ρ σ (s.frz i' b (.sl ty' kk es')) :=
          hr.upd (s':=s.frz i' b (.sl ty' kk es')) (i:=i') (n':=S.n) (c':=S.c) (so:=.frz st x) (Pre.refl _) hr.c hr.n (Nat.le_refl _) k4 rfl (fun j hj=>by simp only [AS.frz,upd_ne _ _ hj]) (by simp only [AS.frz,upd_same];exact ⟨hst,hx⟩)
        obtain ⟨s',ds,g1,g2,g3,g4⟩:=sGive_ok hg he hr2 hc2
        refine ⟨s',.sl ty' kk es' :: ds,gives_own k1 g1,⟨(evalPs_pre he).get hx,g2⟩,g3,fun j hj=>?_⟩
        have hne : j ≠ i':=fun e=>by subst e;exact (hj _ _ _ _ _).1 ho
        rw [g4 j (fun st2 a2 t2 k2 x2=>by
          have:=hj st2 a2 t2 k2 x2
          unfold Sy.own at this ⊢
          simp only [alook,if_neg (fun e : i' = j=>hne e.symm)];exact this)]
        simp only [AS.frz,upd_ne _ _ hne]
      · cases h
    · rename_i a x ho
      split at h
      · rename_i p xs' S1 hg
        injection h with h;injection h with e1 h;injection h with e2 e3
        subst e1 e2 e3
        obtain ⟨o',k1,k2,k3,k4⟩:=hr.own ho hst
        cases o' <;> first | exact k2.elim | skip
        rename_i b y
        obtain ⟨k5,hx⟩:=k2
        have hb : b = st':=by
          obtain ⟨-,q2,q3⟩:=own?_some k1
          rw [← k3] at q2
          unfold AS.lv at q3
          split at q3
          · rw [k3] at q3;simpa [Ob.st] using q3
          · cases q3
        subst hb
        have hr2 : Rel { S with ob:=(i',SO.frz st x) :: S.ob } ρ σ (s.frz i' b y) :=
          hr.upd (s':=s.frz i' b y) (i:=i') (n':=S.n) (c':=S.c) (so:=.frz st x) (Pre.refl _) hr.c hr.n (Nat.le_refl _) k4 rfl (fun j hj=>by simp only [AS.frz,upd_ne _ _ hj]) (by simp only [AS.frz,upd_same];exact ⟨hst,hx⟩)
        obtain ⟨s',ds,g1,g2,g3,g4⟩:=sGive_ok hg he hr2 hc2
        refine ⟨s',y :: ds,gives_ob k1 rfl (owns_dx k1) g1,⟨(evalPs_pre he).get hx,g2⟩,g3,fun j hj=>?_⟩
        have hne : j ≠ i':=fun e=>by subst e;exact (hj st a 0 0 x).2 ho
        rw [g4 j (fun st2 a2 t2 k2 x2=>by
          have:=hj st2 a2 t2 k2 x2
          unfold Sy.own at this ⊢
          simp only [alook,if_neg (fun e : i' = j=>hne e.symm)];exact this)]
        simp only [AS.frz,upd_ne _ _ hne]
      · cases h
    · cases h
  | .ptr _ _ _ :: cs,ty,S,S',ps,xs,ρ,ρ',s,y :: ys,h,he,hr,hc=>by simp [sGive] at h
  | .elt _ _ _ _ _ :: cs,ty,S,S',ps,xs,ρ,ρ',s,y :: ys,h,he,hr,hc=>by simp [sGive] at h
  | .sub _ _ _ _ _ :: cs,ty,S,S',ps,xs,ρ,ρ',s,y :: ys,h,he,hr,hc=>by simp [sGive] at h
  | .emp :: cs,ty,S,S',ps,xs,ρ,ρ',s,y :: ys,h,he,hr,hc=>by simp [sGive] at h
  | .rd _ :: cs,ty,S,S',ps,xs,ρ,ρ',s,y :: ys,h,he,hr,hc=>by simp [sGive] at h
theorem sGive_len : ∀ {cs : List SC} {ty : List (Option (Nat × Nat))} {S S' : Sy} {ps : List PO} {xs : List Nat},sGive cs ty S = some (ps,xs,S')→xs.length = cs.length:=by
  intro cs
  induction cs with
  | nil=>intro ty S S' ps xs h;simp only [sGive] at h;injection h with h;injection h with e1 h;injection h with e2 e3;subst e2;rfl
  | cons c cs ih =>
    intro ty S S' ps xs h
    cases c with
    | d i =>
      simp only [sGive] at h;split at h
      · rename_i hg;injection h with h;injection h with e1 h;injection h with e2 e3;subst e2;simp [ih hg]
      · cases h
    | nil =>
      simp only [sGive] at h;split at h
      · split at h
        · split at h
          · rename_i hg;injection h with h;injection h with e1 h;injection h with e2 e3;subst e2;simp [ih hg]
          · cases h
        · cases h
      · cases h
    | own i st =>
      simp only [sGive] at h;split at h
      · split at h
        · rename_i hg;injection h with h;injection h with e1 h;injection h with e2 e3;subst e2;simp [ih hg]
        · cases h
      · split at h
        · rename_i hg;injection h with h;injection h with e1 h;injection h with e2 e3;subst e2;simp [ih hg]
        · cases h
      · cases h
    | ptr=>simp [sGive] at h
    | elt=>simp [sGive] at h
    | sub=>simp [sGive] at h
    | emp=>simp [sGive] at h
    | rd=>simp [sGive] at h
def isNil : Value→Bool
  | .slice none 0 0=>true
  | _=>false
def sZ : List Value→Nat→Option (List PO × List SC)
  | [],_=>some ([],[])
  | v :: vs,m=>if isNil v then (match sZ vs m with | some (p,cs)=>some (p,.nil :: cs) | none=>none)
    else if isSc v then (match sZ vs (m + 1) with | some (p,cs)=>some (.k v :: p,.d m :: cs) | none=>none) else none
theorem isNil_ok {v : Value} (h : isNil v = true) : v = .slice none 0 0:=by
  unfold isNil at h;split at h
  · rfl
  · cases h
theorem cAC_sc {v : Value} (h : isSc v = true) : cAC v = some (.d (.sc v)):=by
  cases v <;> first | rfl | simp [isSc] at h
theorem sZ_ok : ∀ {vs : List Value} {m : Nat} {ps : List PO} {cs : List SC} {ρ ρ' : List DV},sZ vs m = some (ps,cs)→ρ.length = m→evalPs ps ρ = some ρ'→∃ acs,zAC vs = some acs∧RCs ρ' σ cs acs∧ρ'.length = m + ps.length
  | [],m,ps,cs,ρ,ρ',h,hm,he=>by
    simp only [sZ] at h;injection h with h;injection h with e1 e2;subst e1 e2
    simp only [evalPs] at he;injection he with he;subst he
    exact ⟨[],rfl,trivial,by simp [hm]⟩
  | v :: vs,m,ps,cs,ρ,ρ',h,hm,he=>by
    simp only [sZ] at h
    split at h
    · rename_i hn
      obtain rfl:=isNil_ok hn
      split at h
      · rename_i p cs' hz
        injection h with h;injection h with e1 e2;subst e1 e2
        obtain ⟨acs,a1,a2,a3⟩:=sZ_ok hz hm he
        exact ⟨.nil :: acs,by simp [zAC,cAC,a1],⟨trivial,a2⟩,a3⟩
      · cases h
    · split at h
      · rename_i hs
        split at h
        · rename_i p cs' hz
          injection h with h;injection h with e1 e2;subst e1 e2
          simp only [evalPs,evalP,hs,if_true] at he
          obtain ⟨acs,a1,a2,a3⟩:=sZ_ok hz (by simp [hm]) he
          refine ⟨.d (.sc v) :: acs,by simp [zAC,cAC_sc hs,a1],⟨(evalPs_pre he).get (by simp [← hm]),a2⟩,by simp [a3];omega⟩
        · cases h
      · cases h
abbrev Sh:=List (Bool × List (Option (Nat × Nat)) × Bool)
structure OwK where
  own : FuncId→Bool
  dx : Bool
  mks : List FuncId
  pf : List FuncId:=[]
  cf : List FuncId:=[]
  nf : List (Nat × Nat):=[]
  gf : List (Nat × Nat):=[]
instance : CoeFun OwK (fun _=>FuncId→Bool):=⟨OwK.own⟩
inductive Nd where
  | po (o : PO)
  | mark (f : FuncId) (b : Bool) (xs : List (Nat × Nat)) (k : Nat)
  | call (f : FuncId) (args : List (Bool × List Nat)) (sh : Sh)
def gArgs (ρ : List DV) : List (Bool × List Nat)→Option (List (Bool × List DV))
  | []=>some []
  | (b,is) :: r=>match gL ρ is,gArgs ρ r with | some x,some xs=>some ((b,x) :: xs) | _,_=>none
def shC : List (Option (Nat × Nat))→List DV→Bool
  | [],[]=>true
  | none :: ss,.sc _ :: ds=>shC ss ds
  | some (t,k) :: ss,.sl t' k' _ :: ds=>decide (t' = t∧k' = k) && shC ss ds
  | _,_=>false
def shOk : Sh→List Rs→Bool
  | [],[]=>true
  | (b,ss,o) :: sh,(b',ds,o') :: rs=>decide (b' = b∧o' = o) && (shC ss ds && shOk sh rs)
  | _,_=>false
def flatR : List Rs→List DV
  | []=>[]
  | (_,ds,_) :: rs=>ds ++ flatR rs
def mkEq : List (Nat × Nat)→List DV→List DV→Prop
  | [],[],[]=>True
  | (_,2) :: r,_ :: ds,_ :: ds'=>mkEq r ds ds'
  | (_,1) :: r,d :: ds,d' :: ds'=>(∃ t k,0 < k∧d = .sl t k []∧d' = .sl t k [])∧mkEq r ds ds'
  | (_,0) :: r,d :: ds,d' :: ds'=>(∃ v,d = .sc v∧d' = .sc v)∧mkEq r ds ds'
  | _,_,_=>False
def WN (P : Program) : List Nd→(List DV→Prop)→List DV→Prop
  | [],K,ρ=>K ρ
  | .po o :: r,K,ρ=>(match evalP ρ o with | some out=>WN P r K (ρ ++ out) | none=>False)
  | .call f a sh :: r,K,ρ=>∃ ys res,gArgs ρ a = some ys∧MeetsX P f ys res∧shOk sh res = true∧WN P r K (ρ ++ flatR res)
  | .mark f b xs k :: r,K,ρ=>∃ ds ds' n n',gL ρ (xs.map (·.1)) = some ds∧ρ[k]? = some (.sc (.int .i64 n))∧Marks P f b ds n ds' n'∧mkEq xs ds ds'∧WN P r K (ρ ++ (ds' ++ [.sc (.int .i64 n')]))
theorem wn_app {K : List DV→Prop} : ∀ {a b : List Nd} {ρ : List DV},WN P (a ++ b) K ρ→WN P a (WN P b K) ρ
  | [],b,ρ,h=>h
  | .po o :: r,b,ρ,h=>by
    simp only [List.cons_append,WN] at h ⊢
    split
    · rename_i out ho;rw [ho] at h;exact wn_app h
    · rename_i ho;rw [ho] at h;exact h
  | .call f a sh :: r,b,ρ,h=>by
    simp only [List.cons_append,WN] at h ⊢
    obtain ⟨ys,res,h1,h2,h3,h4⟩:=h
    exact ⟨ys,res,h1,h2,h3,wn_app h4⟩
  | .mark f bb xs kk :: r,b,ρ,h=>by
    simp only [List.cons_append,WN] at h ⊢
    obtain ⟨ds,ds',n,n',h1,h2,h3,h4,h5⟩:=h
    exact ⟨ds,ds',n,n',h1,h2,h3,h4,wn_app h5⟩
theorem wn_po {K : List DV→Prop} : ∀ {ps : List PO} {ρ : List DV},WN P (ps.map .po) K ρ→∃ ρ',evalPs ps ρ = some ρ'∧K ρ'
  | [],ρ,h=>⟨ρ,rfl,h⟩
  | o :: r,ρ,h=>by
    simp only [List.map_cons,WN] at h
    split at h
    · rename_i out ho
      obtain ⟨ρ',h1,h2⟩:=wn_po h
      exact ⟨ρ',by simp only [evalPs,ho];exact h1,h2⟩
    · exact h.elim
end
end Go.Proofs.Ytboheedjhnbnhaa
namespace Go.Proofs.Ytboheedjhnbnhaa
open Go.RowKit
theorem arr_rowG {w0 : Cx} {w : World} {N : Nat} {s s' : AS} {a : Act} {E : En} (h : RepE w0 N s a w E) {i st t k : Nat} {es : List (List AC)} {ds : List (List DV)} (hi : s.own? i st = some (.arr st t k es)) (hg : Gives s s' es.flatten ds.flatten)
    (hl : ds.length = es.length) (hu : ∀ e ∈ ds,e.length = k) (hi' : s'.own? i st = some (.arr st t k es)) : ∃ E',RepE w0 N { s' with ob:=upd s'.ob i (.row st t k ds true) } a w E':=by
  obtain ⟨hin,hob,hlv⟩:=own?_some hi
  have hO:=h.obj i hin
  rw [hob] at hO
  obtain ⟨g,vals,hst,e1,em,eo,hge,hmx,hB,hk,hun,hcs⟩:=hO
  obtain ⟨E1,f,G⟩:=hg.2.2.2.2 w0 N a w E vals h hcs
  obtain ⟨hin',hob',hlv'⟩:=own?_some hi'
  have h':=G.rep
  have hO':=h'.obj i hin'
  rw [hob'] at hO'
  obtain ⟨g',vals',hst',e1',em',eo',-⟩:=hO'
  have hg' : g' = g:=by
    rw [G.v,e1] at e1';injection e1' with e;injection e with e;injection e with e;exact e.symm
  subst hg'
  have hlen : vals.length = ds.length * k:=by rw [G.own.rep.len,flat_length hu]
  refine ⟨_,h'.change (i:=i) (n':=s'.n) (X:=.row st t k ds true) (v':=E1.v i) (m':=E1.m i) (o':=f) (A':=E1.A) (c':=s'.c) (Nat.le_refl _) (fun j hj _=>hj) hin' h'.bel (Nat.le_refl _) (fun _ _ _=>rfl) (Nat.le_refl _)
    (.inl ⟨hin',by rw [hob'];rfl,rfl⟩) (fun _ hb=>hb) (fun _ hb=>.inl hb) (fun b hb=>⟨h'.A_lt b hb,h'.A_m b hb i hin',fun j hj _=>h'.A_m b hb j hj⟩) (fun b hb=>⟨h'.m_lt i hin' b hb,fun j hj hne=>h'.mm i j hin' hj (Ne.symm hne) b hb⟩) (fun b hb=>⟨G.A b hb,fun j hj _=>G.o b hb j hj⟩) ?_ (h'.mF i hin') (G.fr h)⟩
  rintro s2 rfl E' rfl hstay
  refine ⟨vals,hst',?_,hk,hu,by simp only [upd_same,e1',em'];rfl,?_⟩
  · simp only [upd_same,e1',← hl]
    rw [← hl] at hmx
    exact ⟨hlen,.inr ⟨g',ds.length,vals.toArray,rfl,hge,hB,Nat.le_refl _,hmx,by simp [hlen],by rw [← hlen];simp⟩⟩
  · simp only [if_pos,upd_same];exact G.own
def Goes (P : Program) (N : Nat) (o : Oper) (s : AS) (S' : Sy) (K : List DV→Prop) : Prop:=∃ ρ' σ' s',OStep P N o s s'∧Rel S' ρ' σ' s'∧K ρ'
theorem own_stV {s : AS} {i st b : Nat} {o : Ob} (h : s.own? i st = some o) (hs : o.st = some b) : b = st:=by
  obtain ⟨q1,q2,q3⟩:=own?_some h
  unfold AS.lv at q3
  rw [if_pos q1,q2,hs] at q3
  injection q3
section
variable {P : Program} {N : Nat} {ρ ρ' : List DV} {σ σ' : List Nat} {S S' : Sy} {s s' : AS} {ps : List PO} {v : SV} {o : Oper} {K : List DV→Prop} {nds : List Nd}
theorem goes_pure (h : sHV P S o.op = some (ps,v,S')) (hd : dB N o.dst = true) (hr : Rel S ρ σ s) (hw : WN P (ps.map .po) K ρ) : Goes P N o s (S'.put o.dst v) K:=by
  obtain ⟨ρ',he,hk⟩:=wn_po hw
  obtain ⟨x,x1,x2,x3⟩:=sHV_ok h he hr
  exact ⟨ρ',σ,_,(hV_ok x1).toO (dB_ok hd),x3.put x2,hk⟩
theorem goes_var {t : TypeId} {cs : List SC} {ys : List AC} (hst : HStep P o s (.p false [.ptr s.n s.c 0]) [.var s.c t ys]) (hd : dB N o.dst = true) (hr : Rel S ρ σ s) (hc : RCs ρ σ cs ys) (hk : K ρ) :
    Goes P N o s ((S.push (.var S.c t cs)).put o.dst (.p false [.ptr S.n S.c 0])) K :=
  ⟨ρ,σ ++ [s.c],_,hst.toO (dB_ok hd),(hr.push (so:=.var S.c t cs) (ob:=.var s.c t ys) ⟨hr.last _,rfl,hc.mono (Pre.refl _) (Pre.app _ _)⟩).put ⟨rfl,⟨hr.n,hr.last _,rfl⟩,trivial⟩,hk⟩
def sAlloc (P : Program) (S : Sy) (d : Option Nat) (t : TypeId) : Option (List Nd × Sy) :=
  match tzero P t with
  | some vs=>(match sZ vs S.m with | some (p,cs)=>some (p.map .po,((S.bind p.length).push (.var S.c t cs)).put d (.p false [.ptr S.n S.c 0])) | none=>none)
  | none=>none
theorem goes_alloc {t : TypeId} (ho : o.op = .alloc t) (h : sAlloc P S o.dst t = some (nds,S')) (hd : dB N o.dst = true) (hr : Rel S ρ σ s) (hw : WN P nds K ρ) : Goes P N o s S' K:=by
  unfold sAlloc at h
  split at h
  · rename_i vs hz
    split at h
    · rename_i p cs hs
      injection h with h;injection h with e1 e2;subst e1 e2
      obtain ⟨ρ',he,hk⟩:=wn_po hw
      obtain ⟨acs,a1,a2,a3⟩:=sZ_ok (σ:=σ) hs hr.m he
      exact goes_var (S:=S.bind p.length) (h_alloc ho (by simp only [zeroAC,hz,a1])) hd (hr.more (evalPs_pre he) a3) a2 hk
    · cases h
  · cases h
def sBox (S : Sy) (d : Option Nat) (t : TypeId) (x : Operand) : Option (List Nd × Sy) :=
  match sev S x with
  | some (p,v,S1)=>(match sCells S1 v with | some cs=>some (p.map .po,(S1.push (.var S1.c t cs)).put d (.p false [.ptr S1.n S1.c 0])) | none=>none)
  | none=>none
theorem goes_box {t : TypeId} {x : Operand} (ho : o.op = .box t x) (h : sBox S o.dst t x = some (nds,S')) (hd : dB N o.dst = true) (hr : Rel S ρ σ s) (hw : WN P nds K ρ) : Goes P N o s S' K:=by
  unfold sBox at h
  split at h
  · rename_i p v S1 hv
    split at h
    · rename_i cs hc
      injection h with h;injection h with e1 e2;subst e1 e2
      obtain ⟨ρ',he,hk⟩:=wn_po hw
      obtain ⟨k1,k2⟩:=sev_ok hv he hr
      obtain ⟨ys,y1,y2⟩:=sCells_ok k2 hc k1
      exact goes_var (h_box ho y1) hd k2 y2 hk
    · cases h
  · cases h
theorem RCs.plug {off : Nat} {cs z : List SC} {ys zs : List AC} (h : RCs ρ σ cs ys) (k : RCs ρ σ z zs) : RCs ρ σ (plug off cs z) (Go.Proofs.Ytboheedjhnbnhaa.plug off ys zs):=by
  unfold Go.Proofs.Ytboheedjhnbnhaa.plug
  rw [← h.len]
  exact ((k.take off).app h).app (k.drop _)
def sFill (P : Program) (t : TypeId) : List (Nat × Operand)→List SC→Sy→Option (List PO × List SC × Sy)
  | [],z,S=>some ([],z,S)
  | (i,x) :: r,z,S=>match tfl P t i,sev S x with
    | some (off,k,_),some (p,v,S1)=>(match sCells S1 v with
      | some cs=>if cs.length = k∧off + k≤z.length then (match sFill P t r (plug off cs z) S1 with | some (q,z',S2)=>some (p ++ q,z',S2) | none=>none) else none
      | none=>none)
    | _,_=>none
theorem sFill_ok {t : TypeId} : ∀ {parts : List (Nat × Operand)} {z z' : List SC} {S S' : Sy} {ps : List PO} {ρ ρ' : List DV} {zs : List AC},sFill P t parts z S = some (ps,z',S')→evalPs ps ρ = some ρ'→Rel S ρ σ s→RCs ρ σ z zs →
    ∃ ys,fillA P s t parts zs = some ys∧RCs ρ' σ z' ys∧Rel S' ρ' σ s
  | [],z,z',S,S',ps,ρ,ρ',zs,h,he,hr,hz=>by
    simp only [sFill] at h
    injection h with h;injection h with e1 h;injection h with e2 e3;subst e1 e2 e3
    simp only [evalPs] at he;injection he with he;subst he
    exact ⟨zs,rfl,hz,hr⟩
  | (i,x) :: r,z,z',S,S',ps,ρ,ρ',zs,h,he,hr,hz=>by
    simp only [sFill] at h
    split at h
    · rename_i off k ag p v S1 hf hv
      split at h
      · rename_i cs hc
        split at h
        · rename_i hl
          split at h
          · rename_i q z2 S2 hq
            injection h with h;injection h with e1 h;injection h with e2 e3;subst e1 e2 e3
            obtain ⟨ρ1,a1,a2⟩:=evalPs_app he
            obtain ⟨k1,k2⟩:=sev_ok hv a1 hr
            obtain ⟨ys,y1,y2⟩:=sCells_ok k2 hc k1
            have hz1 : RCs ρ1 σ z zs:=RCs.mono (evalPs_pre a1) (Pre.refl _) hz
            obtain ⟨us,u1,u2,u3⟩:=sFill_ok hq a2 k2 (RCs.plug (off:=off) y2 hz1)
            refine ⟨us,?_,u2,u3⟩
            simp only [fillA,hf,y1]
            rw [if_pos (by rw [← y2.len,← hz1.len];exact hl)]
            exact u1
          · cases h
        · cases h
      · cases h
    · cases h
def sBuild (P : Program) (S : Sy) (t : TypeId) (parts : List (Nat × Operand)) : Option (List PO × List SC × Sy) :=
  if tpl P t then (match tzero P t with
    | some vs=>(match sZ vs S.m with | some (p,z)=>(match sFill P t parts z (S.bind p.length) with | some (q,cs,S2)=>some (p ++ q,cs,S2) | none=>none) | none=>none)
    | none=>none) else none
theorem sBuild_ok {t : TypeId} {parts : List (Nat × Operand)} {cs : List SC} (h : sBuild P S t parts = some (ps,cs,S')) (he : evalPs ps ρ = some ρ') (hr : Rel S ρ σ s) : tpl P t = true∧∃ z ys,zeroAC P t = some z∧fillA P s t parts z = some ys∧RCs ρ' σ cs ys∧Rel S' ρ' σ s:=by
  unfold sBuild at h
  split at h
  · rename_i ht
    split at h
    · rename_i vs hz
      split at h
      · rename_i p z hs
        split at h
        · rename_i q cs' S2 hf
          injection h with h;injection h with e1 h;injection h with e2 e3;subst e1 e2 e3
          obtain ⟨ρ1,a1,a2⟩:=evalPs_app he
          obtain ⟨acs,b1,b2,b3⟩:=sZ_ok (σ:=σ) hs hr.m a1
          obtain ⟨ys,y1,y2,y3⟩:=sFill_ok hf a2 (hr.more (evalPs_pre a1) b3) b2
          exact ⟨ht,acs,ys,by simp only [zeroAC,hz,b1],y1,y2,y3⟩
        · cases h
      · cases h
    · cases h
  · cases h
theorem goes_build {t : TypeId} {parts : Array (Nat × Operand)} {cs : List SC} (ho : o.op = .build t parts) (h : sBuild P S t parts.toList = some (ps,cs,S')) (hd : dB N o.dst = true) (hr : Rel S ρ σ s) (hw : WN P (ps.map .po) K ρ) :
    Goes P N o s (S'.put o.dst (.p true cs)) K:=by
  obtain ⟨ρ',he,hk⟩:=wn_po hw
  obtain ⟨ht,z,ys,z1,z2,z3,z4⟩:=sBuild_ok h he hr
  exact ⟨ρ',σ,_,(h_build ho ht z1 z2).toO (dB_ok hd),z4.put ⟨rfl,z3⟩,hk⟩
theorem RLL.flat : ∀ {xs : List (List SC)} {ys : List (List AC)},RLL ρ σ xs ys→RCs ρ σ xs.flatten ys.flatten
  | [],[],_=>trivial
  | x :: xs,y :: ys,k=>by simp only [List.flatten_cons];exact k.1.app k.2.flat
  | [],_ :: _,k=>k.elim
  | _ :: _,[],k=>k.elim
def sBs (k : Nat) : List (Nat × Operand)→Nat→Sy→Option (List PO × List (List SC) × Sy)
  | [],_,S=>some ([],[],S)
  | (i,x) :: r,j,S=>match sev S x with
    | some (p,v,S1)=>(match sCells S1 v with
      | some cs=>if i = j∧cs.length = k then (match sBs k r (j + 1) S1 with | some (q,es,S2)=>some (p ++ q,cs :: es,S2) | none=>none) else none
      | none=>none)
    | none=>none
theorem sBs_ok {k : Nat} : ∀ {parts : List (Nat × Operand)} {j : Nat} {es : List (List SC)} {S S' : Sy} {ps : List PO} {ρ ρ' : List DV},sBs k parts j S = some (ps,es,S')→evalPs ps ρ = some ρ'→Rel S ρ σ s →
    ∃ ys,bsF s k parts j = some ys∧RLL ρ' σ es ys∧Rel S' ρ' σ s
  | [],j,es,S,S',ps,ρ,ρ',h,he,hr=>by
    simp only [sBs] at h
    injection h with h;injection h with e1 h;injection h with e2 e3;subst e1 e2 e3
    simp only [evalPs] at he;injection he with he;subst he
    exact ⟨[],rfl,trivial,hr⟩
  | (i,x) :: r,j,es,S,S',ps,ρ,ρ',h,he,hr=>by
    simp only [sBs] at h
    split at h
    · rename_i p v S1 hv
      split at h
      · rename_i cs hc
        split at h
        · rename_i hl
          split at h
          · rename_i q es' S2 hq
            injection h with h;injection h with e1 h;injection h with e2 e3;subst e1 e2 e3
            obtain ⟨ρ1,a1,a2⟩:=evalPs_app he
            obtain ⟨k1,k2⟩:=sev_ok hv a1 hr
            obtain ⟨ys,y1,y2⟩:=sCells_ok k2 hc k1
            obtain ⟨us,u1,u2,u3⟩:=sBs_ok hq a2 k2
            refine ⟨ys :: us,?_,⟨RCs.mono (evalPs_pre a2) (Pre.refl _) y2,u2⟩,u3⟩
            simp only [bsF,y1,u1]
            rw [if_pos (by rw [← y2.len];exact hl)]
          · cases h
        · cases h
      · cases h
    · cases h
def chunk (k : Nat) : Nat→List Nat→List (List Nat)
  | 0,_=>[]
  | n + 1,l=>l.take k :: chunk k n (l.drop k)
theorem chunk_rd {k : Nat} : ∀ {n : Nat} {xs : List Nat} {ds : List DV},RD ρ xs ds→xs.length = n * k→∃ es,gLL ρ (chunk k n xs) = some es∧es.flatten = ds∧es.length = n∧∀ e ∈ es,e.length = k
  | 0,xs,ds,h,hl=>by
    have : xs = []:=List.length_eq_zero_iff.1 (by simpa using hl)
    subst this
    cases ds with
    | nil=>exact ⟨[],rfl,rfl,rfl,by simp⟩
    | cons=>exact h.elim
  | n + 1,xs,ds,h,hl=>by
    have h1 : RD ρ (xs.take k) (ds.take k):=RD.take k h
    obtain ⟨es,e1,e2,e3,e4⟩:=chunk_rd (k:=k) (n:=n) (h.drop k) (by rw [List.length_drop,hl,Nat.add_mul];omega)
    refine ⟨ds.take k :: es,by simp only [chunk,gLL,rd_gL h1,e1],by simp [e2],by simp [e3],?_⟩
    intro e he
    rcases List.mem_cons.1 he with rfl | he
    · rw [List.length_take,← h.len,hl,Nat.add_mul];omega
    · exact e4 e he
def tcl (P : Program) : Nat→TypeId→List (Option (Nat × Nat))
  | 0,_=>[]
  | f + 1,t=>match P.underlying t with
    | some (.struct fs)=>fs.toList.flatMap fun fd=>tcl P f fd.type
    | some (.slice e)=>[(tsz P e).map fun k=>(e,k)]
    | some _=>[none]
    | none=>[]
def sLit (P : Program) (S : Sy) (d : Option Nat) (t : TypeId) (len : Nat) (parts : List (Nat × Operand)) : Option (List Nd × Sy) :=
  match tel P t with
  | some (el,k)=>if (tzero P el).isSome = true∧0 < k∧parts.length = len∧len * k≤16777216 then (match sBs k parts 0 S with
    | some (p,es,S1)=>(match sGive es.flatten ((List.replicate len (tcl P 9 el)).flatten) ((S1.push .dead).put d (.p false [.own S1.n S1.c])) with
      | some (q,xs,S2)=>if xs.length = len * k then some ((p ++ (q ++ [PO.mk el k (chunk k len xs)])).map .po,{ (S2.bind 1) with ob:=(S1.n,.row S1.c el k S2.m) :: S2.ob }) else none
      | none=>none)
    | none=>none) else none
  | none=>none
theorem RLL.len : ∀ {xs : List (List SC)} {ys : List (List AC)},RLL ρ σ xs ys→xs.length = ys.length
  | [],[],_=>rfl
  | x :: xs,y :: ys,k=>by simp [RLL.len k.2]
  | [],_ :: _,k=>k.elim
  | _ :: _,[],k=>k.elim
theorem mk_eval {el k : Nat} {rows : List (List Nat)} {es : List (List DV)} (h : gLL ρ rows = some es) (hu : ∀ e ∈ es,e.length = k) : evalP ρ (.mk el k rows) = some [.sl el k es]:=by
  simp only [evalP,h]
  rw [if_pos]
  rw [List.all_eq_true];intro e he;simpa using hu e he
theorem goes_lit {t : TypeId} {len : Nat} {parts : Array (Nat × Operand)} (ho : o.op = .buildSlice t len parts) (h : sLit P S o.dst t len parts.toList = some (nds,S')) (hd : dB N o.dst = true) (hr : Rel S ρ σ s) (hw : WN P nds K ρ) : Goes P N o s S' K:=by
  unfold sLit at h
  split at h
  · rename_i el k ht
    split at h
    · rename_i hcnd
      obtain ⟨hz,hk,hl,hs⟩:=hcnd
      split at h
      · rename_i p es S1 hb
        split at h
        · rename_i q xs S2 hg
          split at h
          · rename_i hxl
            injection h with h;injection h with e1 e2;subst e1 e2
            obtain ⟨ρ',he,hK⟩:=wn_po hw
            obtain ⟨ρ1,a1,a2⟩:=evalPs_app he
            obtain ⟨ρ2,b1,b2⟩:=evalPs_app a2
            obtain ⟨ys,y1,y2,y3⟩:=sBs_ok hb a1 hr
            have hyl : ys.length = len:=by rw [(bsF_len y1).1,hl]
            have hst:=(h_buildSlice (s:=s) ho ht hz hk hl hs y1).toO (N:=N) (dB_ok hd)
            have hp : Rel ((S1.push .dead).put o.dst (.p false [.own S1.n S1.c])) ρ1 (σ ++ [s.c]) ((s.push (.arr s.c el k ys)).put o.dst (.p false [.own s.n s.c])) :=
              (y3.push (so:=.dead) (ob:=.arr s.c el k ys) trivial).put ⟨rfl,⟨y3.n,y3.last _⟩,trivial⟩
            obtain ⟨s2,ds,g1,g2,g3,g4⟩:=sGive_ok hg b1 hp (RCs.mono (Pre.refl _) (Pre.app _ _) y2.flat)
            obtain ⟨ee,c1,c2,c3,c4⟩:=chunk_rd (n:=len) g2 hxl
            have hnone : ∀ st,Sy.own ((S1.push .dead).put o.dst (.p false [.own S1.n S1.c])) S1.n st = none:=by
              intro st
              have : alook ((S1.push .dead).put o.dst (.p false [.own S1.n S1.c])).ob S1.n = some .dead:=by
                cases o.dst <;> simp [Sy.put,Sy.push,alook]
              unfold Sy.own;rw [this];simp [SO.st]
            have hn1 : ((s.push (.arr s.c el k ys)).put o.dst (.p false [.own s.n s.c])).n = s.n + 1:=by rw [AS.put_n];rfl
            have hob1 : ((s.push (.arr s.c el k ys)).put o.dst (.p false [.own s.n s.c])).ob s.n = .arr s.c el k ys:=by rw [AS.put_ob];simp [AS.push,upd_same]
            have hob2 : s2.ob s.n = .arr s.c el k ys:=by
              have:=g4 S1.n (fun st a t k x=>by rw [hnone st];exact ⟨nofun,nofun⟩)
              rw [← y3.n] at this;rw [this];exact hob1
            have hn2 : s2.n = s.n + 1:=by rw [g1.1,hn1]
            have hown1 : ((s.push (.arr s.c el k ys)).put o.dst (.p false [.own s.n s.c])).own? s.n s.c = some (.arr s.c el k ys):=by
              unfold AS.own?;rw [hn1,if_pos (Nat.lt_succ_self _),hob1];simp [Ob.st]
            have hown2 : s2.own? s.n s.c = some (.arr s.c el k ys):=by
              unfold AS.own?;rw [hn2,if_pos (Nat.lt_succ_self _),hob2];simp [Ob.st]
            have hre : Re ((s.push (.arr s.c el k ys)).put o.dst (.p false [.own s.n s.c])) { s2 with ob:=upd s2.ob s.n (.row s.c el k ee true) }:=fun w0 N a w E hR =>
              arr_rowG hR hown1 (by rw [c2];exact g1) (by rw [c3,hyl]) c4 hown2
            obtain ⟨out,o1,rfl⟩:=evalPs_one b2
            rw [mk_eval c1 c4] at o1;injection o1 with o1;subst o1
            refine ⟨_,σ ++ [s.c],_,hst.re hre,?_,hK⟩
            have hb2:=g3.bind (out:=[DV.sl el k ee]) (k:=1) rfl
            refine hb2.upd (s':={ s2 with ob:=upd s2.ob s.n (.row s.c el k ee true) }) (i:=S1.n) (n':=(S2.bind 1).n) (c':=(S2.bind 1).c) (so:=.row S1.c el k S2.m) (Pre.refl _) hb2.c hb2.n (Nat.le_refl _) ?_ rfl (fun j hj=>?_) ?_
            · rw [← hb2.n,hn2,y3.n];exact Nat.lt_succ_self _
            · simp only;rw [upd_ne _ _ (by rw [y3.n];exact hj)]
            · simp only [y3.n,upd_same]
              exact ⟨y3.last _,rfl,rfl,rfl,by rw [← g3.m];simp⟩
          · cases h
        · cases h
      · cases h
    · cases h
  · cases h
def sStore (P : Program) (S : Sy) (t : TypeId) (x y : Operand) : Option (List Nd × Sy) :=
  match sev S x with
  | some (p,v,S1)=>(match sev S1 y with
    | some (q,u,S2)=>(match one v,sCells S2 u with
      | some (.ptr i st off),some xs=>(match S2.own i st with
        | some (.var a t' cs)=>if tsz P t = some xs.length∧off + xs.length≤cs.length then some ((p ++ q).map .po,{ S2 with ob:=(i,.var a t' (plug off xs cs)) :: S2.ob }) else none
        | some (.cur a id t' z)=>(match dat u with
          | some j=>if tsz P t = some 1∧0 < off then some ((p ++ (q ++ [PO.cuS z off j])).map .po,{ (S2.bind 1) with ob:=(i,.cur a id t' S2.m) :: S2.ob }) else none
          | none=>none)
        | _=>none)
      | some (.elt i st k j off),some xs=>(match S2.own i st,sGive xs (tcl P 9 t) S2 with
        | some (.row a t' k' z),some (r,vs,S3)=>(match S3.own i st with
          | some (.row a3 t3 k3 z3)=>if k' = k∧tsz P t = some xs.length∧off + xs.length≤k∧a3 = a∧t3 = t'∧k3 = k∧z3 = z then
              some ((p ++ (q ++ (r ++ [PO.set k z j off vs]))).map .po,{ (S3.bind 1) with ob:=(i,.row a t' k S3.m) :: S3.ob }) else none
          | _=>none)
        | _,_=>none)
      | _,_=>none)
    | none=>none)
  | none=>none
theorem goes_store {t : TypeId} {x y : Operand} (ho : o.op = .store t x y) (hdn : o.dst = none) (h : sStore P S t x y = some (nds,S')) (hr : Rel S ρ σ s) (hw : WN P nds K ρ) : Goes P N o s S' K:=by
  unfold sStore at h
  split at h
  · rename_i p v S1 hv
    split at h
    · rename_i q u S2 hu
      split at h
      · rename_i i st off xs hone hcs
        split at h
        · rename_i a t' cs hown
          split at h
          · rename_i hl
            injection h with h;injection h with e1 e2;subst e1 e2
            obtain ⟨ρ',he,hK⟩:=wn_po hw
            obtain ⟨ρ1,a1,a2⟩:=evalPs_app he
            obtain ⟨k1,k2⟩:=sev_ok hv a1 hr
            obtain ⟨m1,m2⟩:=sev_ok hu a2 k2
            obtain ⟨ys,y1,y2⟩:=sCells_ok m2 hcs m1
            obtain ⟨z,z1,z2⟩:=one_rv hone (k1.mono (evalPs_pre a2) (Pre.refl _))
            cases z <;> first | exact z2.elim | skip
            rename_i i' st' off'
            obtain ⟨rfl,hst,rfl⟩:=z2
            obtain ⟨o',n1,n2,n3,n4⟩:=m2.own hown hst
            cases o' <;> first | exact n2.elim | skip
            rename_i b ty cs'
            obtain ⟨n5,rfl,n6⟩:=n2
            obtain rfl:=own_stV n1 rfl
            refine ⟨ρ',σ,_,st_var ho hdn z1 n1 y1 (by rw [← y2.len];exact hl.1) (by rw [← y2.len,← n6.len];exact hl.2),?_,hK⟩
            exact m2.upd (s':={ s with ob:=upd s.ob i' (.var b ty (plug off' ys cs')) }) (i:=i') (n':=S2.n) (c':=S2.c) (so:=.var a ty (plug off' xs cs)) (Pre.refl _) m2.c m2.n (Nat.le_refl _) n4 rfl (fun j hj=>upd_ne _ _ hj)
              (by simp only [upd_same];exact ⟨n5,rfl,RCs.plug y2 n6⟩)
          · cases h
        · rename_i a id t' z hown
          split at h
          · rename_i j hj
            split at h
            · rename_i hl
              injection h with h;injection h with e1 e2;subst e1 e2
              obtain ⟨ρ',he,hK⟩:=wn_po hw
              obtain ⟨ρ1,a1,a2⟩:=evalPs_app he
              obtain ⟨ρ2,b1,b2⟩:=evalPs_app a2
              obtain ⟨k1,k2⟩:=sev_ok hv a1 hr
              obtain ⟨m1,m2⟩:=sev_ok hu b1 k2
              obtain ⟨zz,z1,z2⟩:=one_rv hone (k1.mono (evalPs_pre b1) (Pre.refl _))
              cases zz <;> first | exact z2.elim | skip
              rename_i i' st' off'
              obtain ⟨rfl,hst,rfl⟩:=z2
              obtain ⟨yv,y1,y2⟩:=dat_rv hj m1
              obtain ⟨o',n1,n2,n3,n4⟩:=m2.own hown hst
              cases o' <;> first | exact n2.elim | skip
              rename_i b id' ty x0 cs0
              obtain ⟨n5,rfl,rfl,hz⟩:=n2
              obtain rfl:=own_stV n1 rfl
              obtain ⟨out,o1,rfl⟩:=evalPs_one b2
              simp only [evalP,hz,y2,cvD] at o1
              cases yv with
              | sl=>simp at o1
              | sc uu =>
                simp only at o1
                split at o1
                · rename_i hc
                  obtain ⟨hc1,hc2,hc3⟩:=hc
                  injection o1 with o1;subst o1
                  obtain ⟨q,rfl⟩:=Nat.exists_eq_succ_of_ne_zero (Nat.pos_iff_ne_zero.1 hc2)
                  have hc3 : q < cs0.length:=hc3
                  refine ⟨_,σ,_,st_cur ho hdn z1 n1 y1 hl.1 hc3,?_,hK⟩
                  have hb3:=m2.bind (out:=[DV.sl ty 0 [[x0],cs0.set q (.sc uu)]]) (k:=1) rfl
                  exact hb3.upd (s':={ s with ob:=upd s.ob i' (.cur b id' ty x0 (cs0.set q (.sc uu))) }) (i:=i') (n':=(S2.bind 1).n) (c':=(S2.bind 1).c) (so:=.cur a id' ty S2.m) (Pre.refl _) hb3.c hb3.n (Nat.le_refl _) n4 rfl (fun j hj=>upd_ne _ _ hj)
                    (by simp only [upd_same];exact ⟨n5,rfl,rfl,by rw [← m2.m];simp [cvD]⟩)
                · cases o1
            · cases h
          · cases h
        · cases h
      · rename_i i st k j off xs hone hcs
        split at h
        · rename_i a t' k' z r vs S3 hown hgv
          split at h
          · rename_i a3 t3 k3 z3 hown3
            split at h
            · rename_i hl
              obtain ⟨rfl,hl1,hl2,rfl,rfl,rfl,rfl⟩:=hl
              injection h with h;injection h with e1 e2;subst e1 e2
              obtain ⟨ρ',he,hK⟩:=wn_po hw
              obtain ⟨ρ1,a1,a2⟩:=evalPs_app he
              obtain ⟨ρ2,b1,b2⟩:=evalPs_app a2
              obtain ⟨ρ3,c1,c2⟩:=evalPs_app b2
              obtain ⟨k1,k2⟩:=sev_ok hv a1 hr
              obtain ⟨m1,m2⟩:=sev_ok hu b1 k2
              obtain ⟨ys,y1,y2⟩:=sCells_ok m2 hcs m1
              obtain ⟨zz,z1,z2⟩:=one_rv hone (k1.mono (evalPs_pre b1) (Pre.refl _))
              cases zz <;> first | exact z2.elim | skip
              rename_i i' st' kk' j' off'
              obtain ⟨rfl,hst,rfl,⟨kd,zi,hz1,hz2,rfl⟩,rfl⟩:=z2
              obtain ⟨s2,ds,g1,g2,g3,g4⟩:=sGive_ok hgv c1 m2 y2
              obtain ⟨o',n1,n2,n3,n4⟩:=m2.own hown hst
              cases o' <;> first | exact n2.elim | skip
              rename_i b ty kr es dp
              obtain ⟨n5,rfl,rfl,rfl,n6⟩:=n2
              obtain rfl:=own_stV n1 rfl
              obtain ⟨o3,q1,q2,q3,q4⟩:=g3.own hown3 hst
              cases o3 <;> first | exact q2.elim | skip
              rename_i b3 ty3 kr3 es3 dp3
              obtain ⟨q5,rfl,rfl,rfl,q6⟩:=q2
              obtain rfl:=own_stV q1 rfl
              have hp3:=evalPs_pre c1
              rw [hp3.get n6] at q6;injection q6 with q6;injection q6 with _ _ q6;subst q6
              obtain ⟨out,o1,rfl⟩:=evalPs_one c2
              simp only [evalP,hp3.get n6,hp3.get hz1,rd_gL g2] at o1
              split at o1
              · rename_i hcn
                split at o1
                · rename_i e hee
                  injection o1 with o1;subst o1
                  have hdl : ds.length = xs.length:=by
                    have h1:=g2.len
                    have h2 : vs.length = xs.length:=sGive_len hgv
                    omega
                  refine ⟨_,σ,_,st_row ho hdn z1 n1 hee y1 (by rw [← y2.len];exact hl1) (by rw [← y2.len];exact hl2) g1 q1,?_,hK⟩
                  have hb3:=g3.bind (out:=[DV.sl ty3 kr3 (es.set zi.toNat (plug off' ds e))]) (k:=1) rfl
                  exact hb3.upd (s':={ s2 with ob:=upd s2.ob i' (.row b3 ty3 kr3 (es.set zi.toNat (plug off' ds e)) true) }) (i:=i') (n':=(S3.bind 1).n) (c':=(S3.bind 1).c) (so:=.row a3 ty3 kr3 S3.m) (Pre.refl _) hb3.c hb3.n (Nat.le_refl _) q4 rfl (fun j hj=>upd_ne _ _ hj)
                    (by simp only [upd_same];exact ⟨q5,rfl,rfl,rfl,by rw [← g3.m];simp⟩)
                · cases o1
              · cases o1
            · cases h
          · cases h
        · cases h
      · cases h
    · cases h
  · cases h
end
end Go.Proofs.Ytboheedjhnbnhaa
namespace Go.Proofs.Ytboheedjhnbnhaa
open Go.RowKit
section
variable {P : Program} {N : Nat} {ρ ρ' : List DV} {σ σ' : List Nat} {S S' : Sy} {s s' : AS} {ps : List PO} {v : SV} {o : Oper} {K : List DV→Prop} {nds : List Nd}
def flatT (P : Program) (el : TypeId) : Bool:=(tcl P 9 el).all (·.isNone)
def sSrc (P : Program) (S : Sy) (el k : Nat) : SC→Option (List PO × Nat × Sy)
  | .d y=>some ([.flat y],y,S)
  | .nil=>some ([.e el k],S.m,S.bind 1)
  | .own j st=>match S.own j st with
    | some (.row _ _ _ y)=>if flatT P el then some ([.flat y],y,S) else some ([],y,{ S with ob:=(j,.dead) :: S.ob })
    | some (.frz _ y)=>some ([.flat y],y,S)
    | _=>none
  | .emp=>some ([.e el k],S.m,S.bind 1)
  | .sub j st k0 z m=>match S.own j st with
    | some (.row _ _ k2 x)=>if k2 = k0 then some ([.viewD x z m,.flat S.m],S.m,S.bind 1) else none
    | _=>none
  | _=>none
theorem view_eval {x z m : Nat} (he : evalPs [.viewD x z m] ρ = some ρ') : ∃ t k es u v,ρ[x]? = some (.sl t k es)∧ρ[z]? = some (.sc (.int .i64 u))∧ρ[m]? = some (.sc (.int .i64 v))∧ρ' = ρ ++ [.sl t k ((es.drop u.toNat).take v.toNat)]:=by
  obtain ⟨out,o1,rfl⟩:=evalPs_one he
  simp only [evalP] at o1
  split at o1
  · rename_i t k es u v h1 h2 h3
    injection o1 with o1;subst o1
    exact ⟨t,k,es,u,v,h1,h2,h3,rfl⟩
  · cases o1
theorem sub_rd {j st k2 x z m a tt t : Nat} {kk : Nat} {yc : AC} {es : List (List DV)} {u v : Int} (hr : Rel S ρ σ s) (hc : RC ρ σ (.sub j st k2 z m) yc) (ho : S.own j st = some (.row a tt k2 x)) (hx : ρ[x]? = some (.sl t kk es)) (hz : ρ[z]? = some (.sc (.int .i64 u))) (hm : ρ[m]? = some (.sc (.int .i64 v))) :
    rdC s yc (.sl t kk ((es.drop u.toNat).take v.toNat)):=by
  cases yc <;> first | exact hc.elim | skip
  rename_i j' st' k' lo n
  obtain ⟨rfl,hst,rfl,⟨u',e1,e2,rfl⟩,⟨v',e3,e4,rfl⟩⟩:=hc
  rw [hz] at e1;injection e1 with e1;injection e1 with e1;injection e1 with _ e1;subst e1
  rw [hm] at e3;injection e3 with e3;injection e3 with e3;injection e3 with _ e3;subst e3
  obtain ⟨o',n1,n2,n3,n4⟩:=hr.own ho hst
  cases o' <;> first | exact n2.elim | skip
  rename_i b ty kr es' dp
  obtain ⟨n5,rfl,rfl,rfl,n6⟩:=n2
  obtain rfl:=own_stV n1 rfl
  rw [hx] at n6;injection n6 with n6;injection n6 with g1 g2 g3;subst g1 g2 g3
  refine ⟨by rw [hr.n];exact n4,?_⟩
  rw [n3];exact ⟨rfl,rfl,rfl⟩
theorem flat_eval {y : Nat} (he : evalPs [.flat y] ρ = some ρ') : ρ' = ρ∧∀ t k es,ρ[y]? = some (.sl t k es)→Flat es.flatten:=by
  obtain ⟨out,o1,rfl⟩:=evalPs_one he
  simp only [evalP] at o1
  split at o1
  · rename_i t k es hy
    split at o1
    · rename_i hf
      injection o1 with o1;subst o1
      refine ⟨by simp,fun t' k' es' hy'=>?_⟩
      rw [hy] at hy';injection hy' with hy';injection hy' with _ _ hy';subst hy'
      intro d hd
      exact isScD_ok (List.all_eq_true.1 hf d hd)
    · cases o1
  · cases o1
theorem sSrc_ok {el k y t' : Nat} {c : SC} {yc : AC} {es : List (List DV)} (h : sSrc P S el k c = some (ps,y,S')) (he : evalPs ps ρ = some ρ') (hr : Rel S ρ σ s) (hc : RC ρ σ c yc) (hy : ρ'[y]? = some (.sl t' k es)) :
    ∃ s',Src s s' k yc es∧Rel S' ρ' σ s':=by
  unfold sSrc at h
  split at h
  · injection h with h;injection h with e1 h;injection h with e2 e3;subst e1 e2 e3
    obtain ⟨rfl,hf⟩:=flat_eval he
    obtain ⟨x,rfl,hx⟩:=rc_d hc
    rw [hy] at hx;injection hx with hx;subst hx
    exact ⟨s,src_flat (t:=t') rfl (hf _ _ _ hy),hr⟩
  · injection h with h;injection h with e1 h;injection h with e2 e3;subst e1 e2 e3
    cases yc <;> first | exact hc.elim | skip
    obtain ⟨out,o1,rfl⟩:=evalPs_one he
    simp only [evalP] at o1;injection o1 with o1;subst o1
    rw [← hr.m] at hy
    simp at hy
    obtain ⟨rfl,rfl⟩:=hy
    exact ⟨s,src_flat (t:=el) ⟨el,k,rfl⟩ (by intro d hd;simp at hd),hr.bind rfl⟩
  · rename_i j st
    cases yc <;> first | exact hc.elim | skip
    rename_i j' st'
    obtain ⟨rfl,hst⟩:=hc
    split at h
    · rename_i a tt kk y' ho
      obtain ⟨o',n1,n2,n3,n4⟩:=hr.own ho hst
      cases o' <;> first | exact n2.elim | skip
      rename_i b ty kr es' dp
      obtain ⟨n5,rfl,rfl,rfl,n6⟩:=n2
      obtain rfl:=own_stV n1 rfl
      split at h
      · injection h with h;injection h with e1 h;injection h with e2 e3;subst e1 e2 e3
        obtain ⟨rfl,hf⟩:=flat_eval he
        rw [n6] at hy;injection hy with hy;injection hy with y1 y2 y3;subst y1 y2 y3
        refine ⟨s,src_flat (t:=ty) ?_ (hf _ _ _ n6),hr⟩
        refine ⟨by rw [hr.n];exact n4,?_⟩
        rw [n3];exact ⟨rfl,rfl⟩
      · injection h with h;injection h with e1 h;injection h with e2 e3;subst e1 e2 e3
        simp only [evalPs] at he;injection he with he;subst he
        rw [n6] at hy;injection hy with hy;injection hy with y1 y2 y3;subst y1 y2 y3
        refine ⟨s.kill j',src_row n1,?_⟩
        exact hr.upd (s':=s.kill j') (i:=j') (n':=S.n) (c':=S.c) (so:=.dead) (Pre.refl _) hr.c hr.n (Nat.le_refl _) n4 rfl (fun i hi=>by simp only [AS.kill,upd_ne _ _ hi]) trivial
    · rename_i a y' ho
      injection h with h;injection h with e1 h;injection h with e2 e3;subst e1 e2 e3
      obtain ⟨rfl,hf⟩:=flat_eval he
      obtain ⟨o',n1,n2,n3,n4⟩:=hr.own ho hst
      cases o' <;> first | exact n2.elim | skip
      rename_i b yy
      obtain ⟨n5,n6⟩:=n2
      obtain rfl:=own_stV n1 rfl
      rw [n6] at hy;injection hy with hy;subst hy
      refine ⟨s,src_flat (t:=t') ?_ (hf _ _ _ n6),hr⟩
      refine ⟨by rw [hr.n];exact n4,?_⟩
      rw [n3];exact ⟨rfl,rfl⟩
    · cases h
  · injection h with h;injection h with e1 h;injection h with e2 e3;subst e1 e2 e3
    cases yc <;> first | exact hc.elim | skip
    obtain ⟨out,o1,rfl⟩:=evalPs_one he
    simp only [evalP] at o1;injection o1 with o1;subst o1
    rw [← hr.m] at hy
    simp at hy
    obtain ⟨rfl,rfl⟩:=hy
    exact ⟨s,src_flat (t:=el) ⟨el,k,rfl⟩ (by intro d hd;simp at hd),hr.bind rfl⟩
  · rename_i j st k0 z m
    split at h
    · rename_i a tt k2 x ho
      split at h
      · rename_i hk;subst hk
        injection h with h;injection h with e1 h;injection h with e2 e3;subst e1 e2 e3
        obtain ⟨ρ1,a1,a2⟩:=evalPs_app (ps:=[.viewD x z m]) (qs:=[.flat S.m]) he
        obtain ⟨t,kk,es0,u,v,h1,h2,h3,rfl⟩:=view_eval a1
        obtain ⟨rfl,hf⟩:=flat_eval a2
        have hy':=hy
        rw [← hr.m] at hy'
        simp at hy'
        obtain ⟨rfl,rfl,rfl⟩:=hy'
        exact ⟨s,src_flat (sub_rd hr hc ho h1 h2 h3) (hf _ _ _ hy),hr.bind rfl⟩
      · cases h
    · cases h
  · cases h
def sApp2 (P : Program) (d : Option Nat) (el k b i st x : Nat) (cy : SC) (pre : List PO) (S : Sy) : Option (List Nd × Sy) :=
  match sSrc P S el k cy with
  | some (q,y,S1)=>(match S1.own i st with
    | some (.row _ t' k' x')=>if t' = el∧k' = k∧x' = x then
        some ((pre ++ (q ++ [PO.app el k b x y])).map .po,{ (S1.bind 1) with ob:=(i,.row S1.c el k S1.m) :: S1.ob,c:=S1.c + 1 }.put d (.p false [.own i S1.c])) else none
    | _=>none)
  | none=>none
def sApp (P : Program) (S : Sy) (d : Option Nat) (X Y : Operand) (t : TypeId) : Option (List Nd × Sy) :=
  match tel P t with
  | some (el,k)=>(match tzero P el,tby P el with
    | some zs,some b=>if zs.length = k∧0 < k then (match sev S Y with
      | some (q,u,S1)=>(match sev S1 X with
        | some (p,v,S2)=>(match one v,one u with
          | some .nil,some cy=>sApp2 P d el k b S2.n S2.c S2.m cy (q ++ (p ++ [PO.e el k])) ((S2.bind 1).push (.row S2.c el k S2.m))
          | some (.own i st),some cy=>(match S2.own i st with | some (.row _ _ _ x)=>sApp2 P d el k b i st x cy (q ++ p) S2 | _=>none)
          | some (.sub i st _ z m),some cy=>(match S2.own i st with | some (.row _ t' k' x)=>if t' = el∧k' = k then sApp2 P d el k b i S2.c S2.m cy (q ++ (p ++ [PO.cutP x z m])) { (S2.bind 1) with ob:=(i,.row S2.c el k S2.m) :: S2.ob,c:=S2.c + 1 } else none | _=>none)
          | _,_=>none)
        | none=>none)
      | none=>none) else none
    | _,_=>none)
  | none=>none
theorem app_eval {el k b x y : Nat} (he : evalPs [.app el k b x y] ρ = some ρ') : ∃ es fs t',ρ[x]? = some (.sl el k es)∧ρ[y]? = some (.sl t' k fs)∧es.length + fs.length≤9223372036854775807∧(es.length + fs.length) * b≤140737488355328∧ρ' = ρ ++ [.sl el k (es ++ fs)]:=by
  obtain ⟨out,o1,rfl⟩:=evalPs_one he
  simp only [evalP] at o1
  split at o1
  · rename_i t1 k1 es t2 k2 fs h1 h2
    split at o1
    · rename_i hc
      obtain ⟨rfl,rfl,rfl,hc1,hc2⟩:=hc
      injection o1 with o1;subst o1
      exact ⟨es,fs,t2,h1,h2,hc1,hc2,rfl⟩
    · cases o1
  · cases o1
theorem goes_app {X Y : Operand} {t : TypeId} (ho : o.op = .call ⟨.builtin .append,#[X,Y],#[t,t]⟩) (h : sApp P S o.dst X Y t = some (nds,S')) (hd : dB N o.dst = true) (hr : Rel S ρ σ s) (hw : WN P nds K ρ) : Goes P N o s S' K:=by
  unfold sApp at h
  split at h
  · rename_i el k ht
    split at h
    · rename_i zs b hz hby
      split at h
      · rename_i hzk
        split at h
        · rename_i q u S1 hu
          split at h
          · rename_i p v S2 hv
            split at h
            · rename_i cy hone hcy
              unfold sApp2 at h
              split at h
              · rename_i qq y S3 hsrc
                split at h
                · rename_i a3 t3 k3 x3 hown
                  split at h
                  · rename_i hx
                    obtain ⟨rfl,rfl,rfl⟩:=hx
                    injection h with h;injection h with e1 e2;subst e1 e2
                    obtain ⟨ρ',he,hK⟩:=wn_po hw
                    obtain ⟨ρ2,a1,a2⟩:=evalPs_app he
                    obtain ⟨ρ3,b1,b2⟩:=evalPs_app a2
                    obtain ⟨ρ0,c1,c2⟩:=evalPs_app a1
                    obtain ⟨ρ1,d1,d2⟩:=evalPs_app c2
                    obtain ⟨k1,k2⟩:=sev_ok hu c1 hr
                    obtain ⟨m1,m2⟩:=sev_ok hv d1 k2
                    obtain ⟨out,o1,rfl⟩:=evalPs_one d2
                    simp only [evalP] at o1;injection o1 with o1;subst o1
                    obtain ⟨cx,x1,x2⟩:=one_rv hone m1
                    cases cx <;> first | exact x2.elim | skip
                    obtain ⟨cY,y1,y2⟩:=one_rv hcy k1
                    have hps : Rel ((S2.bind 1).push (.row S2.c t3 k3 S2.m)) (ρ1 ++ [.sl t3 k3 []]) (σ ++ [s.c]) (s.push (.row s.c t3 k3 [] true)) :=
                      (m2.bind (out:=[DV.sl t3 k3 []]) (k:=1) rfl).push (so:=.row S2.c t3 k3 S2.m) (ob:=.row s.c t3 k3 [] true) ⟨m2.last _,rfl,rfl,rfl,by rw [← m2.m];simp⟩
                    obtain ⟨es,fs,t',f1,f2,f3,f4,rfl⟩:=app_eval b2
                    obtain ⟨s2,g1,g2⟩:=sSrc_ok hsrc b1 hps (y2.mono ((evalPs_pre d1).trans (Pre.app _ _)) (Pre.app _ _)) f2
                    obtain ⟨o3,q1,q2,q3,q4⟩:=g2.own hown (m2.last s.c)
                    cases o3 <;> first | exact q2.elim | skip
                    rename_i b3 ty3 kr3 es3 dp3
                    obtain ⟨q5,rfl,rfl,rfl,q6⟩:=q2
                    obtain rfl:=own_stV q1 rfl
                    have hes : es = []∧es3 = []:=by
                      have h0 : ρ3[S2.m]? = some (.sl ty3 kr3 []):=(evalPs_pre b1).get (by rw [← m2.m];simp)
                      rw [h0] at f1 q6
                      injection f1 with f1;injection f1 with _ _ f1
                      injection q6 with q6;injection q6 with _ _ q6
                      exact ⟨f1.symm,q6.symm⟩
                    obtain ⟨rfl,rfl⟩:=hes
                    rw [← m2.n] at q1 q4
                    refine ⟨_,σ ++ [s.c] ++ [s2.c],_,st_append_nil ho (dB_ok hd) ht hz hzk.1 hzk.2 hby x1 y1 g1 q1 (by have:=f3;simp only [List.length_nil,Nat.zero_add] at this;exact this) (by simpa using f4),?_,hK⟩
                    have hb3:=g2.bind (out:=[DV.sl ty3 kr3 ([] ++ fs)]) (k:=1) rfl
                    have hl:=g2.last s2.c
                    have:=hb3.upd (s':={ s2 with ob:=upd s2.ob s.n (.row s2.c ty3 kr3 fs true),c:=s2.c + 1 }) (i:=S2.n) (n':=(S3.bind 1).n) (c':=S3.c + 1) (so:=.row S3.c ty3 kr3 S3.m) (Pre.app _ [s2.c]) (by have:=g2.c;simp at this ⊢;omega) hb3.n (Nat.le_refl _) (by rw [m2.n] at q4;exact q4) rfl (fun j hj=>by simp only;rw [upd_ne _ _ (by rw [m2.n];exact hj)])
                      (by simp only [m2.n,upd_same];exact ⟨hl,rfl,rfl,rfl,by rw [← g2.m];simp⟩)
                    exact this.put ⟨rfl,⟨m2.n,hl⟩,trivial⟩
                  · cases h
                · cases h
              · cases h
            · rename_i i st cy hone hcy
              split at h
              · rename_i a0 t0 k0 x0 hown0
                unfold sApp2 at h
                split at h
                · rename_i qq y S3 hsrc
                  split at h
                  · rename_i a3 t3 k3 x3 hown
                    split at h
                    · rename_i hx
                      obtain ⟨rfl,rfl,rfl⟩:=hx
                      injection h with h;injection h with e1 e2;subst e1 e2
                      obtain ⟨ρ',he,hK⟩:=wn_po hw
                      obtain ⟨ρ1,a1,a2⟩:=evalPs_app he
                      obtain ⟨ρ3,b1,b2⟩:=evalPs_app a2
                      obtain ⟨ρ0,c1,d1⟩:=evalPs_app a1
                      obtain ⟨k1,k2⟩:=sev_ok hu c1 hr
                      obtain ⟨m1,m2⟩:=sev_ok hv d1 k2
                      obtain ⟨cx,x1,x2⟩:=one_rv hone m1
                      cases cx <;> first | exact x2.elim | skip
                      rename_i i' st'
                      obtain ⟨rfl,hst⟩:=x2
                      obtain ⟨cY,y1,y2⟩:=one_rv hcy k1
                      obtain ⟨es,fs,t',f1,f2,f3,f4,rfl⟩:=app_eval b2
                      obtain ⟨s2,g1,g2⟩:=sSrc_ok hsrc b1 m2 (y2.mono (evalPs_pre d1) (Pre.refl _)) f2
                      obtain ⟨o3,q1,q2,q3,q4⟩:=g2.own hown hst
                      cases o3 <;> first | exact q2.elim | skip
                      rename_i b3 ty3 kr3 es3 dp3
                      obtain ⟨q5,rfl,rfl,rfl,q6⟩:=q2
                      obtain rfl:=own_stV q1 rfl
                      rw [f1] at q6;injection q6 with q6;injection q6 with _ _ q6;subst q6
                      refine ⟨_,σ ++ [s2.c],_,st_append ho (dB_ok hd) ht hz hzk.1 hby x1 y1 g1 q1 f3 f4,?_,hK⟩
                      have hb3:=g2.bind (out:=[DV.sl ty3 kr3 (es ++ fs)]) (k:=1) rfl
                      have hl:=g2.last s2.c
                      have:=hb3.upd (s':={ s2 with ob:=upd s2.ob i' (.row s2.c ty3 kr3 (es ++ fs) true),c:=s2.c + 1 }) (i:=i') (n':=(S3.bind 1).n) (c':=S3.c + 1) (so:=.row S3.c ty3 kr3 S3.m) (Pre.app _ [s2.c]) (by have:=g2.c;simp at this ⊢;omega) hb3.n (Nat.le_refl _) q4 rfl (fun j hj=>upd_ne _ _ hj)
                        (by simp only [upd_same];exact ⟨hl,rfl,rfl,rfl,by rw [← g2.m];simp⟩)
                      exact this.put ⟨rfl,⟨rfl,hl⟩,trivial⟩
                    · cases h
                  · cases h
                · cases h
              · cases h
            · rename_i i st kq z m cy hone hcy
              split at h
              · rename_i a0 t0 k0 x0 hown0
                split at h
                · rename_i htk
                  obtain ⟨rfl,rfl⟩:=htk
                  unfold sApp2 at h
                  split at h
                  · rename_i qq y S3 hsrc
                    split at h
                    · rename_i a3 t3 k3 x3 hown
                      split at h
                      · rename_i hx
                        obtain ⟨rfl,rfl,rfl⟩:=hx
                        injection h with h;injection h with e1 e2;subst e1 e2
                        obtain ⟨ρ',he,hK⟩:=wn_po hw
                        obtain ⟨ρ2,a1,a2⟩:=evalPs_app he
                        obtain ⟨ρ3,b1,b2⟩:=evalPs_app a2
                        obtain ⟨ρ0,c1,c2⟩:=evalPs_app a1
                        obtain ⟨ρ1,d1,d2⟩:=evalPs_app c2
                        obtain ⟨k1,k2⟩:=sev_ok hu c1 hr
                        obtain ⟨m1,m2⟩:=sev_ok hv d1 k2
                        obtain ⟨cx,x1,x2⟩:=one_rv hone m1
                        cases cx <;> first | exact x2.elim | skip
                        rename_i i' st' kx lo n
                        obtain ⟨rfl,hst,rfl,⟨u',e1,e2,rfl⟩,⟨v',e3,e4,rfl⟩⟩:=x2
                        obtain ⟨cY,y1,y2⟩:=one_rv hcy k1
                        obtain ⟨o0,r1,r2,r3,r4⟩:=m2.own hown0 hst
                        cases o0 <;> first | exact r2.elim | skip
                        rename_i b0 ty0 kr0 es0 dp0
                        obtain ⟨r5,rfl,rfl,rfl,r6⟩:=r2
                        obtain rfl:=own_stV r1 rfl
                        obtain ⟨out,o1,rfl⟩:=evalPs_one d2
                        simp only [evalP,r6,e1,e3] at o1
                        split at o1
                        · rename_i hcut
                          obtain ⟨hu0,hle⟩:=hcut
                          subst hu0
                          injection o1 with o1;subst o1
                          have hps : Rel { (S2.bind 1) with ob:=(i',.row S2.c ty0 kr0 S2.m) :: S2.ob,c:=S2.c + 1 } (ρ1 ++ [.sl ty0 kr0 (es0.take v'.toNat)]) (σ ++ [s.c]) (s.cut i' ty0 kr0 v'.toNat es0):=by
                            have hb:=m2.bind (out:=[DV.sl ty0 kr0 (es0.take v'.toNat)]) (k:=1) rfl
                            exact hb.upd (s':=s.cut i' ty0 kr0 v'.toNat es0) (i:=i') (n':=S2.n) (c':=S2.c + 1) (so:=.row S2.c ty0 kr0 S2.m) (Pre.app _ [s.c]) (by have:=m2.c;simp at this ⊢;omega) hb.n (Nat.le_refl _) r4 rfl (fun j hj=>upd_ne _ _ hj)
                              (by simp only [AS.cut,upd_same];exact ⟨m2.last _,rfl,rfl,rfl,by rw [← m2.m];simp⟩)
                          obtain ⟨es,fs,t',f1,f2,f3,f4,rfl⟩:=app_eval b2
                          obtain ⟨s2,g1,g2⟩:=sSrc_ok hsrc b1 hps (y2.mono ((evalPs_pre d1).trans (Pre.app _ _)) (Pre.app _ _)) f2
                          obtain ⟨o3,q1,q2,q3,q4⟩:=g2.own hown (m2.last s.c)
                          cases o3 <;> first | exact q2.elim | skip
                          rename_i b3 ty3 kr3 es3 dp3
                          obtain ⟨q5,rfl,rfl,rfl,q6⟩:=q2
                          obtain rfl:=own_stV q1 rfl
                          have hes : es = es0.take v'.toNat∧es3 = es0.take v'.toNat:=by
                            have h0 : ρ3[S2.m]? = some (.sl ty3 kr3 (es0.take v'.toNat)):=(evalPs_pre b1).get (by rw [← m2.m];simp)
                            rw [h0] at f1 q6
                            injection f1 with f1;injection f1 with _ _ f1
                            injection q6 with q6;injection q6 with _ _ q6
                            exact ⟨f1.symm,q6.symm⟩
                          obtain ⟨rfl,rfl⟩:=hes
                          refine ⟨_,σ ++ [s.c] ++ [s2.c],_,st_append_cut ho (dB_ok hd) ht hz hzk.1 hby x1 r1 hle y1 g1 q1 f3 f4,?_,hK⟩
                          have hb3:=g2.bind (out:=[DV.sl ty3 kr3 (es0.take v'.toNat ++ fs)]) (k:=1) rfl
                          have hl:=g2.last s2.c
                          have:=hb3.upd (s':={ s2 with ob:=upd s2.ob i' (.row s2.c ty3 kr3 (es0.take v'.toNat ++ fs) true),c:=s2.c + 1 }) (i:=i') (n':=(S3.bind 1).n) (c':=S3.c + 1) (so:=.row S3.c ty3 kr3 S3.m) (Pre.app _ [s2.c]) (by have:=g2.c;simp at this ⊢;omega) hb3.n (Nat.le_refl _) q4 rfl (fun j hj=>upd_ne _ _ hj)
                            (by simp only [upd_same];exact ⟨hl,rfl,rfl,rfl,by rw [← g2.m];simp⟩)
                          exact this.put ⟨rfl,⟨rfl,hl⟩,trivial⟩
                        · cases o1
                      · cases h
                    · cases h
                  · cases h
                · cases h
              · cases h
            · cases h
          · cases h
        · cases h
      · cases h
    · cases h
  · cases h
def sCopy (P : Program) (S : Sy) (d : Option Nat) (X Y : Operand) (t : TypeId) : Option (List Nd × Sy) :=
  match tel P t with
  | some (el,k)=>(match sev S X with
    | some (p,v,S1)=>(match sev S1 Y with
      | some (q,u,S2)=>(match one v,one u with
        | some (.sub i st k1 z m),some (.sub i' st' k2 z' m')=>(match S2.own i st with
          | some (.row a t' k' x)=>if i' = i∧st' = st∧k1 = k∧k2 = k∧t' = el∧k' = k then
              some ((p ++ (q ++ [PO.cpy k x z m z' m'])).map .po,{ (S2.bind 2) with ob:=(i,.row a el k S2.m) :: S2.ob }.put d (.p false [.d (S2.m + 1)])) else none
          | _=>none)
        | _,_=>none)
      | none=>none)
    | none=>none)
  | none=>none
theorem all_flat {ds : List DV} (h : ds.all isScD = true) : Flat ds:=fun d hd=>by
  have:=List.all_eq_true.1 h d hd
  unfold isScD at this
  split at this
  · exact ⟨_,rfl⟩
  · cases this
theorem goes_copy {X Y : Operand} {t : TypeId} (ho : o.op = .call ⟨.builtin .copy,#[X,Y],#[t,t]⟩) (h : sCopy P S o.dst X Y t = some (nds,S')) (hd : dB N o.dst = true) (hr : Rel S ρ σ s) (hw : WN P nds K ρ) : Goes P N o s S' K:=by
  unfold sCopy at h
  split at h
  · rename_i el k ht
    split at h
    · rename_i p v S1 hv
      split at h
      · rename_i q u S2 hu
        split at h
        · rename_i i st k1 z m i' st' k2 z' m' hone1 hone2
          split at h
          · rename_i a t' k' x hown
            split at h
            · rename_i hc
              obtain ⟨rfl,rfl,rfl,rfl,rfl,rfl⟩:=hc
              injection h with h;injection h with e1 e2;subst e1 e2
              obtain ⟨ρ',he,hK⟩:=wn_po hw
              obtain ⟨ρ1,a1,a2⟩:=evalPs_app he
              obtain ⟨ρ2,b1,b2⟩:=evalPs_app a2
              obtain ⟨k1',k2'⟩:=sev_ok hv a1 hr
              obtain ⟨m1,m2⟩:=sev_ok hu b1 k2'
              obtain ⟨cx,x1,x2⟩:=one_rv hone1 (k1'.mono (evalPs_pre b1) (Pre.refl _))
              cases cx <;> first | exact x2.elim | skip
              obtain ⟨rfl,hst,rfl,⟨u1,f1,f2,rfl⟩,⟨v1,f3,f4,rfl⟩⟩:=x2
              obtain ⟨cy,y1,y2⟩:=one_rv hone2 m1
              cases cy <;> first | exact y2.elim | skip
              obtain ⟨rfl,hst',rfl,⟨u2,g1,g2,rfl⟩,⟨v2,g3,g4,rfl⟩⟩:=y2
              rw [hst] at hst';injection hst' with hst';subst hst'
              obtain ⟨o',n1,n2,n3,n4⟩:=m2.own hown hst
              cases o' <;> first | exact n2.elim | skip
              rename_i b ty kr es dp
              obtain ⟨n5,rfl,rfl,rfl,n6⟩:=n2
              obtain rfl:=own_stV n1 rfl
              obtain ⟨out,o1,rfl⟩:=evalPs_one b2
              simp only [evalP,n6,f1,f3,g1,g3] at o1
              split at o1
              · rename_i hfl
                injection o1 with o1;subst o1
                refine ⟨_,σ,_,st_copy ho (dB_ok hd) ht x1 y1 n1 (all_flat hfl.2),?_,hK⟩
                have hb3:=m2.bind (out:=[DV.sl ty kr (cpyL es u1.toNat v1.toNat u2.toNat v2.toNat),.sc (.int .i64 ((min v2.toNat v1.toNat : Nat) : Int))]) (k:=2) rfl
                have:=hb3.upd (s':={ s with ob:=upd s.ob _ (.row b ty kr (cpyL es u1.toNat v1.toNat u2.toNat v2.toNat) true) }) (n':=(S2.bind 2).n) (c':=(S2.bind 2).c) (so:=.row a ty kr S2.m) (Pre.refl _) hb3.c hb3.n (Nat.le_refl _) n4 rfl (fun j hj=>upd_ne _ _ hj)
                  (by simp only [upd_same];exact ⟨n5,rfl,rfl,rfl,by rw [← m2.m];simp⟩)
                exact this.put ⟨rfl,by show (_ : List DV)[_]? = _;rw [← m2.m];simp,trivial⟩
              · cases o1
            · cases h
          · cases h
        · cases h
      · cases h
    · cases h
  · cases h
def sameO : Operand→Operand→Bool
  | .tmp a,.tmp b=>decide (a = b)
  | .const (.int .i64 n),.const (.int .i64 m)=>decide (n = m)
  | _,_=>false
theorem sameO_ok {x y : Operand} (h : sameO x y = true) : s.ev y = s.ev x:=by
  unfold sameO at h
  split at h
  · rw [of_decide_eq_true h]
  · rw [of_decide_eq_true h]
  · cases h
def sMake (P : Program) (S : Sy) (d : Option Nat) (t : TypeId) (x y : Operand) : Option (List Nd × Sy) :=
  match tel P t with
  | some (el,k)=>(match tzero P el,tby P el with
    | some zs,some b=>(match zDV zs,sev S x with
      | some ds,some (p,v,S1)=>(match dat v with
        | some i=>if zs.length = k∧0 < k∧sameO x y = true then some ((p ++ [PO.make el k b ds i]).map .po,((S1.bind 1).push (.row S1.c el k S1.m)).put d (.p false [.own S1.n S1.c])) else none
        | none=>none)
      | _,_=>none)
    | _,_=>none)
  | none=>none
theorem goes_make {x y : Operand} {t : TypeId} (ho : o.op = .makeSlice t x y) (h : sMake P S o.dst t x y = some (nds,S')) (hd : dB N o.dst = true) (hr : Rel S ρ σ s) (hw : WN P nds K ρ) : Goes P N o s S' K:=by
  unfold sMake at h
  split at h
  · rename_i el k ht
    split at h
    · rename_i zs b hz hby
      split at h
      · rename_i ds p v S1 hzd hv
        split at h
        · rename_i i hi
          split at h
          · rename_i hc
            injection h with h;injection h with e1 e2;subst e1 e2
            obtain ⟨ρ',he,hK⟩:=wn_po hw
            obtain ⟨ρ1,a1,a2⟩:=evalPs_app he
            obtain ⟨k1,k2⟩:=sev_ok hv a1 hr
            obtain ⟨z,z1,z2⟩:=dat_rv hi k1
            obtain ⟨out,o1,rfl⟩:=evalPs_one a2
            simp only [evalP,z2] at o1
            split at o1
            · rename_i n hn
              injection hn with hn;subst hn
              split at o1
              · rename_i hcn
                injection o1 with o1;subst o1
                obtain ⟨m,rfl⟩:=Int.eq_ofNat_of_zero_le hcn.1
                simp only [Int.toNat_natCast] at hcn hK ⊢
                refine ⟨_,σ ++ [s.c],_,(h_make (s:=s) ho z1 (by rw [sameO_ok hc.2.2];exact z1) ht hc.2.1 hz hc.1 hzd hby hcn.2.1 hcn.2.2).toO (dB_ok hd),?_,hK⟩
                exact ((k2.bind (out:=[DV.sl el k (List.replicate m ds)]) (k:=1) rfl).push (so:=.row S1.c el k S1.m) (ob:=.row s.c el k (List.replicate m ds) true) ⟨k2.last _,rfl,rfl,rfl,by rw [← k2.m];simp⟩).put ⟨rfl,⟨k2.n,k2.last _⟩,trivial⟩
              · cases o1
            · cases o1
          · cases h
        · cases h
      · cases h
    · cases h
  · cases h
end
end Go.Proofs.Ytboheedjhnbnhaa
namespace Go.Proofs.Ytboheedjhnbnhaa
open Go.RowKit
section
variable {P : Program} {N : Nat} {ρ ρ' : List DV} {σ σ' : List Nat} {S S' : Sy} {s s' : AS} {ps : List PO} {v : SV} {o : Oper} {K : List DV→Prop} {nds : List Nd}
def sRd (F : Bool) : List SC→List (Option (Nat × Nat))→Sy→Option (List PO × List Nat × Sy)
  | [],_,S=>some ([],[],S)
  | .d i :: cs,ty,S=>(match sRd F cs ty.tail S with | some (p,xs,S')=>some (p,i :: xs,S') | none=>none)
  | .nil :: cs,ty,S=>(match ty.headD none with
    | some (t,k)=>(match sRd F cs ty.tail (S.bind 1) with | some (p,xs,S')=>some (PO.e t k :: p,S.m :: xs,S') | none=>none)
    | none=>none)
  | .own i st :: cs,ty,S=>(match S.own i st with
    | some (.row _ _ _ x)=>if F then none else (match sRd F cs ty.tail S with | some (p,xs,S')=>some (p,x :: xs,S') | none=>none)
    | some (.frz _ x)=>(match sRd F cs ty.tail S with | some (p,xs,S')=>some (p,x :: xs,S') | none=>none)
    | some (.dx _ x)=>if F then none else (match sRd F cs ty.tail S with | some (p,xs,S')=>some (p,x :: xs,S') | none=>none)
    | _=>none)
  | .emp :: cs,ty,S=>(match ty.headD none with
    | some (t,k)=>(match sRd F cs ty.tail (S.bind 1) with | some (p,xs,S')=>some (PO.e t k :: p,S.m :: xs,S') | none=>none)
    | none=>none)
  | .sub i st k z m :: cs,ty,S=>(match S.own i st with
    | some (.row _ _ k2 x)=>if F || !(k2 == k) then none else (match sRd F cs ty.tail (S.bind 1) with | some (p,xs,S')=>some (PO.viewD x z m :: p,S.m :: xs,S') | none=>none)
    | _=>none)
  | _ :: _,_,_=>none
theorem sRd_ok {F : Bool} : ∀ {cs : List SC} {ty : List (Option (Nat × Nat))} {S S' : Sy} {ps : List PO} {xs : List Nat} {ρ ρ' : List DV} {ys : List AC},sRd F cs ty S = some (ps,xs,S')→evalPs ps ρ = some ρ'→Rel S ρ σ s→RCs ρ σ cs ys →
    ∃ ds,RD ρ' xs ds∧(F = false→rdL s ys ds)∧(F = true→rdFL s ys ds)∧Rel S' ρ' σ s
  | [],ty,S,S',ps,xs,ρ,ρ',ys,h,he,hr,hc=>by
    simp only [sRd] at h
    injection h with h;injection h with e1 h;injection h with e2 e3;subst e1 e2 e3
    simp only [evalPs] at he;injection he with he;subst he
    cases ys with
    | nil=>exact ⟨[],trivial,fun _=>trivial,fun _=>trivial,hr⟩
    | cons=>exact hc.elim
  | c :: cs,ty,S,S',ps,xs,ρ,ρ',[],h,he,hr,hc=>hc.elim
  | .d i :: cs,ty,S,S',ps,xs,ρ,ρ',y :: ys,h,he,hr,hc=>by
    simp only [sRd] at h
    split at h
    · rename_i p xs' S1 hg
      injection h with h;injection h with e1 h;injection h with e2 e3;subst e1 e2 e3
      obtain ⟨x,rfl,hx⟩:=rc_d hc.1
      obtain ⟨ds,g1,g2,g3,g4⟩:=sRd_ok hg he hr hc.2
      exact ⟨x :: ds,⟨(evalPs_pre he).get hx,g1⟩,fun hF=>⟨rfl,g2 hF⟩,fun hF=>⟨rfl,g3 hF⟩,g4⟩
    · cases h
  | .nil :: cs,ty,S,S',ps,xs,ρ,ρ',y :: ys,h,he,hr,hc=>by
    simp only [sRd] at h
    cases y <;> first | exact hc.1.elim | skip
    split at h
    · rename_i t k ht
      split at h
      · rename_i p xs' S1 hg
        injection h with h;injection h with e1 h;injection h with e2 e3;subst e1 e2 e3
        simp only [evalPs,evalP] at he
        obtain ⟨ds,g1,g2,g3,g4⟩:=sRd_ok hg he (hr.bind rfl) (RCs.mono (Pre.app _ _) (Pre.refl _) hc.2)
        exact ⟨.sl t k [] :: ds,⟨(evalPs_pre he).get (by simp [← hr.m]),g1⟩,fun hF=>⟨⟨t,k,rfl⟩,g2 hF⟩,fun hF=>⟨⟨t,k,rfl⟩,g3 hF⟩,g4⟩
      · cases h
    · cases h
  | .own i st :: cs,ty,S,S',ps,xs,ρ,ρ',y :: ys,h,he,hr,hc=>by
    simp only [sRd] at h
    cases y <;> first | exact hc.1.elim | skip
    rename_i i' st'
    obtain ⟨⟨rfl,hst⟩,hc2⟩:=hc
    split at h
    · rename_i a t k x ho
      split at h
      · cases h
      · rename_i hF0
        split at h
        · rename_i p xs' S1 hg
          injection h with h;injection h with e1 h;injection h with e2 e3;subst e1 e2 e3
          obtain ⟨o',k1,k2,k3,k4⟩:=hr.own ho hst
          cases o' <;> first | exact k2.elim | skip
          rename_i b ty' kk es' dp
          obtain ⟨k5,rfl,rfl,rfl,hx⟩:=k2
          obtain rfl:=own_stV k1 rfl
          obtain ⟨ds,g1,g2,g3,g4⟩:=sRd_ok hg he hr hc2
          exact ⟨.sl ty' kk es' :: ds,⟨(evalPs_pre he).get hx,g1⟩,fun hF=>⟨⟨by rw [hr.n];exact k4,by rw [k3];exact ⟨rfl,rfl⟩⟩,g2 hF⟩,fun hF=>absurd hF hF0,g4⟩
        · cases h
    · rename_i a x ho
      split at h
      · rename_i p xs' S1 hg
        injection h with h;injection h with e1 h;injection h with e2 e3;subst e1 e2 e3
        obtain ⟨o',k1,k2,k3,k4⟩:=hr.own ho hst
        cases o' <;> first | exact k2.elim | skip
        rename_i b yy
        obtain ⟨k5,hx⟩:=k2
        obtain rfl:=own_stV k1 rfl
        obtain ⟨ds,g1,g2,g3,g4⟩:=sRd_ok hg he hr hc2
        exact ⟨yy :: ds,⟨(evalPs_pre he).get hx,g1⟩,fun hF=>⟨⟨by rw [hr.n];exact k4,by rw [k3];exact ⟨rfl,rfl⟩⟩,g2 hF⟩,fun hF=>⟨⟨by rw [hr.n];exact k4,by rw [k3];exact ⟨rfl,rfl⟩⟩,g3 hF⟩,g4⟩
      · cases h
    · rename_i a x ho
      split at h
      · cases h
      · rename_i hF0
        split at h
        · rename_i p xs' S1 hg
          injection h with h;injection h with e1 h;injection h with e2 e3;subst e1 e2 e3
          obtain ⟨o',k1,k2,k3,k4⟩:=hr.own ho hst
          cases o' <;> first | exact k2.elim | skip
          rename_i b yy
          obtain ⟨k5,hx⟩:=k2
          obtain rfl:=own_stV k1 rfl
          obtain ⟨ds,g1,g2,g3,g4⟩:=sRd_ok hg he hr hc2
          exact ⟨yy :: ds,⟨(evalPs_pre he).get hx,g1⟩,fun hF=>⟨⟨by rw [hr.n];exact k4,by rw [k3];exact ⟨rfl,rfl⟩⟩,g2 hF⟩,fun hF=>absurd hF hF0,g4⟩
        · cases h
    · cases h
  | .ptr _ _ _ :: cs,ty,S,S',ps,xs,ρ,ρ',y :: ys,h,he,hr,hc=>by simp [sRd] at h
  | .elt _ _ _ _ _ :: cs,ty,S,S',ps,xs,ρ,ρ',y :: ys,h,he,hr,hc=>by simp [sRd] at h
  | .emp :: cs,ty,S,S',ps,xs,ρ,ρ',y :: ys,h,he,hr,hc=>by
    simp only [sRd] at h
    cases y <;> first | exact hc.1.elim | skip
    split at h
    · rename_i t k ht
      split at h
      · rename_i p xs' S1 hg
        injection h with h;injection h with e1 h;injection h with e2 e3;subst e1 e2 e3
        simp only [evalPs,evalP] at he
        obtain ⟨ds,g1,g2,g3,g4⟩:=sRd_ok hg he (hr.bind rfl) (RCs.mono (Pre.app _ _) (Pre.refl _) hc.2)
        exact ⟨.sl t k [] :: ds,⟨(evalPs_pre he).get (by simp [← hr.m]),g1⟩,fun hF=>⟨⟨t,k,rfl⟩,g2 hF⟩,fun hF=>⟨⟨t,k,rfl⟩,g3 hF⟩,g4⟩
      · cases h
    · cases h
  | .sub i st k z m :: cs,ty,S,S',ps,xs,ρ,ρ',y :: ys,h,he,hr,hc=>by
    simp only [sRd] at h
    split at h
    · rename_i a t k2 x ho
      split at h
      · cases h
      · rename_i hF0
        simp only [Bool.or_eq_true,Bool.not_eq_true',beq_eq_false_iff_ne,ne_eq,not_or,Bool.not_eq_true,Classical.not_not] at hF0
        obtain ⟨hF0,rfl⟩:=hF0
        split at h
        · rename_i p xs' S1 hg
          injection h with h;injection h with e1 h;injection h with e2 e3;subst e1 e2 e3
          obtain ⟨ρ1,a1,a2⟩:=evalPs_app (ps:=[.viewD x z m]) (qs:=p) he
          obtain ⟨t',kk,es0,u,v,h1,h2,h3,rfl⟩:=view_eval a1
          obtain ⟨ds,g1,g2,g3,g4⟩:=sRd_ok hg a2 (hr.bind rfl) (RCs.mono (Pre.app _ _) (Pre.refl _) hc.2)
          exact ⟨_ :: ds,⟨(evalPs_pre a2).get (by simp [← hr.m]),g1⟩,fun hF=>⟨sub_rd hr hc.1 ho h1 h2 h3,g2 hF⟩,fun hF=>(by rw [hF0] at hF;cases hF),g4⟩
        · cases h
    · cases h
  | .rd _ :: cs,ty,S,S',ps,xs,ρ,ρ',y :: ys,h,he,hr,hc=>by simp [sRd] at h
def sArgs (F : Bool) (P : Program) : List Operand→List TypeId→Sy→Option (List PO × List (Bool × List Nat) × Sy)
  | [],_,S=>some ([],[],S)
  | x :: xs,ts,S=>match sev S x with
    | some (p,.p b cs,S1)=>(match sRd F cs (tcl P 9 (ts.headD 0)) S1 with
      | some (q,is,S2)=>(match sArgs F P xs ts.tail S2 with | some (r,as0,S3)=>some (p ++ (q ++ r),(b,is) :: as0,S3) | none=>none)
      | none=>none)
    | _=>none
theorem RD.app_pre {xs : List Nat} {ds : List DV} (h : RD ρ xs ds) (hp : Pre ρ ρ') : gL ρ' xs = some ds:=rd_gL (h.mono hp)
theorem sArgs_ok {F : Bool} : ∀ {xs : List Operand} {ts : List TypeId} {S S' : Sy} {ps : List PO} {as0 : List (Bool × List Nat)} {ρ ρ' : List DV},sArgs F P xs ts S = some (ps,as0,S')→evalPs ps ρ = some ρ'→Rel S ρ σ s →
    ∃ ys,gArgs ρ' as0 = some ys∧(F = false→argsRd s xs ys)∧(F = true→argsRdF s xs ys)∧Rel S' ρ' σ s
  | [],ts,S,S',ps,as0,ρ,ρ',h,he,hr=>by
    simp only [sArgs] at h
    injection h with h;injection h with e1 h;injection h with e2 e3;subst e1 e2 e3
    simp only [evalPs] at he;injection he with he;subst he
    exact ⟨[],rfl,fun _=>trivial,fun _=>trivial,hr⟩
  | x :: xs,ts,S,S',ps,as0,ρ,ρ',h,he,hr=>by
    simp only [sArgs] at h
    split at h
    · rename_i p b cs S1 hv
      split at h
      · rename_i q is S2 hq
        split at h
        · rename_i r as' S3 hr'
          injection h with h;injection h with e1 h;injection h with e2 e3;subst e1 e2 e3
          obtain ⟨ρ1,a1,a2⟩:=evalPs_app he
          obtain ⟨ρ2,b1,b2⟩:=evalPs_app a2
          obtain ⟨k1,k2⟩:=sev_ok hv a1 hr
          cases hx : s.ev x with
          | p b' ys0 =>
            rw [hx] at k1
            obtain ⟨rfl,hc⟩:=k1
            obtain ⟨ds,g1,g2,g3,g4⟩:=sRd_ok hq b1 k2 hc
            obtain ⟨ys,y1,y2,y3,y4⟩:=sArgs_ok hr' b2 g4
            refine ⟨(b',ds) :: ys,by simp only [gArgs,g1.app_pre (evalPs_pre b2),y1],fun hF=>⟨?_,y2 hF⟩,fun hF=>⟨?_,y3 hF⟩,y4⟩
            · rw [hx];exact ⟨rfl,g2 hF⟩
            · rw [hx];exact ⟨rfl,g3 hF⟩
          | tup=>rw [hx] at k1;exact k1.elim
          | und=>rw [hx] at k1;exact k1.elim
        · cases h
      · cases h
    · cases h
def skOb (X : Bool) (c t k m : Nat) : SO:=if X then .dx c m else .row c t k m
theorem skOb_ok {X : Bool} {c c' t k m : Nat} {es : List (List DV)} (h1 : σ[c]? = some c') (h2 : ρ[m]? = some (.sl t k es)) : RO ρ σ (skOb X c t k m) (mkOb X c' t k es):=by
  cases X
  · exact ⟨h1,rfl,rfl,rfl,h2⟩
  · exact ⟨h1,h2⟩
def sAd (X : Bool) : List (Option (Nat × Nat))→Nat→Sy→List SC × Sy
  | [],m,S=>([],S)
  | none :: r,m,S=>(.d m :: (sAd X r (m + 1) S).1,(sAd X r (m + 1) S).2)
  | some (t,k) :: r,m,S=>(.own S.n S.c :: (sAd X r (m + 1) (S.push (skOb X S.c t k m))).1,(sAd X r (m + 1) (S.push (skOb X S.c t k m))).2)
theorem sAd_ok {X : Bool} : ∀ {ds : List DV} {ss : List (Option (Nat × Nat))} {m : Nat} {S : Sy} {s : AS} {σ : List Nat},shC ss ds = true→RD ρ (vars m ds.length) ds→Rel S ρ σ s →
    ∃ σ',Pre σ σ'∧Rel (sAd X ss m S).2 ρ σ' (s.pushL (adO X ds s.c))∧RCs ρ σ' (sAd X ss m S).1 (adC ds s.n s.c)
  | [],ss,m,S,s,σ,h,hd,hr=>by
    cases ss with
    | nil=>exact ⟨σ,Pre.refl _,hr,trivial⟩
    | cons x r=>cases x <;> simp [shC] at h
  | .sc u :: ds,ss,m,S,s,σ,h,hd,hr=>by
    match ss,h with
    | none :: r,h =>
      simp only [shC] at h
      obtain ⟨σ',p1,p2,p3⟩:=sAd_ok (ds:=ds) h hd.2 hr
      exact ⟨σ',p1,p2,hd.1,p3⟩
  | .sl t k es :: ds,ss,m,S,s,σ,h,hd,hr=>by
    match ss,h with
    | some (t',k') :: r,h =>
      simp only [shC,Bool.and_eq_true,decide_eq_true_eq] at h
      obtain ⟨⟨rfl,rfl⟩,h⟩:=h
      have hp:=hr.push (so:=skOb X S.c t k m) (ob:=mkOb X s.c t k es) (skOb_ok (hr.last _) hd.1)
      obtain ⟨σ',p1,p2,p3⟩:=sAd_ok (ds:=ds) h hd.2 hp
      refine ⟨σ',(Pre.app _ _).trans p1,?_,⟨hr.n,p1.get (hr.last _)⟩,p3⟩
      exact p2
def sResL (X : Bool) : Sh→Nat→Sy→List (Bool × List SC) × Sy
  | [],m,S=>([],S)
  | (b,ss,true) :: r,m,S=>((b,(sAd X ss m S).1) :: (sResL X r (m + ss.length) (sAd X ss m S).2).1,(sResL X r (m + ss.length) (sAd X ss m S).2).2)
  | (b,ss,false) :: r,m,S=>((b,(vars m ss.length).map .d) :: (sResL X r (m + ss.length) S).1,(sResL X r (m + ss.length) S).2)
theorem rd_split : ∀ {xs ys : List DV} {m : Nat},RD ρ (vars m (xs ++ ys).length) (xs ++ ys)→RD ρ (vars m xs.length) xs∧RD ρ (vars (m + xs.length) ys.length) ys
  | [],ys,m,h=>⟨trivial,by simpa using h⟩
  | x :: xs,ys,m,h=>by
    obtain ⟨h1,h2⟩:=rd_split (xs:=xs) (ys:=ys) (m:=m + 1) h.2
    refine ⟨⟨h.1,h1⟩,?_⟩
    have : m + 1 + xs.length = m + (x :: xs).length:=by simp;omega
    rw [← this];exact h2
theorem shC_len : ∀ {ss : List (Option (Nat × Nat))} {ds : List DV},shC ss ds = true→ds.length = ss.length
  | [],[],_=>rfl
  | none :: ss,.sc _ :: ds,h=>by simp only [shC] at h;simp [shC_len h]
  | some (t,k) :: ss,.sl t' k' _ :: ds,h=>by simp only [shC,Bool.and_eq_true] at h;simp [shC_len h.2]
  | [],_ :: _,h=>by simp [shC] at h
  | none :: _,[],h=>by simp [shC] at h
  | some _ :: _,[],h=>by simp [shC] at h
  | none :: _,.sl _ _ _ :: _,h=>by simp [shC] at h
  | some _ :: _,.sc _ :: _,h=>by simp [shC] at h
theorem sResL_ok {X : Bool} : ∀ {rs : List Rs} {sh : Sh} {m : Nat} {S : Sy} {s : AS} {σ : List Nat},shOk sh rs = true→RD ρ (vars m (flatR rs).length) (flatR rs)→Rel S ρ σ s →
    ∃ σ',Pre σ σ'∧Rel (sResL X sh m S).2 ρ σ' (s.pushL (resO X rs s.c))∧RT ρ σ' (sResL X sh m S).1 (resC rs s.n s.c)
  | [],sh,m,S,s,σ,h,hd,hr=>by
    cases sh with
    | nil=>exact ⟨σ,Pre.refl _,hr,trivial⟩
    | cons x r=>obtain ⟨b,ss,ow⟩:=x;simp [shOk] at h
  | (b,ds,ow) :: rs,sh,m,S,s,σ,h,hd,hr=>by
    match sh,h with
    | (b',ss,ow') :: r,h =>
      simp only [shOk,Bool.and_eq_true,decide_eq_true_eq] at h
      obtain ⟨⟨rfl,rfl⟩,h1,h2⟩:=h
      obtain ⟨d1,d2⟩:=rd_split hd
      rw [shC_len h1] at d2
      cases ow with
      | true =>
        obtain ⟨σ1,p1,p2,p3⟩:=sAd_ok h1 d1 hr
        obtain ⟨σ2,q1,q2,q3⟩:=sResL_ok h2 d2 p2
        obtain ⟨n1,n2,-,-⟩:=pushL_n (adO X ds s.c) s
        rw [adO_len X] at n1
        refine ⟨σ2,p1.trans q1,?_,⟨rfl,RCs.mono (Pre.refl _) q1 p3⟩,?_⟩
        · have : s.pushL (resO X ((b,ds,true) :: rs) s.c) = (s.pushL (adO X ds s.c)).pushL (resO X rs (s.pushL (adO X ds s.c)).c):=by rw [n2,resO,pushL_app]
          rw [this];exact q2
        · rw [n1,n2,adO_len X] at q3;exact q3
      | false =>
        obtain ⟨σ2,q1,q2,q3⟩:=sResL_ok h2 d2 hr
        refine ⟨σ2,q1,q2,⟨rfl,?_⟩,q3⟩
        rw [← shC_len h1];exact RD.toC d1
def resSV (l : List (Bool × List SC)) : SV:=match l with | [(b,cs)]=>.p b cs | l=>.tup l
theorem resSV_ok {l : List (Bool × List SC)} {rs : List Rs} {n c : Nat} (h : RT ρ σ l (resC rs n c)) : RV ρ σ (resSV l) (resAV rs n c):=by
  unfold resSV resAV
  generalize resC rs n c = l' at h
  match l,l',h with
  | [],[],h=>exact h
  | [(b,cs)],[(b',cs')],h=>exact h.1
  | x :: y :: l,x' :: y' :: l',h=>exact h
  | [x],_ :: _ :: _,h=>exact h.2.elim
  | _ :: _ :: _,[x],h=>exact h.2.elim
def shLen : Sh→Nat
  | []=>0
  | (_,ss,_) :: r=>ss.length + shLen r
theorem shOk_len : ∀ {sh : Sh} {rs : List Rs},shOk sh rs = true→(flatR rs).length = shLen sh
  | [],[],_=>rfl
  | (b,ss,ow) :: sh,(b',ds,ow') :: rs,h=>by
    simp only [shOk,Bool.and_eq_true] at h
    simp [flatR,shLen,shC_len h.2.1,shOk_len h.2.2]
  | [],_ :: _,h=>by simp [shOk] at h
  | (_,_,_) :: _,[],h=>by simp [shOk] at h
theorem shOk_own : ∀ {sh : Sh} {rs : List Rs},shOk sh rs = true→(∀ x ∈ sh,x.2.2 = true)→∀ r ∈ rs,r.2.2 = true
  | [],[],_,_=>by simp
  | (b,ss,ow) :: sh,(b',ds,ow') :: rs,h,hx=>by
    simp only [shOk,Bool.and_eq_true,decide_eq_true_eq] at h
    intro r hr
    rcases List.mem_cons.1 hr with rfl | hr
    · rw [h.1.2];exact hx _ (List.mem_cons_self ..)
    · exact shOk_own h.2.2 (fun x hx'=>hx x (List.mem_cons_of_mem _ hx')) r hr
  | [],_ :: _,h,_=>by simp [shOk] at h
  | (_,_,_) :: _,[],h,_=>by simp [shOk] at h
def shOf (P : Program) (ow : OwK) (f : FuncId) : Option Sh:=match P.funcs[f]? with | some fn=>some (fn.resultTypes.toList.map fun t=>((tagg P t).getD false,tcl P 9 t,ow f)) | none=>none
def sCall0 (P : Program) (ow : OwK) (S : Sy) (d : Option Nat) (f : FuncId) (args : List Operand) (ts : List TypeId) : Option (List Nd × Sy) :=
  match shOf P ow f,sArgs (!ow f) P args ts S with
  | some sh,some (p,as0,S1)=>if sh.all (fun x=>x.2.2 == ow f) && decide (f < 1000000) then some (p.map .po ++ [.call f as0 sh],(sResL ow.dx sh S1.m (S1.bind (shLen sh))).2.put d (resSV (sResL ow.dx sh S1.m (S1.bind (shLen sh))).1)) else none
  | _,_=>none
theorem goes_call0 {ow : OwK} {f : FuncId} {args : Array Operand} {ts : Array TypeId} (ho : o.op = .call ⟨.value (.func f),args,ts⟩) (h : sCall0 P ow S o.dst f args.toList ts.toList = some (nds,S')) (hd : dB N o.dst = true) (hr : Rel S ρ σ s) (hw : WN P nds K ρ) : Goes P N o s S' K:=by
  unfold sCall0 at h
  split at h
  · rename_i sh p as0 S1 hsh has
    split at h
    · rename_i hall
      rw [Bool.and_eq_true,decide_eq_true_eq] at hall
      obtain ⟨hall,hf6⟩:=hall
      injection h with h;injection h with e1 e2;subst e1 e2
      obtain ⟨ρ1,he,hw2⟩:=wn_po (wn_app hw)
      simp only [WN] at hw2
      obtain ⟨ys,res,w1,w2,w3,w4⟩:=hw2
      have w2:=w2.plain hf6
      obtain ⟨ys',y1,y2,y3,y4⟩:=sArgs_ok has he hr
      rw [w1] at y1;injection y1 with y1;subst y1
      have hlen:=shOk_len w3
      have har : (argsRd s args.toList ys∧∀ r ∈ res,r.2.2 = true) ∨ argsRdF s args.toList ys:=by
        cases hf : ow f with
        | true =>
          refine .inl ⟨y2 (by rw [hf];rfl),shOk_own w3 fun x hx=>?_⟩
          have:=List.all_eq_true.1 hall x hx
          rw [hf] at this;simpa using this
        | false=>exact .inr (y3 (by rw [hf];rfl))
      have hb:=y4.bind (out:=flatR res) hlen
      obtain ⟨σ',p1,p2,p3⟩:=sResL_ok (m:=S1.m) w3 (vars_rd' y4.m rfl) hb
      exact ⟨_,σ',_,(h_call (s:=s) ow.dx ho w2 har).toO (dB_ok hd),p2.put (resSV_ok p3),w4⟩
    · cases h
  · cases h
def Fz (s s' : AS) : Prop:=∀ w0 N a w E,RepE w0 N s a w E→∃ E',RepE w0 N s' a w E'
theorem Fz.trans {s1 : AS} (h : Fz s s1) (k : Fz s1 s') : Fz s s':=fun w0 N a w E hr=>by
  obtain ⟨E1,h1⟩:=h w0 N a w E hr
  exact k w0 N a w E1 h1
def fzC (S : Sy) : SC→Sy
  | .own i st=>(match S.own i st with | some (.row _ _ _ x)=>{ S with ob:=(i,.frz st x) :: S.ob } | _=>S)
  | _=>S
def fzO (S : Sy) : Operand→Sy
  | .tmp t=>(match alook S.sl t with | some (.p _ cs)=>cs.foldl fzC S | _=>S)
  | _=>S
def fzA (S : Sy) (xs : List Operand) : Sy:=xs.foldl fzO S
theorem fzC_ok {c : SC} {y : AC} (hr : Rel S ρ σ s) (hc : RC ρ σ c y) : ∃ s',Fz s s'∧Rel (fzC S c) ρ σ s':=by
  cases c <;> first | exact ⟨s,fun _ _ _ _ E h=>⟨E,h⟩,hr⟩ | skip
  rename_i i st
  cases y <;> first | exact hc.elim | skip
  rename_i i' st'
  obtain ⟨rfl,hst⟩:=hc
  simp only [fzC]
  split
  · rename_i a t k x ho
    obtain ⟨o',k1,k2,k3,k4⟩:=hr.own ho hst
    cases o' <;> first | exact k2.elim | skip
    rename_i b ty' kk es' dp
    obtain ⟨k5,rfl,rfl,rfl,hx⟩:=k2
    obtain rfl:=own_stV k1 rfl
    exact ⟨s.frz i' b (.sl ty' kk es'),fun w0 N a w E h=>by obtain ⟨q1,q2,-⟩:=owns_row k1 w0 N a w E h;obtain ⟨E',h1,-⟩:=freeze_any h k1 q1 q2 rfl;exact ⟨E',h1⟩,
      hr.upd (s':=s.frz i' b (.sl ty' kk es')) (i:=i') (n':=S.n) (c':=S.c) (so:=.frz st x) (Pre.refl _) hr.c hr.n (Nat.le_refl _) k4 rfl (fun j hj=>by simp only [AS.frz,upd_ne _ _ hj]) (by simp only [AS.frz,upd_same];exact ⟨hst,hx⟩)⟩
  · exact ⟨s,fun _ _ _ _ E h=>⟨E,h⟩,hr⟩
theorem fzL_ok : ∀ {cs : List SC} {ys : List AC} {S : Sy} {s : AS},Rel S ρ σ s→RCs ρ σ cs ys→∃ s',Fz s s'∧Rel (cs.foldl fzC S) ρ σ s'
  | [],_,S,s,hr,_=>⟨s,fun _ _ _ _ E h=>⟨E,h⟩,hr⟩
  | c :: cs,[],S,s,hr,hc=>hc.elim
  | c :: cs,y :: ys,S,s,hr,hc=>by
    obtain ⟨s1,f1,r1⟩:=fzC_ok hr hc.1
    obtain ⟨s2,f2,r2⟩:=fzL_ok (cs:=cs) r1 hc.2
    exact ⟨s2,f1.trans f2,r2⟩
theorem fzO_ok {x : Operand} (hr : Rel S ρ σ s) : ∃ s',Fz s s'∧Rel (fzO S x) ρ σ s':=by
  cases x <;> first | exact ⟨s,fun _ _ _ _ E h=>⟨E,h⟩,hr⟩ | skip
  rename_i t
  simp only [fzO]
  split
  · rename_i b cs hl
    have h1:=hr.sl _ _ hl
    cases hx : s.sl t with
    | p b' ys =>
      rw [hx] at h1
      exact fzL_ok hr h1.2
    | tup=>rw [hx] at h1;exact h1.elim
    | und=>rw [hx] at h1;exact h1.elim
  · exact ⟨s,fun _ _ _ _ E h=>⟨E,h⟩,hr⟩
theorem fzA_ok : ∀ {xs : List Operand} {S : Sy} {s : AS},Rel S ρ σ s→∃ s',Fz s s'∧Rel (fzA S xs) ρ σ s'
  | [],S,s,hr=>⟨s,fun _ _ _ _ E h=>⟨E,h⟩,hr⟩
  | x :: xs,S,s,hr=>by
    obtain ⟨s1,f1,r1⟩:=fzO_ok (x:=x) hr
    obtain ⟨s2,f2,r2⟩:=fzA_ok (xs:=xs) r1
    exact ⟨s2,f1.trans f2,r2⟩
theorem goes_fz {s1 : AS} (h : Fz s s1) (g : Goes P N o s1 S' K) : Goes P N o s S' K:=by
  obtain ⟨ρ',σ',s',h1,h2,h3⟩:=g
  exact ⟨ρ',σ',s',fun w0 a w E hr=>by obtain ⟨E1,hr1⟩:=h w0 N a w E hr;exact h1 w0 a w E1 hr1,h2,h3⟩
def sCall (P : Program) (ow : OwK) (S : Sy) (d : Option Nat) (f : FuncId) (args : List Operand) (ts : List TypeId) : Option (List Nd × Sy) :=
  sCall0 P ow (if ow f then S else fzA S args) d f args ts
theorem goes_call {ow : OwK} {f : FuncId} {args : Array Operand} {ts : Array TypeId} (ho : o.op = .call ⟨.value (.func f),args,ts⟩) (h : sCall P ow S o.dst f args.toList ts.toList = some (nds,S')) (hd : dB N o.dst = true) (hr : Rel S ρ σ s) (hw : WN P nds K ρ) : Goes P N o s S' K:=by
  unfold sCall at h
  cases hf : ow f with
  | true =>
    rw [hf,if_pos rfl] at h
    exact goes_call0 ho h hd hr hw
  | false =>
    rw [hf,if_neg (by decide)] at h
    obtain ⟨s1,f1,r1⟩:=fzA_ok (xs:=args.toList) hr
    exact goes_fz f1 (goes_call0 ho h hd r1 hw)
def sCallP (P : Program) (ow : OwK) (S : Sy) (d : Option Nat) (f : FuncId) (args : List Operand) (ts : List TypeId) : Option (List Nd × Sy) :=
  match args with
  | .tmp x :: xs=>(match alook S.sl x with
    | some (.p false [.own i st])=>(match S.own i st with
      | some (.row _ t k y)=>(match shOf P ow f,sArgs false P xs ts.tail { S with ob:=(i,.dead) :: S.ob } with
        | some sh,some (p,as0,S1)=>if sh.all (fun x=>x.2.2) && decide (P.funcs.size≤1000000∧f < 1000000) then some (p.map .po ++ [.call (1000000 + f) ((false,[y]) :: as0) sh],(sResL false sh S1.m (S1.bind (shLen sh))).2.put d (resSV (sResL false sh S1.m (S1.bind (shLen sh))).1)) else none
        | _,_=>none)
      | _=>none)
    | _=>none)
  | _=>none
theorem goes_callP {ow : OwK} {f : Nat} {args : Array Operand} {ts : Array TypeId} (ho : o.op = .call ⟨.value (.func f),args,ts⟩) (h : sCallP P ow S o.dst f args.toList ts.toList = some (nds,S')) (hd : dB N o.dst = true) (hr : Rel S ρ σ s) (hw : WN P nds K ρ) : Goes P N o s S' K:=by
  unfold sCallP at h
  split at h
  · rename_i x xs hargs
    split at h
    · rename_i i st hx
      split at h
      · rename_i a0 t k y hown
        split at h
        · rename_i sh p as0 S1 hsh has
          split at h
          · rename_i hall
            rw [Bool.and_eq_true,decide_eq_true_eq] at hall
            injection h with h;injection h with e1 e2;subst e1 e2
            obtain ⟨ρ1,he,hw2⟩:=wn_po (wn_app hw)
            simp only [WN] at hw2
            obtain ⟨ys,res,w1,w2,w3,w4⟩:=hw2
            have hlen:=shOk_len w3
            have hv:=hr.sl _ _ hx
            cases hsx : s.sl x with
            | tup=>rw [hsx] at hv;exact hv.elim
            | und=>rw [hsx] at hv;exact hv.elim
            | p b cs =>
              rw [hsx] at hv
              obtain ⟨rfl,hv⟩:=hv
              match cs,hv with
              | [c],hv =>
                cases c <;> first | exact hv.1.elim | skip
                rename_i i' st'
                obtain ⟨⟨rfl,hst⟩,-⟩:=hv
                obtain ⟨o',k1,k2,k3,k4⟩:=hr.own hown hst
                cases o' <;> first | exact k2.elim | skip
                rename_i b ty' kk es' dp
                obtain ⟨k5,rfl,rfl,rfl,hy⟩:=k2
                obtain rfl:=own_stV k1 rfl
                have hrk : Rel { S with ob:=(i',.dead) :: S.ob } ρ σ (s.kill i') :=
                  hr.upd (s':=s.kill i') (i:=i') (n':=S.n) (c':=S.c) (so:=.dead) (Pre.refl _) hr.c hr.n (Nat.le_refl _) k4 rfl (fun j hj=>by simp only [AS.kill,upd_ne _ _ hj]) trivial
                obtain ⟨zs,y1,y2,y3,y4⟩:=sArgs_ok has he hrk
                have hpre:=evalPs_pre he
                simp only [gArgs,gL,hpre.get hy,y1] at w1
                injection w1 with w1
                subst w1
                have hm : MeetsP P f ((false,[.sl ty' kk es']) :: zs) res:=by
                  generalize hf : 1000000 + f = f' at w2
                  cases w2 with
                  | n h =>
                    have hc:=h.1
                    rw [← hf] at hc
                    unfold callable at hc
                    rw [Array.getElem?_eq_none (Nat.le_trans hall.2.1 (Nat.le_add_right _ _))] at hc
                    cases hc
                  | p h =>
                    have e:=Nat.add_left_cancel hf
                    rw [e];exact h
                  | c h => have h1 : f < 1000000 := hall.2.2
                           omega
                  | w h => have h1 : f < 1000000 := hall.2.2
                           omega
                  | g h => have h1 : f < 1000000 := hall.2.2
                           omega
                have hb:=y4.bind (out:=flatR res) hlen
                obtain ⟨σ',p1,p2,p3⟩:=sResL_ok (X:=false) (m:=S1.m) w3 (vars_rd' y4.m rfl) hb
                refine ⟨_,σ',_,st_callP ho hargs hd hm ?_ k1 (y2 rfl),p2.put (resSV_ok p3),w4⟩
                simp only [AS.ev,hsx]
          · cases h
        · cases h
      · cases h
    · cases h
  · cases h
theorem flatR_snoc {b ow : Bool} {d : DV} : ∀ {rs : List Rs},flatR (rs ++ [(b,[d],ow)]) = flatR rs ++ [d]
  | []=>rfl
  | (_,ds,_) :: rs=>by simp only [List.cons_append,flatR,flatR_snoc (rs:=rs),List.append_assoc]
theorem shOk_snoc {q : Bool × List (Option (Nat × Nat)) × Bool} : ∀ {sh : Sh} {R : List Rs},shOk (sh ++ [q]) R = true→∃ rs r,R = rs ++ [r]∧shOk sh rs = true∧shOk [q] [r] = true
  | [],[],h=>by simp [shOk] at h
  | [],[r],h=>⟨[],r,rfl,rfl,h⟩
  | [],r :: r' :: R,h=>by
    obtain ⟨a,b,c⟩:=q
    obtain ⟨a',b',c'⟩:=r
    simp [shOk] at h
  | x :: sh,[],h=>by obtain ⟨a,b,c⟩:=x;simp [shOk] at h
  | (a,b,c) :: sh,(a',b',c') :: R,h=>by
    simp only [List.cons_append,shOk,Bool.and_eq_true] at h
    obtain ⟨rs,r,rfl,h1,h2⟩:=shOk_snoc h.2.2
    exact ⟨(a',b',c') :: rs,r,rfl,by simp only [shOk,Bool.and_eq_true];exact ⟨h.1,h.2.1,h1⟩,h2⟩
def sCallC (P : Program) (ow : OwK) (S : Sy) (d : Option Nat) (f : FuncId) (args : List Operand) (ts : List TypeId) : Option (List Nd × Sy) :=
  match args with
  | .tmp x :: xs=>(match alook S.sl x with
    | some (.p false [.own i st])=>(match S.own i st with
      | some (.cur _ id t z)=>(match shOf P ow f,sArgs false P xs ts.tail { S with ob:=(i,.dead) :: S.ob } with
        | some sh,some (p,as0,S1)=>if sh.all (fun x=>x.2.2) && decide (P.funcs.size≤1000000∧f < 1000000) then
            some (p.map .po ++ [.call (2000000 + f) ((false,[z]) :: as0) (sh ++ [(false,[some (t,0)],true)])],
              (sResL false sh S1.m { (S1.bind (shLen sh + 1)) with ob:=(i,.cur st id t (S1.m + shLen sh)) :: S1.ob }).2.put d (resSV (sResL false sh S1.m { (S1.bind (shLen sh + 1)) with ob:=(i,.cur st id t (S1.m + shLen sh)) :: S1.ob }).1)) else none
        | _,_=>none)
      | _=>none)
    | _=>none)
  | _=>none
theorem goes_callC {ow : OwK} {f : Nat} {args : Array Operand} {ts : Array TypeId} (ho : o.op = .call ⟨.value (.func f),args,ts⟩) (h : sCallC P ow S o.dst f args.toList ts.toList = some (nds,S')) (hd : dB N o.dst = true) (hr : Rel S ρ σ s) (hw : WN P nds K ρ) : Goes P N o s S' K:=by
  unfold sCallC at h
  split at h
  · rename_i x xs hargs
    split at h
    · rename_i i st hx
      split at h
      · rename_i a0 id t z hown
        split at h
        · rename_i sh p as0 S1 hsh has
          split at h
          · rename_i hall
            rw [Bool.and_eq_true,decide_eq_true_eq] at hall
            obtain ⟨hall,hsz,hf6⟩:=hall
            have hf6 : f < 1000000:=hf6
            injection h with h;injection h with e1 e2;subst e1 e2
            obtain ⟨ρ1,he,hw2⟩:=wn_po (wn_app hw)
            simp only [WN] at hw2
            obtain ⟨ys,res,w1,w2,w3,w4⟩:=hw2
            have hv:=hr.sl _ _ hx
            cases hsx : s.sl x with
            | tup=>rw [hsx] at hv;exact hv.elim
            | und=>rw [hsx] at hv;exact hv.elim
            | p b cs =>
              rw [hsx] at hv
              obtain ⟨rfl,hv⟩:=hv
              match cs,hv with
              | [c],hv =>
                cases c <;> first | exact hv.1.elim | skip
                rename_i i' st'
                obtain ⟨⟨rfl,hst⟩,-⟩:=hv
                obtain ⟨o',k1,k2,k3,k4⟩:=hr.own hown hst
                cases o' <;> first | exact k2.elim | skip
                rename_i b id' ty' x0 cs0
                obtain ⟨k5,rfl,rfl,hz⟩:=k2
                obtain rfl:=own_stV k1 rfl
                have hrk : Rel { S with ob:=(i',.dead) :: S.ob } ρ σ (s.kill i') :=
                  hr.upd (s':=s.kill i') (i:=i') (n':=S.n) (c':=S.c) (so:=.dead) (Pre.refl _) hr.c hr.n (Nat.le_refl _) k4 rfl (fun j hj=>by simp only [AS.kill,upd_ne _ _ hj]) trivial
                obtain ⟨zs,y1,y2,y3,y4⟩:=sArgs_ok has he hrk
                have hpre:=evalPs_pre he
                simp only [gArgs,gL,hpre.get hz,y1] at w1
                injection w1 with w1
                obtain ⟨rs,r,er,s1,s2⟩:=shOk_snoc w3
                have hm : ∃ cs',r = (false,[cvD ty' x0 cs'],true)∧MeetsC P f ty' x0 cs0 zs rs cs':=by
                  generalize hf : 2000000 + f = f' at w2
                  cases w2 with
                  | n h =>
                    have hc:=h.1
                    rw [← hf] at hc
                    unfold callable at hc
                    rw [Array.getElem?_eq_none (Nat.le_trans hsz (by omega))] at hc
                    cases hc
                  | p h =>
                    have hc:=h.1
                    unfold callable at hc
                    rw [Array.getElem?_eq_none (Nat.le_trans hsz (by omega))] at hc
                    cases hc
                  | c h =>
                    have e:=Nat.add_left_cancel hf
                    injection w1 with w1 w2
                    injection w1 with _ w1
                    injection w1 with w1 _
                    unfold cvD at w1
                    injection w1 with q1 q2 q3
                    injection q3 with q3 q4
                    injection q3 with q3 _
                    injection q4 with q4 _
                    obtain ⟨e1,e2⟩:=List.append_inj' er rfl
                    injection e2 with e2 _
                    subst q1 q3 q4 w2 e1
                    rw [e]
                    exact ⟨_,e2.symm,h⟩
                  | w h=>omega
                  | g h=>omega
                obtain ⟨cs',er',hm⟩:=hm
                subst er'
                subst er
                have hlen:=shOk_len s1
                rw [flatR_snoc] at w4
                have hb:=y4.bind (out:=flatR rs ++ [cvD ty' x0 cs']) (k:=shLen sh + 1) (by simp [hlen])
                have hu:=hb.upd (s':={ s with ob:=upd s.ob i' (.cur b id' ty' x0 cs') }) (i:=i') (n':=S1.n) (c':=S1.c) (so:=.cur st id' ty' (S1.m + shLen sh)) (Pre.refl _) y4.c (by rw [← y4.n];rfl) (Nat.le_refl _) (by have h1:=y4.n;have h2:=hr.n;have : (s.kill i').n = s.n:=rfl;omega) rfl (fun j hj=>by simp only [AS.kill,upd_ne _ _ hj]) (by
                  simp only [upd_same]
                  exact ⟨hst,rfl,rfl,by rw [← y4.m,← hlen];simp⟩)
                rw [← List.append_assoc] at hu w4
                obtain ⟨σ',p1,p2,p3⟩:=sResL_ok (X:=false) (m:=S1.m) s1 (RD.mono (Pre.app (ρ1 ++ flatR rs) [cvD ty' x0 cs']) (vars_rd' y4.m rfl)) hu
                refine ⟨_,σ',_,st_callC ho hargs hd hm ?_ k1 (y2 rfl),p2.put (resSV_ok p3),w4⟩
                simp only [AS.ev,hsx]
          · cases h
        · cases h
      · cases h
    · cases h
  · cases h
def sCallN (P : Program) (ow : OwK) (S : Sy) (d : Option Nat) (f t : Nat) (args : List Operand) (ts : List TypeId) : Option (List Nd × Sy) :=
  match sArgs true P args ts S with
  | some (p,as0,S1)=>if decide (P.funcs.size≤1000000∧f < 1000000) then
      some (p.map .po ++ [.call (3000000 + f) as0 [(false,[some (t,0)],true)]],((S1.bind 1).push (.cur S1.c false t S1.m)).put d (.p false [.own S1.n S1.c])) else none
  | none=>none
theorem goes_callN {ow : OwK} {f : Nat} {t : Nat} {args : Array Operand} {ts : Array TypeId} (ho : o.op = .call ⟨.value (.func f),args,ts⟩) (h : sCallN P ow S o.dst f t args.toList ts.toList = some (nds,S')) (hd : dB N o.dst = true) (hr : Rel S ρ σ s) (hw : WN P nds K ρ) : Goes P N o s S' K:=by
  unfold sCallN at h
  split at h
  · rename_i p as0 S1 has
    split at h
    · rename_i hall
      rw [decide_eq_true_eq] at hall
      obtain ⟨hsz,hf6⟩:=hall
      have hf6 : f < 1000000:=hf6
      injection h with h;injection h with e1 e2;subst e1 e2
      obtain ⟨ρ1,he,hw2⟩:=wn_po (wn_app hw)
      simp only [WN] at hw2
      obtain ⟨ys,res,w1,w2,w3,w4⟩:=hw2
      obtain ⟨zs,y1,y2,y3,y4⟩:=sArgs_ok has he hr
      rw [w1] at y1;injection y1 with y1;subst y1
      have hm : ∃ x cs',res = [(false,[cvD t x cs'],true)]∧MeetsN P f ys t x cs':=by
        generalize hf : 3000000 + f = f' at w2
        cases w2 with
        | n h =>
          have hc:=h.1
          rw [← hf] at hc
          unfold callable at hc
          rw [Array.getElem?_eq_none (Nat.le_trans hsz (by omega))] at hc
          cases hc
        | p h =>
          have hc:=h.1
          unfold callable at hc
          rw [Array.getElem?_eq_none (Nat.le_trans hsz (by omega))] at hc
          cases hc
        | c h =>
          have hc:=h.1
          unfold callable at hc
          rw [Array.getElem?_eq_none (Nat.le_trans hsz (by omega))] at hc
          cases hc
        | w h =>
          have e:=Nat.add_left_cancel hf
          rename_i t' x cs'
          have ht : t' = t:=by
            simp [shOk,shC,cvD] at w3
            exact w3
          subst ht
          rw [e]
          exact ⟨_,_,rfl,h⟩
        | g h=>omega
      obtain ⟨x,cs',rfl,hm⟩:=hm
      have hb:=y4.bind (out:=[cvD t x cs']) (k:=1) rfl
      have hp:=hb.push (so:=.cur S1.c false t S1.m) (ob:=.cur s.c false t x cs') ⟨hb.last _,rfl,rfl,by rw [← y4.m];simp⟩
      exact ⟨_,_,_,st_callN ho hd hm (y3 rfl),hp.put ⟨rfl,⟨hb.n,hb.last _⟩,trivial⟩,w4⟩
    · cases h
  · cases h
def Sy.del (S : Sy) (d : Option Nat) : Sy:=match d with | some t=>{ S with sl:=S.sl.filter fun p=>!(p.1 == t) } | none=>S
theorem alook_filter {α : Type} {t t' : Nat} : ∀ {l : List (Nat × α)} {x : α},alook (l.filter fun p=>!(p.1 == t)) t' = some x→t' ≠ t∧alook l t' = some x
  | [],x,h=>by simp [alook] at h
  | (j,y) :: r,x,h=>by
    by_cases e : j = t
    · subst e
      simp only [List.filter_cons,beq_self_eq_true,Bool.not_true,Bool.false_eq_true,if_false] at h
      obtain ⟨h1,h2⟩:=alook_filter h
      exact ⟨h1,by simp only [alook,if_neg (fun e : j = t'=>h1 e.symm)];exact h2⟩
    · have hb : (!(j == t)) = true:=by simp [e]
      simp only [List.filter_cons,hb,if_true,alook] at h ⊢
      split at h
      · rename_i e2;subst e2;rw [if_pos rfl];exact ⟨e,h⟩
      · rename_i e2;rw [if_neg e2];exact alook_filter h
theorem Rel.del (hr : Rel S ρ σ s) {d : Option Nat} {x : AV} : Rel (S.del d) ρ σ (s.put d x):=by
  cases d with
  | none=>exact hr
  | some t =>
    refine ⟨hr.n,hr.c,hr.m,fun t' v hv=>?_,hr.ob,hr.kn⟩
    obtain ⟨h1,h2⟩:=alook_filter hv
    simp only [AS.put];rw [upd_ne _ _ h1];exact hr.sl t' v h2
def sTake : List SC→List (Option (Nat × Nat))→Sy→Option (List PO × List Nat × Sy)
  | [],_,S=>some ([],[],S)
  | .d i :: cs,ty,S=>(match sTake cs ty.tail S with | some (p,xs,S')=>some (.sc i :: p,i :: xs,S') | none=>none)
  | .nil :: cs,ty,S=>(match ty.headD none with
    | some (t,k)=>if 0 < k then (match sTake cs ty.tail (S.bind 1) with | some (p,xs,S')=>some (.e t k :: p,S.m :: xs,S') | none=>none) else none
    | none=>none)
  | .own i st :: cs,ty,S=>(match S.own i st with
    | some (.row _ _ _ x)=>(match sTake cs ty.tail { S with ob:=(i,.dead) :: S.ob } with | some (p,xs,S')=>some (p,x :: xs,S') | none=>none)
    | _=>none)
  | _ :: _,_,_=>none
theorem sTake_ok : ∀ {cs : List SC} {ty : List (Option (Nat × Nat))} {S S' : Sy} {ps : List PO} {xs : List Nat} {ρ ρ' : List DV} {s : AS} {ys : List AC},sTake cs ty S = some (ps,xs,S')→evalPs ps ρ = some ρ'→Rel S ρ σ s→RCs ρ σ cs ys →
    ∃ s' ds,Takes s s' ys ds∧RD ρ' xs ds∧Rel S' ρ' σ s'
  | [],ty,S,S',ps,xs,ρ,ρ',s,ys,h,he,hr,hc=>by
    simp only [sTake] at h
    injection h with h;injection h with e1 h;injection h with e2 e3
    subst e1 e2 e3
    simp only [evalPs] at he;injection he with he;subst he
    cases ys with
    | nil=>exact ⟨s,[],take_nil,trivial,hr⟩
    | cons=>exact hc.elim
  | c :: cs,ty,S,S',ps,xs,ρ,ρ',s,[],h,he,hr,hc=>hc.elim
  | .d i :: cs,ty,S,S',ps,xs,ρ,ρ',s,y :: ys,h,he,hr,hc=>by
    simp only [sTake] at h
    split at h
    · rename_i p xs' S1 hg
      injection h with h;injection h with e1 h;injection h with e2 e3
      subst e1 e2 e3
      obtain ⟨x,rfl,hx⟩:=rc_d hc.1
      simp only [evalPs,evalP,hx] at he
      split at he
      · rename_i out ho
        split at ho
        · rename_i hsc
          injection ho with ho;subst ho
          rw [List.append_nil] at he
          obtain ⟨u,rfl⟩:=isScD_ok hsc
          obtain ⟨s',ds,g1,g2,g3⟩:=sTake_ok hg he hr hc.2
          exact ⟨s',.sc u :: ds,take_sc g1,⟨(evalPs_pre he).get hx,g2⟩,g3⟩
        · cases ho
      · cases he
    · cases h
  | .nil :: cs,ty,S,S',ps,xs,ρ,ρ',s,y :: ys,h,he,hr,hc=>by
    simp only [sTake] at h
    cases y <;> first | exact hc.1.elim | skip
    split at h
    · rename_i t k ht
      split at h
      · rename_i hk
        split at h
        · rename_i p xs' S1 hg
          injection h with h;injection h with e1 h;injection h with e2 e3
          subst e1 e2 e3
          simp only [evalPs,evalP] at he
          obtain ⟨s',ds,g1,g2,g3⟩:=sTake_ok hg he (hr.bind rfl) (RCs.mono (Pre.app _ _) (Pre.refl _) hc.2)
          refine ⟨s',.sl t k [] :: ds,take_nilS hk g1,⟨(evalPs_pre he).get (by simp [← hr.m]),g2⟩,g3⟩
        · cases h
      · cases h
    · cases h
  | .own i st :: cs,ty,S,S',ps,xs,ρ,ρ',s,y :: ys,h,he,hr,hc=>by
    simp only [sTake] at h
    cases y <;> first | exact hc.1.elim | skip
    rename_i i' st'
    obtain ⟨⟨rfl,hst⟩,hc2⟩:=hc
    split at h
    · rename_i a t k x ho
      split at h
      · rename_i p xs' S1 hg
        injection h with h;injection h with e1 h;injection h with e2 e3
        subst e1 e2 e3
        obtain ⟨o',k1,k2,k3,k4⟩:=hr.own ho hst
        cases o' <;> first | exact k2.elim | skip
        rename_i b ty' kk es' dp
        obtain ⟨k5,rfl,rfl,rfl,hx⟩:=k2
        have hb : b = st':=by
          obtain ⟨-,q2,q3⟩:=own?_some k1
          rw [← k3] at q2
          unfold AS.lv at q3
          split at q3
          · rw [k3] at q3;simpa [Ob.st] using q3
          · cases q3
        subst hb
        have hr2 : Rel { S with ob:=(i',SO.dead) :: S.ob } ρ σ (s.kill i') :=
          hr.upd (s':=s.kill i') (i:=i') (n':=S.n) (c':=S.c) (so:=.dead) (Pre.refl _) hr.c hr.n (Nat.le_refl _) k4 rfl (fun j hj=>by simp only [AS.kill,upd_ne _ _ hj]) trivial
        obtain ⟨s',ds,g1,g2,g3⟩:=sTake_ok hg he hr2 hc2
        exact ⟨s',.sl ty' kk es' :: ds,take_own k1 g1,⟨(evalPs_pre he).get hx,g2⟩,g3⟩
      · cases h
    · cases h
  | .ptr _ _ _ :: cs,ty,S,S',ps,xs,ρ,ρ',s,y :: ys,h,he,hr,hc=>by simp [sTake] at h
  | .elt _ _ _ _ _ :: cs,ty,S,S',ps,xs,ρ,ρ',s,y :: ys,h,he,hr,hc=>by simp [sTake] at h
  | .sub _ _ _ _ _ :: cs,ty,S,S',ps,xs,ρ,ρ',s,y :: ys,h,he,hr,hc=>by simp [sTake] at h
  | .emp :: cs,ty,S,S',ps,xs,ρ,ρ',s,y :: ys,h,he,hr,hc=>by simp [sTake] at h
  | .rd _ :: cs,ty,S,S',ps,xs,ρ,ρ',s,y :: ys,h,he,hr,hc=>by simp [sTake] at h
def sAG (P : Program) : List Bool→List Operand→List TypeId→Sy→Option (List PO × List (Bool × List Nat) × Sy)
  | true :: g,x :: xs,ts,S=>(match x with
    | .tmp t=>(match alook S.sl t with
      | some (.p b cs)=>(match sTake cs (tcl P 9 (ts.headD 0)) S with
        | some (q,is,S1)=>(match sAG P g xs ts.tail S1 with | some (r,as0,S2)=>some (q ++ r,(b,is) :: as0,S2) | none=>none)
        | none=>none)
      | _=>none)
    | _=>none)
  | false :: g,x :: xs,ts,S=>(match sAG P g xs ts.tail S with
    | some (r,as0,S1)=>(match sev S1 x with
      | some (p,.p b cs,S2)=>(match sRd false cs (tcl P 9 (ts.headD 0)) S2 with
        | some (q,is,S3)=>some (r ++ (p ++ q),(b,is) :: as0,S3)
        | none=>none)
      | _=>none)
    | none=>none)
  | [],[],_,S=>some ([],[],S)
  | _,_,_,_=>none
theorem gL_pre (hp : Pre ρ ρ') : ∀ {is : List Nat} {xs : List DV},gL ρ is = some xs→gL ρ' is = some xs
  | [],xs,h=>h
  | i :: is,xs,h=>by
    simp only [gL] at h ⊢
    split at h
    · rename_i x ys h1 h2
      rw [hp.get h1,gL_pre hp h2];exact h
    · cases h
theorem gArgs_pre (hp : Pre ρ ρ') : ∀ {as0 : List (Bool × List Nat)} {ys : List (Bool × List DV)},gArgs ρ as0 = some ys→gArgs ρ' as0 = some ys
  | [],ys,h=>h
  | (b,is) :: r,ys,h=>by
    simp only [gArgs] at h ⊢
    split at h
    · rename_i x xs h1 h2
      rw [gL_pre hp h1,gArgs_pre hp h2];exact h
    · cases h
theorem sAG_ok {s0 : AS} : ∀ {g : List Bool} {xs : List Operand} {ts : List TypeId} {S S' : Sy} {ps : List PO} {as0 : List (Bool × List Nat)} {ρ ρ' : List DV} {s : AS},sAG P g xs ts S = some (ps,as0,S')→evalPs ps ρ = some ρ'→Rel S ρ σ s→s.sl = s0.sl →
    ∃ sF ys,gArgs ρ' as0 = some ys∧TakeA s0 sF xs (mkRs g ys) s∧Rel S' ρ' σ sF∧sF.sl = s0.sl∧ys.length = xs.length
  | [],[],ts,S,S',ps,as0,ρ,ρ',s,h,he,hr,hs=>by
    simp only [sAG] at h
    injection h with h;injection h with e1 h;injection h with e2 e3;subst e1 e2 e3
    simp only [evalPs] at he;injection he with he;subst he
    exact ⟨s,[],rfl,rfl,hr,hs,rfl⟩
  | [],_ :: _,ts,S,S',ps,as0,ρ,ρ',s,h,_,_,_=>by simp [sAG] at h
  | b :: _,[],ts,S,S',ps,as0,ρ,ρ',s,h,_,_,_=>by cases b <;> simp [sAG] at h
  | true :: g,x :: xs,ts,S,S',ps,as0,ρ,ρ',s,h,he,hr,hs=>by
    simp only [sAG] at h
    split at h
    · rename_i t
      split at h
      · rename_i b cs hl
        split at h
        · rename_i q is S1 hq
          split at h
          · rename_i r as' S2 hr'
            injection h with h;injection h with e1 h;injection h with e2 e3;subst e1 e2 e3
            obtain ⟨ρ1,a1,a2⟩:=evalPs_app he
            have h1:=hr.sl _ _ hl
            cases hx : s.sl t with
            | p b' ys0 =>
              rw [hx] at h1
              obtain ⟨rfl,hc⟩:=h1
              obtain ⟨s1,ds,g1,g2,g3⟩:=sTake_ok hq a1 hr hc
              obtain ⟨sF,ys,k1,k2,k3,k4,k5⟩:=sAG_ok hr' a2 g3 (g1.2.2.1.trans hs)
              refine ⟨sF,(b',ds) :: ys,by simp only [gArgs,g2.app_pre (evalPs_pre a2),k1],?_,k3,k4,by simp [k5]⟩
              simp only [mkRs,TakeA,AS.ev,← hs,hx]
              exact ⟨trivial,s1,g1,k2⟩
            | tup=>rw [hx] at h1;exact h1.elim
            | und=>rw [hx] at h1;exact h1.elim
          · cases h
        · cases h
      · cases h
    · cases h
  | false :: g,x :: xs,ts,S,S',ps,as0,ρ,ρ',s,h,he,hr,hs=>by
    simp only [sAG] at h
    split at h
    · rename_i r as' S1 hr'
      split at h
      · rename_i p b cs S2 hv
        split at h
        · rename_i q is S3 hq
          injection h with h;injection h with e1 h;injection h with e2 e3;subst e1 e2 e3
          obtain ⟨ρ1,a1,a2⟩:=evalPs_app he
          obtain ⟨ρ2,b1,b2⟩:=evalPs_app a2
          obtain ⟨sF,ys,k1,k2,k3,k4,k5⟩:=sAG_ok hr' a1 hr hs
          obtain ⟨m1,m2⟩:=sev_ok hv b1 k3
          cases hx : sF.ev x with
          | p b' ys0 =>
            rw [hx] at m1
            obtain ⟨rfl,hc⟩:=m1
            obtain ⟨ds,g1,g2,g3,g4⟩:=sRd_ok hq b2 m2 hc
            have hx0 : s0.ev x = .p b' ys0:=by
              rw [← hx];cases x <;> simp only [AS.ev,k4]
            refine ⟨sF,(b',ds) :: ys,by simp only [gArgs,rd_gL g1,gArgs_pre (evalPs_pre a2) k1],?_,g4,k4,by simp [k5]⟩
            simp only [mkRs,TakeA,hx0]
            exact ⟨trivial,g2 rfl,k2⟩
          | tup=>rw [hx] at m1;exact m1.elim
          | und=>rw [hx] at m1;exact m1.elim
        · cases h
      · cases h
    · cases h
def sCallG (P : Program) (ow : OwK) (S : Sy) (d : Option Nat) (f : Nat) (bits : Nat) (args : List Operand) (ts : List TypeId) : Option (List Nd × Sy) :=
  match shOf P ow f,sAG P (bitsL args.length bits) args ts S with
  | some sh,some (p,as0,S1)=>if decide (P.funcs.size≤1000000∧f < 1000000) then some (p.map .po ++ [.call ((4 + bits) * 1000000 + f) as0 sh],(sResL false sh S1.m (S1.bind (shLen sh))).2.put d (resSV (sResL false sh S1.m (S1.bind (shLen sh))).1)) else none
  | _,_=>none
theorem goes_callG {ow : OwK} {f bits : Nat} {args : Array Operand} {ts : Array TypeId} (ho : o.op = .call ⟨.value (.func f),args,ts⟩) (h : sCallG P ow S o.dst f bits args.toList ts.toList = some (nds,S')) (hd : dB N o.dst = true) (hr : Rel S ρ σ s) (hw : WN P nds K ρ) : Goes P N o s S' K:=by
  unfold sCallG at h
  split at h
  · rename_i sh p as0 S1 hsh has
    split at h
    · rename_i hall
      rw [decide_eq_true_eq] at hall
      obtain ⟨hsz,hf6⟩:=hall
      have hf6 : f < 1000000:=hf6
      injection h with h;injection h with e1 e2;subst e1 e2
      obtain ⟨ρ1,he,hw2⟩:=wn_po (wn_app hw)
      simp only [WN] at hw2
      obtain ⟨ys,res,w1,w2,w3,w4⟩:=hw2
      have hlen:=shOk_len w3
      obtain ⟨sF,ys',y1,y2,y3,y4,y5⟩:=sAG_ok (s0:=s) has he hr rfl
      rw [w1] at y1;injection y1 with y1;subst y1
      have hm : MeetsG P f (mkRs (bitsL args.toList.length bits) ys) res:=by
        rw [← y5]
        generalize hf : (4 + bits) * 1000000 + f = f' at w2
        cases w2 with
        | n h =>
          have hc:=h.1
          rw [← hf] at hc
          unfold callable at hc
          rw [Array.getElem?_eq_none (Nat.le_trans hsz (by omega))] at hc
          cases hc
        | p h =>
          have hc:=h.1
          unfold callable at hc
          rw [Array.getElem?_eq_none (Nat.le_trans hsz (by omega))] at hc
          cases hc
        | c h =>
          have hc:=h.1
          unfold callable at hc
          rw [Array.getElem?_eq_none (Nat.le_trans hsz (by omega))] at hc
          cases hc
        | w h =>
          have hc:=h.1
          unfold callable at hc
          rw [Array.getElem?_eq_none (Nat.le_trans hsz (by omega))] at hc
          cases hc
        | @g f2 bits2 ys res h =>
          rcases Nat.lt_or_ge f2 1000000 with hf2 | hf2
          · have e1 : f = f2:=by omega
            have e2 : bits = bits2:=by omega
            rw [e1,e2];exact h
          · have hc:=h.1
            unfold callable at hc
            rw [Array.getElem?_eq_none (Nat.le_trans hsz (by omega))] at hc
            cases hc
      have hb:=y3.bind (out:=flatR res) hlen
      obtain ⟨σ',p1,p2,p3⟩:=sResL_ok (X:=false) (m:=S1.m) w3 (vars_rd' y3.m rfl) hb
      exact ⟨_,σ',_,st_callG ho hd hm y2,p2.put (resSV_ok p3),w4⟩
    · cases h
  · cases h
def sCallX (P : Program) (ow : OwK) (S : Sy) (d : Option Nat) (f : FuncId) (args : List Operand) (ts : List TypeId) : Option (List Nd × Sy) :=
  if ow.pf.contains f then sCallP P ow S d f args ts else if ow.cf.contains f then sCallC P ow S d f args ts else match alook ow.nf f with
  | some t=>sCallN P ow S d f t args ts
  | none=>match alook ow.gf f with
    | some b=>sCallG P ow S d f b args ts
    | none=>sCall P ow S d f args ts
theorem goes_callX {ow : OwK} {f : FuncId} {args : Array Operand} {ts : Array TypeId} (ho : o.op = .call ⟨.value (.func f),args,ts⟩) (h : sCallX P ow S o.dst f args.toList ts.toList = some (nds,S')) (hd : dB N o.dst = true) (hr : Rel S ρ σ s) (hw : WN P nds K ρ) : Goes P N o s S' K:=by
  unfold sCallX at h
  split at h
  · exact goes_callP ho h hd hr hw
  · split at h
    · exact goes_callC ho h hd hr hw
    · split at h
      · exact goes_callN (ow:=ow) ho h hd hr hw
      · split at h
        · exact goes_callG ho h hd hr hw
        · exact goes_call ho h hd hr hw
def sMk : List SC→List (Option (Nat × Nat))→Sy→Option (List PO × List (Nat × Nat) × List (Option (Nat × Nat)) × Sy)
  | [],_,S=>some ([],[],[],S)
  | .d i :: cs,ty,S=>(match sMk cs ty.tail S with | some (p,xs,os,S')=>some (.sc i :: p,(i,0) :: xs,none :: os,S') | none=>none)
  | .nil :: cs,ty,S=>(match ty.headD none with
    | some (t,k)=>if 0 < k then (match sMk cs ty.tail (S.bind 1) with | some (p,xs,os,S')=>some (PO.e t k :: p,(S.m,1) :: xs,none :: os,S') | none=>none) else none
    | none=>none)
  | .own i st :: cs,ty,S=>(match S.own i st with
    | some (.dx _ x)=>(match sMk cs ty.tail S with | some (p,xs,os,S')=>some (p,(x,2) :: xs,some (i,st) :: os,S') | none=>none)
    | _=>none)
  | _ :: _,_,_=>none
def sSetDx : List (Option (Nat × Nat))→Nat→Sy→Sy
  | [],_,S=>S
  | none :: r,m,S=>sSetDx r (m + 1) S
  | some (i,st) :: r,m,S=>sSetDx r (m + 1) { S with ob:=(i,.dx st m) :: S.ob }
def osIds (os : List (Option (Nat × Nat))) : List Nat:=os.filterMap fun x=>x.map (·.1)
def sMark (P : Program) (S : Sy) (d : Option Nat) (f : FuncId) (X Y : Operand) (ts : List TypeId) : Option (List Nd × Sy) :=
  match sev S X with
  | some (p,.p b cs,S1)=>(match sev S1 Y with
    | some (q,.p false [.d k],S2)=>(match sMk cs (tcl P 9 (ts.headD 0)) S2 with
      | some (r,xs,os,S3)=>if decide (osIds os).Nodup then some ((p ++ (q ++ r)).map .po ++ [.mark f b xs k],(sSetDx os S3.m (S3.bind (xs.length + 1))).put d (.p false [.d (S3.m + xs.length)])) else none
      | none=>none)
    | _=>none)
  | _=>none
theorem sMk_ok : ∀ {cs : List SC} {ty : List (Option (Nat × Nat))} {S S' : Sy} {ps : List PO} {xs : List (Nat × Nat)} {os : List (Option (Nat × Nat))} {ρ ρ' : List DV} {ys : List AC},sMk cs ty S = some (ps,xs,os,S')→evalPs ps ρ = some ρ'→Rel S ρ σ s→RCs ρ σ cs ys →
    Rel S' ρ' σ s∧os.length = xs.length∧∀ ρ2 ds ds',Pre ρ' ρ2→gL ρ2 (xs.map (·.1)) = some ds→mkEq xs ds ds' →
      ∃ L,MkL s ys ds ds' L∧L.map (·.1) = osIds os∧ds'.length = xs.length∧∀ (ρ3 : List DV) (m : Nat) (S3 : Sy) (s3 : AS),RD ρ3 (vars m ds'.length) ds'→(∀ (i st : Nat) o,s.own? i st = some o→i < s3.n)→Rel S3 ρ3 σ s3→Rel (sSetDx os m S3) ρ3 σ (markS s3 L)
  | [],ty,S,S',ps,xs,os,ρ,ρ',ys,h,he,hr,hc=>by
    simp only [sMk] at h
    injection h with h;injection h with e1 h;injection h with e2 h;injection h with e3 e4;subst e1 e2 e3 e4
    simp only [evalPs] at he;injection he with he;subst he
    cases ys with
    | cons=>exact hc.elim
    | nil =>
      refine ⟨hr,rfl,fun ρ2 ds ds' hp hg hm=>?_⟩
      simp only [List.map_nil,gL] at hg;injection hg with hg;subst hg
      cases ds' with
      | cons=>exact hm.elim
      | nil=>exact ⟨[],trivial,rfl,rfl,fun _ _ _ _ _ _ h=>h⟩
  | c :: cs,ty,S,S',ps,xs,os,ρ,ρ',[],h,he,hr,hc=>hc.elim
  | .d i :: cs,ty,S,S',ps,xs,os,ρ,ρ',y :: ys,h,he,hr,hc=>by
    simp only [sMk] at h
    split at h
    · rename_i p xs' os' S1 hg
      injection h with h;injection h with e1 h;injection h with e2 h;injection h with e3 e4;subst e1 e2 e3 e4
      obtain ⟨x,rfl,hx⟩:=rc_d hc.1
      simp only [evalPs,evalP,hx] at he
      split at he
      · rename_i out ho
        split at ho
        · rename_i hsc
          injection ho with ho;subst ho
          rw [List.append_nil] at he
          obtain ⟨u,rfl⟩:=isScD_ok hsc
          obtain ⟨g1,g2,g3⟩:=sMk_ok hg he hr hc.2
          refine ⟨g1,by simp [g2],fun ρ2 ds ds' hp hgL hm=>?_⟩
          simp only [List.map_cons,gL,hp.get ((evalPs_pre he).get hx)] at hgL
          split at hgL
          · rename_i a b ha hb
            injection ha with ha;subst ha
            injection hgL with hgL;subst hgL
            cases ds' with
            | nil=>exact hm.elim
            | cons d' ds' =>
              obtain ⟨⟨v,e1,e2⟩,hm⟩:=hm
              injection e1 with e1;subst e1 e2
              obtain ⟨L,l1,l2,l3,l4⟩:=g3 ρ2 _ ds' hp hb hm
              refine ⟨L,⟨⟨u,rfl,rfl,rfl⟩,l1⟩,by simpa [osIds] using l2,by simp [l3],fun ρ3 m S3 s3 hrd hown hr3=>?_⟩
              exact l4 ρ3 (m + 1) S3 s3 hrd.2 hown hr3
          · cases hgL
        · cases ho
      · cases he
    · cases h
  | .nil :: cs,ty,S,S',ps,xs,os,ρ,ρ',y :: ys,h,he,hr,hc=>by
    simp only [sMk] at h
    cases y <;> first | exact hc.1.elim | skip
    split at h
    · rename_i t k ht
      split at h
      · rename_i hk
        split at h
        · rename_i p xs' os' S1 hg
          injection h with h;injection h with e1 h;injection h with e2 h;injection h with e3 e4;subst e1 e2 e3 e4
          simp only [evalPs,evalP] at he
          obtain ⟨g1,g2,g3⟩:=sMk_ok hg he (hr.bind rfl) (RCs.mono (Pre.app _ _) (Pre.refl _) hc.2)
          refine ⟨g1,by simp [g2],fun ρ2 ds ds' hp hgL hm=>?_⟩
          have hget : ρ2[S.m]? = some (.sl t k []):=hp.get ((evalPs_pre he).get (by rw [← hr.m];simp))
          simp only [List.map_cons,gL,hget] at hgL
          split at hgL
          · rename_i a b ha hb
            injection ha with ha;subst ha
            injection hgL with hgL;subst hgL
            cases ds' with
            | nil=>exact hm.elim
            | cons d' ds' =>
              obtain ⟨⟨t',k',hk',e1,e2⟩,hm⟩:=hm
              injection e1 with e1 e3;subst e1 e3 e2
              obtain ⟨L,l1,l2,l3,l4⟩:=g3 ρ2 _ ds' hp hb hm
              refine ⟨L,⟨⟨t,k,hk,rfl,rfl⟩,l1⟩,by simpa [osIds] using l2,by simp [l3],fun ρ3 m S3 s3 hrd hown hr3=>?_⟩
              exact l4 ρ3 (m + 1) S3 s3 hrd.2 hown hr3
          · cases hgL
        · cases h
      · cases h
    · cases h
  | .own i st :: cs,ty,S,S',ps,xs,os,ρ,ρ',y :: ys,h,he,hr,hc=>by
    simp only [sMk] at h
    cases y <;> first | exact hc.1.elim | skip
    rename_i i' st'
    obtain ⟨⟨rfl,hst⟩,hc2⟩:=hc
    split at h
    · rename_i a x ho
      split at h
      · rename_i p xs' os' S1 hg
        injection h with h;injection h with e1 h;injection h with e2 h;injection h with e3 e4;subst e1 e2 e3 e4
        obtain ⟨o',k1,k2,k3,k4⟩:=hr.own ho hst
        cases o' <;> first | exact k2.elim | skip
        rename_i b yy
        obtain ⟨k5,hx⟩:=k2
        obtain rfl:=own_stV k1 rfl
        obtain ⟨g1,g2,g3⟩:=sMk_ok hg he hr hc2
        refine ⟨g1,by simp [g2],fun ρ2 ds ds' hp hgL hm=>?_⟩
        simp only [List.map_cons,gL,hp.get ((evalPs_pre he).get hx)] at hgL
        split at hgL
        · rename_i a1 b1 ha hb
          injection ha with ha;subst ha
          injection hgL with hgL;subst hgL
          cases ds' with
          | nil=>exact hm.elim
          | cons d' ds' =>
            obtain ⟨L,l1,l2,l3,l4⟩:=g3 ρ2 _ ds' hp hb hm
            refine ⟨(i',b,d') :: L,⟨k1,rfl,l1⟩,by simpa [osIds] using l2,by simp [l3],fun ρ3 m S3 s3 hrd hown hr3=>?_⟩
            simp only [sSetDx,markS]
            refine l4 ρ3 (m + 1) _ _ hrd.2 hown ?_
            have hlt : i' < s3.n:=hown i' b _ k1
            refine hr3.upd (s':={ s3 with ob:=upd s3.ob i' (.dx b d') }) (i:=i') (n':=S3.n) (c':=S3.c) (so:=.dx st m) (Pre.refl _) hr3.c hr3.n (Nat.le_refl _) (by rw [← hr3.n];exact hlt) rfl (fun j hj=>upd_ne _ _ hj) ?_
            simp only [upd_same]
            exact ⟨hst,hrd.1⟩
        · cases hgL
      · cases h
    · cases h
  | .ptr _ _ _ :: cs,ty,S,S',ps,xs,os,ρ,ρ',y :: ys,h,he,hr,hc=>by simp [sMk] at h
  | .elt _ _ _ _ _ :: cs,ty,S,S',ps,xs,os,ρ,ρ',y :: ys,h,he,hr,hc=>by simp [sMk] at h
  | .sub _ _ _ _ _ :: cs,ty,S,S',ps,xs,os,ρ,ρ',y :: ys,h,he,hr,hc=>by simp [sMk] at h
  | .emp :: cs,ty,S,S',ps,xs,os,ρ,ρ',y :: ys,h,he,hr,hc=>by simp [sMk] at h
  | .rd _ :: cs,ty,S,S',ps,xs,os,ρ,ρ',y :: ys,h,he,hr,hc=>by simp [sMk] at h
theorem goes_mark {f : FuncId} {X Y : Operand} {ts : Array TypeId} (ho : o.op = .call ⟨.value (.func f),#[X,Y],ts⟩) (h : sMark P S o.dst f X Y ts.toList = some (nds,S')) (hd : dB N o.dst = true) (hr : Rel S ρ σ s) (hw : WN P nds K ρ) : Goes P N o s S' K:=by
  unfold sMark at h
  split at h
  · rename_i p b cs S1 hX
    split at h
    · rename_i q k S2 hY
      split at h
      · rename_i r xs os S3 hm
        split at h
        · rename_i hnd
          have hnd:=of_decide_eq_true hnd
          injection h with h;injection h with e1 e2;subst e1 e2
          obtain ⟨ρ1,he,hw2⟩:=wn_po (wn_app hw)
          simp only [WN] at hw2
          obtain ⟨ds,ds',n,n',w1,w2,w3,w4,w5⟩:=hw2
          obtain ⟨ρa,a1,a2⟩:=evalPs_app he
          obtain ⟨ρb,b1,b2⟩:=evalPs_app a2
          obtain ⟨x1,x2⟩:=sev_ok hX a1 hr
          obtain ⟨y1,y2⟩:=sev_ok hY b1 x2
          cases hx : s.ev X with
          | p b' ys =>
            rw [hx] at x1
            obtain ⟨rfl,hc⟩:=x1
            obtain ⟨g1,g2,g3⟩:=sMk_ok hm b2 y2 (RCs.mono (evalPs_pre b1) (Pre.refl _) hc)
            obtain ⟨L,l1,l2,l3,l4⟩:=g3 ρ1 ds ds' (Pre.refl _) w1 w4
            obtain ⟨z,z1,z2⟩:=dat_rv (i:=k) rfl y1
            have z2':=(evalPs_pre b2).get z2
            rw [w2] at z2';injection z2' with z2';subst z2'
            have hst : AStep P N o (fun s'=>s' = (markS s L).put o.dst (.p false [.d (.sc (.int .i64 n'))])) s:=astep_mark ho hd w3 hx z1 l1 (by rw [l2];exact hnd) rfl
            obtain ⟨s1,hs1,rfl⟩:=hst
            have hb:=g1.bind (out:=ds' ++ [.sc (.int .i64 n')]) (k:=xs.length + 1) (by simp [l3])
            have hv : RD (ρ1 ++ (ds' ++ [.sc (.int .i64 n')])) (vars S3.m (ds' ++ [DV.sc (.int .i64 n')]).length) (ds' ++ [.sc (.int .i64 n')]):=vars_rd' g1.m rfl
            obtain ⟨v1,v2⟩:=rd_split hv
            have h5:=l4 _ S3.m _ s v1 (fun i st o ho=>(own?_some ho).1) hb
            refine ⟨_,σ,_,hs1,h5.put ⟨rfl,?_,trivial⟩,w5⟩
            have:=v2.1
            rw [l3] at this;exact this
          | tup=>rw [hx] at x1;exact x1.elim
          | und=>rw [hx] at x1;exact x1.elim
        · cases h
      · cases h
    · cases h
  · cases h
def sOp (P : Program) (ow : OwK) (S : Sy) (o : Oper) : Option (List Nd × Sy) :=
  match o.op with
  | .assign (.const (.pointer none))=>some ([],S.del o.dst)
  | .alloc t=>sAlloc P S o.dst t
  | .box t x=>sBox S o.dst t x
  | .build t parts=>(match sBuild P S t parts.toList with | some (ps,cs,S')=>some (ps.map .po,S'.put o.dst (.p true cs)) | none=>none)
  | .buildSlice t len parts=>sLit P S o.dst t len parts.toList
  | .store t x y=>(match o.dst with | none=>sStore P S t x y | some _=>none)
  | .makeSlice t x y=>sMake P S o.dst t x y
  | .call ⟨.builtin .append,⟨[X,Y]⟩,⟨[t,t']⟩⟩=>if t' = t then sApp P S o.dst X Y t else none
  | .call ⟨.builtin .copy,⟨[X,Y]⟩,⟨[t,t']⟩⟩=>if t' = t then sCopy P S o.dst X Y t else none
  | .call ⟨.value (.func f),⟨[X,Y]⟩,ts⟩=>if ow.mks.contains f then sMark P S o.dst f X Y ts.toList else sCallX P ow S o.dst f [X,Y] ts.toList
  | .call ⟨.value (.func f),args,ts⟩=>sCallX P ow S o.dst f args.toList ts.toList
  | op=>(match sHV P S op with | some (ps,v,S')=>some (ps.map .po,S'.put o.dst v) | none=>none)
theorem sOp_ok {ow : OwK} (h : sOp P ow S o = some (nds,S')) (hd : dB N o.dst = true) (hr : Rel S ρ σ s) (hw : WN P nds K ρ) : Goes P N o s S' K:=by
  unfold sOp at h
  split at h
  · rename_i ho
    injection h with h;injection h with e1 e2;subst e1 e2
    exact ⟨ρ,σ,_,(hV_ok (x:=s.ev (.const (.pointer none))) (by rw [ho];rfl)).toO (dB_ok hd),hr.del,hw⟩
  · rename_i t ho;exact goes_alloc ho h hd hr hw
  · rename_i t x ho;exact goes_box ho h hd hr hw
  · rename_i t parts ho
    split at h
    · rename_i ps cs S1 hb
      injection h with h;injection h with e1 e2;subst e1 e2
      exact goes_build ho hb hd hr hw
    · cases h
  · rename_i t len parts ho;exact goes_lit ho h hd hr hw
  · rename_i t x y ho
    split at h
    · rename_i hdn;exact goes_store ho hdn h hr hw
    · cases h
  · rename_i t x y ho;exact goes_make ho h hd hr hw
  · rename_i X Y t t' ho
    split at h
    · rename_i e;subst e;exact goes_app ho h hd hr hw
    · cases h
  · rename_i X Y t t' ho
    split at h
    · rename_i e;subst e;exact goes_copy ho h hd hr hw
    · cases h
  · rename_i f X Y ts ho
    split at h
    · exact goes_mark ho h hd hr hw
    · exact goes_callX ho h hd hr hw
  · rename_i f args ts _ ho
    exact goes_callX ho h hd hr hw
  · rename_i op _ _ _ _ _ _ _ _ _ _
    split at h
    · rename_i ps v S1 hb
      injection h with h;injection h with e1 e2;subst e1 e2
      exact goes_pure hb hd hr hw
    · cases h
end
end Go.Proofs.Ytboheedjhnbnhaa
namespace Go.Proofs.Ytboheedjhnbnhaa
open Go.RowKit
inductive Pg where
  | nd (n : Nd) (k : Pg)
  | ite (x : Nat) (a b : Pg)
  | jump (l : Nat) (xs : List Nat)
  | join (n : Nat) (rest k : Pg)
  | loop (xs : List Nat) (body : Pg)
  | ret (xs : List (Bool × List Nat))
abbrev Lbl:=List (List DV→Prop)
def W (P : Program) (R : List (Bool × List DV)→Prop) : Pg→Lbl→List DV→Prop
  | .nd (.po o) k,L,ρ=>(match evalP ρ o with | some out=>W P R k L (ρ ++ out) | none=>False)
  | .nd (.mark f b xs j) k,L,ρ=>∃ ds ds' n n',gL ρ (xs.map (·.1)) = some ds∧ρ[j]? = some (.sc (.int .i64 n))∧Marks P f b ds n ds' n'∧mkEq xs ds ds'∧W P R k L (ρ ++ (ds' ++ [.sc (.int .i64 n')]))
  | .nd (.call f a sh) k,L,ρ=>∃ ys res,gArgs ρ a = some ys∧MeetsX P f ys res∧shOk sh res = true∧W P R k L (ρ ++ flatR res)
  | .ite x a b,L,ρ=>(match ρ[x]? with | some (.sc (.bool c))=>(match c with | true=>W P R a L ρ | false=>W P R b L ρ) | _=>False)
  | .jump l xs,L,ρ=>∃ J vs,L[l]? = some J∧gL ρ xs = some vs∧J vs
  | .join n rest k,L,ρ=>∃ J : List DV→Prop,(∀ vs,vs.length = n→J vs→W P R rest L (ρ ++ vs))∧W P R k (L ++ [J]) ρ
  | .loop xs body,L,ρ=>∃ (I : List DV→Nat→Prop) (m : Nat) (vs : List DV),gL ρ xs = some vs∧I vs m∧∀ vs m,vs.length = xs.length→I vs m→W P R body (L ++ [fun vs'=>∃ m',m' < m∧I vs' m']) (ρ ++ vs)
  | .ret xs,L,ρ=>∃ vs,gArgs ρ xs = some vs∧R vs
def nds : List Nd→Pg→Pg
  | [],k=>k
  | n :: r,k=>.nd n (nds r k)
theorem w_nds {P : Program} {R : List (Bool × List DV)→Prop} {k : Pg} {L : Lbl} : ∀ {l : List Nd} {ρ : List DV},W P R (nds l k) L ρ→WN P l (fun ρ'=>W P R k L ρ'∧Pre ρ ρ') ρ:=by
  have key : ∀ {l : List Nd} {ρ ρ0 : List DV},Pre ρ0 ρ→W P R (nds l k) L ρ→WN P l (fun ρ'=>W P R k L ρ'∧Pre ρ0 ρ') ρ:=by
    intro l
    induction l with
    | nil=>intro ρ ρ0 hp h;exact ⟨h,hp⟩
    | cons n r ih =>
      intro ρ ρ0 hp h
      cases n with
      | po o =>
        simp only [nds,W,WN] at h ⊢
        split
        · rename_i out ho;rw [ho] at h;exact ih (hp.trans (Pre.app _ _)) h
        · rename_i ho;rw [ho] at h;exact h
      | call f a sh =>
        simp only [nds,W,WN] at h ⊢
        obtain ⟨ys,res,h1,h2,h3,h4⟩:=h
        exact ⟨ys,res,h1,h2,h3,ih (hp.trans (Pre.app _ _)) h4⟩
      | mark f b xs j =>
        simp only [nds,W,WN] at h ⊢
        obtain ⟨ds,ds',n,n',h1,h2,h3,h4,h5⟩:=h
        exact ⟨ds,ds',n,n',h1,h2,h3,h4,ih (hp.trans (Pre.app _ _)) h5⟩
  intro l ρ h;exact key (Pre.refl _) h
section
variable (base : Nat) (π ψ φ : List Nat)
def mD (p i : Nat) : Bool:=if p < base then decide (p = i) else decide (π[p - base]? = some i)
def mDs : List Nat→List Nat→Bool
  | [],[]=>true
  | p :: ps,i :: is=>mD base π p i && mDs ps is
  | _,_=>false
def mC : SC→SC→Bool
  | .d p,.d i=>mD base π p i
  | .nil,.nil=>true
  | .own i st,.own i' st'=>decide (φ[i]? = some i'∧ψ[st]? = some st')
  | .ptr i st off,.ptr i' st' off'=>decide (φ[i]? = some i'∧ψ[st]? = some st'∧off' = off)
  | .elt i st k j off,.elt i' st' k' j' off'=>decide (φ[i]? = some i'∧ψ[st]? = some st'∧k' = k∧off' = off) && mD base π j j'
  | .sub i st k z m,.sub i' st' k' z' m'=>decide (φ[i]? = some i'∧ψ[st]? = some st'∧k' = k) && (mD base π z z' && mD base π m m')
  | .emp,.emp=>true
  | .rd ps,.rd is=>mDs base π ps is
  | _,_=>false
def mCs : List SC→List SC→Bool
  | [],[]=>true
  | x :: xs,y :: ys=>mC base π ψ φ x y && mCs xs ys
  | _,_=>false
def mT : List (Bool × List SC)→List (Bool × List SC)→Bool
  | [],[]=>true
  | x :: xs,y :: ys=>decide (x.1 = y.1) && (mCs base π ψ φ x.2 y.2 && mT xs ys)
  | _,_=>false
def mV : SV→SV→Bool
  | .p b cs,.p b' cs'=>decide (b = b') && mCs base π ψ φ cs cs'
  | .tup xs,.tup ys=>mT base π ψ φ xs ys
  | _,_=>false
def mH : Option (Nat × Nat × Nat × Nat)→Option (Nat × Nat × Nat × Nat)→Bool
  | none,none=>true
  | some (j,off,n,sn),some (j',off',n',sn')=>decide (φ[n]? = some n'∧ψ[sn]? = some sn'∧off = off') && mD base π j j'
  | _,_=>false
def mO : SO→SO→Bool
  | .var st t cs,.var st' t' cs'=>decide (ψ[st]? = some st'∧t = t') && mCs base π ψ φ cs cs'
  | .row st t k x,.row st' t' k' x'=>decide (ψ[st]? = some st'∧t = t'∧k = k') && mD base π x x'
  | .frz st x,.frz st' x'=>decide (ψ[st]? = some st') && mD base π x x'
  | .dx st x,.dx st' x'=>decide (ψ[st]? = some st') && mD base π x x'
  | .cur st id t z,.cur st' id' t' z'=>decide (ψ[st]? = some st'∧id = id'∧t = t') && mD base π z z'
  | .opn st k x q,.opn st' k' x' q'=>decide (ψ[st]? = some st'∧k = k') && (mD base π x x' && mH base π ψ φ q q')
  | _,_=>false
def mAll (H S : Sy) : Bool :=
  (H.sl.all fun p=>match alook S.sl p.1 with | some v=>mV base π ψ φ p.2 v | none=>false) &&
  ((H.ob.all fun p=>decide (p.1 < H.n) && (match p.2 with | .dead=>true | o=>match φ[p.1]? with | some i=>(match alook S.ob i with | some o'=>mO base π ψ φ o o' | none=>false) | none=>false)) &&
  ((H.kn.all fun p=>decide (p.1 < base∧alook S.kn p.1 = some p.2)) &&
  (decide (φ.length = H.n∧φ.Nodup∧ψ.length = H.c∧H.m = base + π.length) && φ.all fun i=>decide (i < S.n))))
end
section
variable {base : Nat} {π ψ φ : List Nat} {ρ ρ' vs : List DV} {σ : List Nat} {H S : Sy} {s : AS}
def fφ (φ : List Nat) (i : Nat) : Nat:=(φ[i]?).getD 0
def sψ (ψ σ : List Nat) : List Nat:=ψ.map fun st=>(σ[st]?).getD 0
theorem sψ_get {st st' x : Nat} (h : ψ[st]? = some st') (hx : σ[st']? = some x) : (sψ ψ σ)[st]? = some x:=by
  unfold sψ;rw [List.getElem?_map,h];simp [hx]
theorem fφ_get {i i' : Nat} (h : φ[i]? = some i') : fφ φ i = i':=by unfold fφ;rw [h];rfl
structure Mtch (base : Nat) (π : List Nat) (ρ ρ' vs : List DV) : Prop where
  len : ρ.length = base
  pre : Pre ρ ρ'
  vs : RD ρ' π vs
theorem RD.at : ∀ {xs : List Nat} {ds : List DV} {i j : Nat},RD ρ xs ds→xs[i]? = some j→∃ x,ds[i]? = some x∧ρ[j]? = some x
  | x :: xs,d :: ds,0,j,h,hi=>by simp at hi;subst hi;exact ⟨d,rfl,h.1⟩
  | x :: xs,d :: ds,i + 1,j,h,hi=>by obtain ⟨y,h1,h2⟩:=RD.at (i:=i) h.2 (by simpa using hi);exact ⟨y,by simpa using h1,h2⟩
  | [],[],i,j,h,hi=>by simp at hi
  | [],_ :: _,_,_,h,_=>h.elim
  | _ :: _,[],_,_,h,_=>h.elim
theorem mD_ok (M : Mtch base π ρ ρ' vs) {p i : Nat} {x : DV} (h : mD base π p i = true) (hx : ρ'[i]? = some x) : (ρ ++ vs)[p]? = some x:=by
  unfold mD at h
  split at h
  · rename_i hp
    obtain rfl:=of_decide_eq_true h
    obtain ⟨e,rfl⟩:=M.pre
    rw [List.getElem?_append_left (by rw [M.len];exact hp)] at hx ⊢
    exact hx
  · rename_i hp
    obtain ⟨y,y1,y2⟩:=M.vs.at (of_decide_eq_true h)
    rw [hx] at y2;injection y2 with y2;subst y2
    rw [List.getElem?_append_right (by rw [M.len];omega),M.len];exact y1
theorem mDs_ok (M : Mtch base π ρ ρ' vs) : ∀ {ps is : List Nat} {xs : List DV},mDs base π ps is = true→RD ρ' is xs→RD (ρ ++ vs) ps xs
  | [],[],[],_,_=>trivial
  | p :: ps,i :: is,x :: xs,h,hx=>by
    simp only [mDs,Bool.and_eq_true] at h
    exact ⟨mD_ok M h.1 hx.1,mDs_ok M h.2 hx.2⟩
  | [],[],_ :: _,_,hx=>hx.elim
  | _ :: _,_ :: _,[],_,hx=>hx.elim
  | [],_ :: _,_,h,_=>by simp [mDs] at h
  | _ :: _,[],_,h,_=>by simp [mDs] at h
theorem mC_ok (M : Mtch base π ρ ρ' vs) {c c' : SC} {y : AC} (h : mC base π ψ φ c c' = true) (hy : RC ρ' σ c' y) : ∃ z,RC (ρ ++ vs) (sψ ψ σ) c z∧renC (fφ φ) z = y:=by
  cases c <;> cases c' <;> first | (simp [mC] at h;done) | skip
  · obtain ⟨x,rfl,hx⟩:=rc_d hy
    exact ⟨.d x,mD_ok M h hx,rfl⟩
  · cases y <;> first | exact hy.elim | exact ⟨.nil,trivial,rfl⟩
  · cases y <;> first | exact hy.elim | skip
    rename_i i st i' st' a b
    simp only [mC,decide_eq_true_eq] at h
    obtain ⟨rfl,h1⟩:=hy
    exact ⟨.own i b,⟨rfl,sψ_get h.2 h1⟩,by simp [renC,fφ_get h.1]⟩
  · cases y <;> first | exact hy.elim | skip
    rename_i i st off i' st' off' a b d
    simp only [mC,decide_eq_true_eq] at h
    obtain ⟨rfl,h1,rfl⟩:=hy
    obtain ⟨g1,g2,rfl⟩:=h
    exact ⟨.ptr i b d,⟨rfl,sψ_get g2 h1,rfl⟩,by simp [renC,fφ_get g1]⟩
  · cases y <;> first | exact hy.elim | skip
    rename_i i st k j off i' st' k' j' off' a b kk jj d
    simp only [mC,Bool.and_eq_true,decide_eq_true_eq] at h
    obtain ⟨rfl,h1,rfl,⟨kd,z,z1,z2,rfl⟩,rfl⟩:=hy
    obtain ⟨⟨g1,g2,rfl,rfl⟩,g3⟩:=h
    exact ⟨.elt i b kk z.toNat d,⟨rfl,sψ_get g2 h1,rfl,⟨kd,z,mD_ok M g3 z1,z2,rfl⟩,rfl⟩,by simp [renC,fφ_get g1]⟩
  · cases y <;> first | exact hy.elim | skip
    exact ⟨.rd _,mDs_ok M h hy,rfl⟩
  · cases y <;> first | exact hy.elim | skip
    rename_i i st k z m i' st' k' z' m' a b kk lo n
    simp only [mC,Bool.and_eq_true,decide_eq_true_eq] at h
    obtain ⟨rfl,h1,rfl,⟨u,u1,u2,rfl⟩,⟨v,v1,v2,rfl⟩⟩:=hy
    obtain ⟨⟨g1,g2,rfl⟩,g3,g4⟩:=h
    exact ⟨.sub i b kk u.toNat v.toNat,⟨rfl,sψ_get g2 h1,rfl,⟨u,mD_ok M g3 u1,u2,rfl⟩,⟨v,mD_ok M g4 v1,v2,rfl⟩⟩,by simp [renC,fφ_get g1]⟩
  · cases y <;> first | exact hy.elim | exact ⟨.emp,trivial,rfl⟩
theorem mCs_ok (M : Mtch base π ρ ρ' vs) : ∀ {cs cs' : List SC} {ys : List AC},mCs base π ψ φ cs cs' = true→RCs ρ' σ cs' ys→∃ zs,RCs (ρ ++ vs) (sψ ψ σ) cs zs∧zs.map (renC (fφ φ)) = ys
  | [],[],[],_,_=>⟨[],trivial,rfl⟩
  | c :: cs,c' :: cs',y :: ys,h,hy=>by
    simp only [mCs,Bool.and_eq_true] at h
    obtain ⟨z,z1,z2⟩:=mC_ok M h.1 hy.1
    obtain ⟨zs,w1,w2⟩:=mCs_ok M h.2 hy.2
    exact ⟨z :: zs,⟨z1,w1⟩,by simp [z2,w2]⟩
  | [],[],_ :: _,_,hy=>hy.elim
  | _ :: _,_ :: _,[],_,hy=>hy.elim
  | [],_ :: _,_,h,_=>by simp [mCs] at h
  | _ :: _,[],_,h,_=>by simp [mCs] at h
theorem mT_ok (M : Mtch base π ρ ρ' vs) : ∀ {xs xs' : List (Bool × List SC)} {ys : List (Bool × List AC)},mT base π ψ φ xs xs' = true→RT ρ' σ xs' ys→∃ zs,RT (ρ ++ vs) (sψ ψ σ) xs zs∧(zs.map fun x=>(x.1,x.2.map (renC (fφ φ)))) = ys
  | [],[],[],_,_=>⟨[],trivial,rfl⟩
  | x :: xs,x' :: xs',y :: ys,h,hy=>by
    simp only [mT,Bool.and_eq_true,decide_eq_true_eq] at h
    obtain ⟨z,z1,z2⟩:=mCs_ok M h.2.1 hy.1.2
    obtain ⟨zs,w1,w2⟩:=mT_ok M h.2.2 hy.2
    refine ⟨(x.1,z) :: zs,⟨⟨rfl,z1⟩,w1⟩,?_⟩
    simp only [List.map_cons,z2,w2,h.1,← hy.1.1]
  | [],[],_ :: _,_,hy=>hy.elim
  | _ :: _,_ :: _,[],_,hy=>hy.elim
  | [],_ :: _,_,h,_=>by simp [mT] at h
  | _ :: _,[],_,h,_=>by simp [mT] at h
theorem mV_ok (M : Mtch base π ρ ρ' vs) {v v' : SV} {y : AV} (h : mV base π ψ φ v v' = true) (hy : RV ρ' σ v' y) : ∃ z,RV (ρ ++ vs) (sψ ψ σ) v z∧renV (fφ φ) z = y:=by
  cases v <;> cases v' <;> first | (simp [mV] at h;done) | skip
  · cases y <;> first | exact hy.elim | skip
    simp only [mV,Bool.and_eq_true,decide_eq_true_eq] at h
    obtain ⟨rfl,h1⟩:=hy
    obtain ⟨zs,z1,z2⟩:=mCs_ok M h.2 h1
    obtain ⟨rfl,-⟩:=h
    exact ⟨.p _ zs,⟨rfl,z1⟩,by simp [renV,z2]⟩
  · cases y <;> first | exact hy.elim | skip
    obtain ⟨zs,z1,z2⟩:=mT_ok M h hy
    exact ⟨.tup zs,z1,by simp only [renV];rw [z2]⟩
theorem mH_ok (M : Mtch base π ρ ρ' vs) {q q' y : Option (Nat × Nat × Nat × Nat)} (h : mH base π ψ φ q q' = true) (hy : RH ρ' σ q' y) : ∃ z,RH (ρ ++ vs) (sψ ψ σ) q z∧(z.map fun q=>(q.1,q.2.1,fφ φ q.2.2.1,q.2.2.2)) = y:=by
  cases q <;> cases q' <;> first | (simp [mH] at h;done) | skip
  · cases y <;> first | exact hy.elim | exact ⟨none,trivial,rfl⟩
  · cases y <;> first | exact hy.elim | skip
    rename_i q q' y
    obtain ⟨j,off,n,sn⟩:=q
    obtain ⟨j',off',n',sn'⟩:=q'
    obtain ⟨a,b,c,d⟩:=y
    simp only [mH,Bool.and_eq_true,decide_eq_true_eq] at h
    obtain ⟨⟨kd,z,z1,z2,rfl⟩,rfl,rfl,h3⟩:=hy
    obtain ⟨⟨g1,g2,rfl⟩,g3⟩:=h
    exact ⟨some (z.toNat,_,n,d),⟨⟨kd,z,mD_ok M g3 z1,z2,rfl⟩,rfl,rfl,sψ_get g2 h3⟩,by simp [fφ_get g1]⟩
theorem mO_ok (M : Mtch base π ρ ρ' vs) {o o' : SO} {y : Ob} (h : mO base π ψ φ o o' = true) (hy : RO ρ' σ o' y) : ∃ z,RO (ρ ++ vs) (sψ ψ σ) o z∧renO (fφ φ) z = y:=by
  cases o <;> cases o' <;> first | (simp [mO] at h;done) | skip
  · cases y <;> first | exact hy.elim | skip
    simp only [mO,Bool.and_eq_true,decide_eq_true_eq] at h
    obtain ⟨h1,rfl,h2⟩:=hy
    obtain ⟨⟨g1,rfl⟩,g2⟩:=h
    obtain ⟨zs,z1,z2⟩:=mCs_ok M g2 h2
    exact ⟨.var _ _ zs,⟨sψ_get g1 h1,rfl,z1⟩,by simp [renO,z2]⟩
  · cases y <;> first | exact hy.elim | skip
    simp only [mO,Bool.and_eq_true,decide_eq_true_eq] at h
    obtain ⟨h1,rfl,rfl,rfl,h2⟩:=hy
    obtain ⟨⟨g1,rfl,rfl⟩,g2⟩:=h
    exact ⟨.row _ _ _ _ true,⟨sψ_get g1 h1,rfl,rfl,rfl,mD_ok M g2 h2⟩,rfl⟩
  · cases y <;> first | exact hy.elim | skip
    simp only [mO,Bool.and_eq_true,decide_eq_true_eq] at h
    obtain ⟨h1,h2⟩:=hy
    exact ⟨.frz _ _,⟨sψ_get h.1 h1,mD_ok M h.2 h2⟩,rfl⟩
  · cases y <;> first | exact hy.elim | skip
    simp only [mO,Bool.and_eq_true,decide_eq_true_eq] at h
    obtain ⟨h1,h2⟩:=hy
    exact ⟨.dx _ _,⟨sψ_get h.1 h1,mD_ok M h.2 h2⟩,rfl⟩
  · cases y <;> first | exact hy.elim | skip
    simp only [mO,Bool.and_eq_true,decide_eq_true_eq] at h
    obtain ⟨h1,rfl,rfl,h2⟩:=hy
    obtain ⟨⟨g1,rfl,rfl⟩,g2⟩:=h
    exact ⟨.cur _ _ _ _ _,⟨sψ_get g1 h1,rfl,rfl,mD_ok M g2 h2⟩,rfl⟩
  · cases y <;> first | exact hy.elim | skip
    simp only [mO,Bool.and_eq_true,decide_eq_true_eq] at h
    obtain ⟨h1,rfl,h2,h3⟩:=hy
    obtain ⟨⟨g1,rfl⟩,g2,g3⟩:=h
    obtain ⟨z,z1,z2⟩:=mH_ok M g3 h3
    exact ⟨.opn _ _ _ _ z,⟨sψ_get g1 h1,rfl,mD_ok M g2 h2,z1⟩,by simp only [renO,z2]⟩
theorem alook_mem {α : Type} : ∀ {l : List (Nat × α)} {i : Nat} {x : α},alook l i = some x→(i,x) ∈ l
  | (j,y) :: r,i,x,h=>by
    simp only [alook] at h
    split at h
    · rename_i e;injection h with h;subst e h;exact List.mem_cons_self ..
    · exact List.mem_cons_of_mem _ (alook_mem h)
  | [],i,x,h=>by simp [alook] at h
theorem mAll_ok (h : mAll base π ψ φ H S = true) (hr : Rel S ρ' σ s) (M : Mtch base π ρ ρ' vs) : ∃ s',Re s s'∧Rel H (ρ ++ vs) (sψ ψ σ) s':=by
  simp only [mAll,Bool.and_eq_true,decide_eq_true_eq] at h
  obtain ⟨h1,h2,h3,⟨h4,h5,h6,h7⟩,h8⟩:=h
  have hsl : ∀ t,∃ y : AV,(∀ v,alook H.sl t = some v→RV (ρ ++ vs) (sψ ψ σ) v y∧renV (fφ φ) y = s.sl t)∧(alook H.sl t = none→y = .und):=by
    intro t
    cases ht : alook H.sl t with
    | none=>exact ⟨.und,by simp,fun _=>rfl⟩
    | some v =>
      have:=List.all_eq_true.1 h1 _ (alook_mem ht)
      simp only at this
      split at this
      · rename_i v' hv'
        obtain ⟨z,z1,z2⟩:=mV_ok M this (hr.sl t v' hv')
        exact ⟨z,fun w hw=>by injection hw with hw;subst hw;exact ⟨z1,z2⟩,by simp⟩
      · cases this
  have hob : ∀ i,∃ y : Ob,(∀ o,alook H.ob i = some o→i < H.n∧RO (ρ ++ vs) (sψ ψ σ) o y)∧(y = .dead ∨ renO (fφ φ) y = s.ob (fφ φ i)):=by
    intro i
    cases hi : alook H.ob i with
    | none=>exact ⟨.dead,by simp,.inl rfl⟩
    | some o =>
      have:=List.all_eq_true.1 h2 _ (alook_mem hi)
      simp only [Bool.and_eq_true,decide_eq_true_eq] at this
      obtain ⟨hlt,this⟩:=this
      split at this
      · exact ⟨.dead,fun w hw=>by injection hw with hw;subst hw;exact ⟨hlt,by simp_all [RO]⟩,.inl rfl⟩
      · split at this
        · rename_i i' hi'
          split at this
          · rename_i o' ho'
            obtain ⟨z,z1,z2⟩:=mO_ok M this (hr.ob i' o' ho').2
            exact ⟨z,fun w hw=>by injection hw with hw;subst hw;exact ⟨hlt,z1⟩,.inr (by rw [fφ_get hi'];exact z2)⟩
          · cases this
        · cases this
  obtain ⟨f,hf⟩:=Classical.axiomOfChoice hsl
  obtain ⟨g,hg⟩:=Classical.axiomOfChoice hob
  have hφ : ∀ i,i < H.n→∃ i',φ[i]? = some i':=fun i hi=>⟨_,List.getElem?_eq_getElem (by omega)⟩
  refine ⟨⟨f,g,H.n,s.c⟩,Re.reindex (φ:=fφ φ) ?_ ?_ (Nat.le_refl _) (fun i hi=>(hg i).2) (fun t=>?_),rfl,?_,?_,fun t v hv=>((hf t).1 v hv).1,fun i o ho=>(hg i).1 o ho,fun i b hb=>?_⟩
  · intro i hi
    obtain ⟨i',hi'⟩:=hφ i hi
    rw [fφ_get hi',hr.n]
    exact of_decide_eq_true (List.all_eq_true.1 h8 i' (List.mem_of_getElem? hi'))
  · intro i j hi hj e
    obtain ⟨i',hi'⟩:=hφ i hi
    obtain ⟨j',hj'⟩:=hφ j hj
    rw [fφ_get hi',fφ_get hj'] at e
    subst e
    exact (List.getElem?_inj (by rw [h4];exact hi) h5).1 (hi'.trans hj'.symm)
  · cases ht : alook H.sl t with
    | none=>exact .inl ((hf t).2 ht)
    | some v=>exact .inr ((hf t).1 v ht).2
  · simp [sψ,h6]
  · rw [h7,List.length_append,M.len,← M.vs.len]
  · have:=List.all_eq_true.1 h3 _ (alook_mem hb)
    simp only [decide_eq_true_eq] at this
    have hk:=hr.kn i b this.2
    obtain ⟨e,rfl⟩:=M.pre
    rw [List.getElem?_append_left (by rw [M.len];exact this.1)] at hk ⊢
    exact hk
end
end Go.Proofs.Ytboheedjhnbnhaa

