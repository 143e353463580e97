/- Proved: for every input the law 'FnTokens' returns true and its arguments read behind the call as before: part 3 of its proof. No condition. -/
import Derived.WalkKit
import Derived.Lib.Hide
import Derived.WalkSpells
import Derived.Laws.OwnMore
import Derived.Deep.AppendLies
import Derived.Deep.Draws
import Derived.Maps.AppendAt
import Derived.RegionTactic
import Derived.OwnWalk
import Derived.Below
import Derived.Laws.AppendOwnNone
import Derived.Deep.QuietTactic
import Derived.BigQuiet
import Derived.StillTailTactics
import Derived.Laws.Cells
import Derived.Laws.IdiomCopy
import Derived.ChangeKeysEq
import Derived.Laws.BytesArg
import Derived.Laws.StructEq
import Derived.Laws.Tables
import Derived.Great.BuildSlice
import Derived.StillTail
import Derived.OrdersHeld
import Derived.Test.YtkeoohonidpjeaaProg
import Derived.Test.YtkeoohonidpjeaaFnTokensQ2
set_option linter.unusedVariables false
set_option linter.unusedSimpArgs false
namespace Go.Proofs.Ytkeoohonidpjeaa
open Go.RowKit
structure Acc where
  φ : List (Nat × Nat)
  ψ : List (Nat × Nat)
  π : List (Nat × Nat)
def uD (p i : Nat) (a : Acc) : Acc:={ a with π:=(p,i) :: a.π }
def uDs : List Nat→List Nat→Acc→Acc
  | p :: ps,i :: is,a=>uDs ps is (uD p i a)
  | _,_,a=>a
def uI (i i' st st' : Nat) (a : Acc) : Acc:={ a with φ:=(i,i') :: a.φ,ψ:=(st,st') :: a.ψ }
def uC : SC→SC→Acc→Acc
  | .d p,.d i,a=>uD p i a
  | .own i st,.own i' st',a=>uI i i' st st' a
  | .ptr i st _,.ptr i' st' _,a=>uI i i' st st' a
  | .elt i st _ j _,.elt i' st' _ j' _,a=>uD j j' (uI i i' st st' a)
  | .rd ps,.rd is,a=>uDs ps is a
  | .sub i st _ z m,.sub i' st' _ z' m',a=>uD m m' (uD z z' (uI i i' st st' a))
  | _,_,a=>a
def uCs : List SC→List SC→Acc→Acc
  | x :: xs,y :: ys,a=>uCs xs ys (uC x y a)
  | _,_,a=>a
def uT : List (Bool × List SC)→List (Bool × List SC)→Acc→Acc
  | x :: xs,y :: ys,a=>uT xs ys (uCs x.2 y.2 a)
  | _,_,a=>a
def uV : SV→SV→Acc→Acc
  | .p _ cs,.p _ cs',a=>uCs cs cs' a
  | .tup xs,.tup ys,a=>uT xs ys a
  | _,_,a=>a
def uO : SO→SO→Acc→Acc
  | .var st _ cs,.var st' _ cs',a=>uCs cs cs' { a with ψ:=(st,st') :: a.ψ }
  | .row st _ _ x,.row st' _ _ x',a=>uD x x' { a with ψ:=(st,st') :: a.ψ }
  | .frz st x,.frz st' x',a=>uD x x' { a with ψ:=(st,st') :: a.ψ }
  | .dx st x,.dx st' x',a=>uD x x' { a with ψ:=(st,st') :: a.ψ }
  | .cur st _ _ x,.cur st' _ _ x',a=>uD x x' { a with ψ:=(st,st') :: a.ψ }
  | _,_,a=>a
def uSl (S : Sy) : List (Nat × SV)→Acc→Acc
  | [],a=>a
  | (t,v) :: r,a=>uSl S r (match alook S.sl t with | some v'=>uV v v' a | none=>a)
def uOb (S : Sy) : List (Nat × SO)→Acc→Acc
  | [],a=>a
  | (i,o) :: r,a=>uOb S r (match alook S.ob ((alook a.φ i).getD i) with | some o'=>uO o o' a | none=>a)
def guess (H S : Sy) : Acc:=uOb S H.ob (uOb S H.ob (uSl S H.sl ⟨[],[],[]⟩))
structure Hint where
  key : Nat
  np : Nat
  H : Sy
  nils : List Nl
def hint? : List Hint→Nat→Option Hint
  | [],_=>none
  | h :: r,k=>if h.key = k then some h else hint? r k
def fit (h : Hint) (base : Nat) (S : Sy) : Option (List PO × List Nat) :=
  let r:=sNil h.nils S
  let a:=guess h.H r.2
  let π:=(List.range h.np).map fun j=>(alook a.π (base + j)).getD 0
  let ψ:=(List.range h.H.c).map fun j=>(alook a.ψ j).getD 0
  let φ:=(List.range h.H.n).map fun j=>(alook a.φ j).getD j
  if mAll base π ψ φ h.H r.2 then some (r.1,π) else none
section
variable {P : Program} {R : List (Bool × List DV)→Prop} {N : Nat} {ow : OwK} {ρ ρ' : List DV} {σ σ' : List Nat} {S S' : Sy} {s s' : AS} {L : Lbl} {Q : Exit→AS→Prop}
theorem fit_ok {h : Hint} {base : Nat} {ps : List PO} {π : List Nat} (hf : fit h base S = some (ps,π)) (hl : ρ.length = base) (hp : Pre ρ ρ') (hr : Rel S ρ' σ s) {ρ2 vs : List DV} (he : evalPs ps ρ' = some ρ2) (hv : gL ρ2 π = some vs) :
    vs.length = h.np∧π.length = h.np∧∃ σ' s',Re s s'∧Rel h.H (ρ ++ vs) σ' s':=by
  unfold fit at hf
  simp only at hf
  split at hf
  · rename_i hm
    injection hf with hf;injection hf with e1 e2;subst e1
    obtain ⟨σ1,s1,r1,h1⟩:=sNil_ok he hr
    have hlen : π.length = h.np:=by rw [← e2];simp
    rw [e2] at hm
    obtain ⟨s2,r2,h2⟩:=mAll_ok hm h1 (M:=⟨hl,hp.trans (evalPs_pre he),gL_rd hv⟩)
    exact ⟨by rw [← (gL_rd hv).len,hlen],hlen,_,s2,r1.trans r2,h2⟩
  · cases hf
abbrev Kt:=Nat→Exit→Sy→Option Pg
def KOk (P : Program) (R : List (Bool × List DV)→Prop) (L : Lbl) (ρ : List DV) (Q : Exit→AS→Prop) (K : Kt) : Prop :=
  ∀ L' ρ',Pre L L'→Pre ρ ρ'→∀ e S pg,K L'.length e S = some pg→∀ σ s,Rel S ρ' σ s→W P R pg L' ρ'→Q e s
theorem KOk.mono {K : Kt} {L2 : Lbl} {ρ2 : List DV} (h : KOk P R L ρ Q K) (hL : Pre L L2) (hp : Pre ρ ρ2) : KOk P R L2 ρ2 Q K :=
  fun L' ρ' h1 h2=>h L' ρ' (hL.trans h1) (hp.trans h2)
theorem awp_monoR {c : Code} {Q' : Exit→AS→Prop} (h : AWp P N c Q' s) (hq : ∀ e s,Q' e s→∃ s',Re s s'∧Q e s') : AWp P N c Q s:=fun w0 a w E hr=>by
  refine Code.wp_mono (fun e a w he=>?_) (h w0 a w E hr)
  obtain ⟨s1,E1,h1,h2⟩:=he
  obtain ⟨s2,r2,h3⟩:=hq e s1 h1
  obtain ⟨E2,h4⟩:=r2 w0 N a w E1 h2
  exact ⟨s2,E2,h3,h4⟩
def toJ (h : Hint) (base l : Nat) (S : Sy) : Option Pg:=match fit h base S with | some (ps,π)=>some (nds (ps.map .po) (.jump l π)) | none=>none
theorem toJ_ok {h : Hint} {base l : Nat} {pg : Pg} (hf : toJ h base l S = some pg) (hl : ρ.length = base) (hp : Pre ρ ρ') (hr : Rel S ρ' σ s) (hw : W P R pg L ρ') :
    ∃ J vs σ' s',L[l]? = some J∧J vs∧vs.length = h.np∧Re s s'∧Rel h.H (ρ ++ vs) σ' s':=by
  unfold toJ at hf
  split at hf
  · rename_i ps π hfit
    injection hf with hf;subst hf
    obtain ⟨ρ2,he,hw2,-⟩:=wn_po (w_nds hw)
    simp only [W] at hw2
    obtain ⟨J,vs,j1,j2,j3⟩:=hw2
    obtain ⟨f1,f2,σ',s',f3,f4⟩:=fit_ok hfit hl hp hr he j2
    exact ⟨J,vs,σ',s',j1,j3,f1,f3,f4⟩
  · cases hf
def jK (h : Hint) (base l : Nat) (K : Kt) : Kt:=fun lv e S'=>match e with | .normal=>toJ h base l S' | e=>K lv e S'
def withJ (hs : List Hint) (key lv : Nat) (S : Sy) (K : Kt) (body : Nat→Kt→Option Pg) : Option Pg :=
  match hint? hs key with
  | none=>body lv K
  | some h=>if h.H.m = S.m + h.np then (match K lv .normal h.H,body (lv + 1) (jK h S.m lv K) with | some rest,some k=>some (.join h.np rest k) | _,_=>none) else none
def reQ (Q : Exit→AS→Prop) : Exit→AS→Prop
  | .normal,s=>∃ s',Re s s'∧Q .normal s'
  | e,s=>Q e s
theorem withJ_ok {hs : List Hint} {key lv : Nat} {K : Kt} {body : Nat→Kt→Option Pg} {c : Code} {pg : Pg} (h : withJ hs key lv S K body = some pg) (hl : lv = L.length) (hr : Rel S ρ σ s) (hk : KOk P R L ρ Q K) (hw : W P R pg L ρ)
    (hb : ∀ lv K' pg L' Q',body lv K' = some pg→lv = L'.length→KOk P R L' ρ Q' K'→W P R pg L' ρ→AWp P N c Q' s) : AWp P N c Q s:=by
  unfold withJ at h
  split at h
  · exact hb _ _ _ _ _ h hl hk hw
  · rename_i hh _
    split at h
    · rename_i hm
      split at h
      · rename_i rest k h1 h2
        injection h with h;subst h
        simp only [W] at hw
        obtain ⟨J,w1,w2⟩:=hw
        refine awp_monoR (Q':=reQ Q) (hb _ _ _ (L ++ [J]) (reQ Q) h2 (by simp [hl]) ?_ w2) ?_
        · intro L' ρ' hL hp e S' pg' hpg σ' s' hr' hw'
          unfold jK at hpg
          cases e with
          | normal =>
            obtain ⟨J',vs,σ2,s2,j1,j2,j3,j4,j5⟩:=toJ_ok hpg hr.m hp hr' hw'
            rw [hL.get (i:=lv) (x:=J) (by simp [hl])] at j1
            injection j1 with j1;subst j1
            exact ⟨s2,j4,hk L (ρ ++ vs) (Pre.refl _) (Pre.app _ _) _ _ _ (hl ▸ h1) _ _ j5 (w1 vs j3 j2)⟩
          | _=>exact hk L' ρ' ((Pre.app _ _).trans hL) hp _ _ _ hpg _ _ hr' hw'
        · intro e s1 h1
          cases e with
          | normal=>exact h1
          | _=>exact ⟨s1,Re.refl _,h1⟩
      · cases h
    · cases h
def run1 (P : Program) (ow : OwK) (o : Oper) (S : Sy) (k : Sy→Option Pg) : Option Pg:=match sOp P ow S o with | some (n,S')=>(match k S' with | some g=>some (nds n g) | none=>none) | none=>none
def genL (P : Program) (N : Nat) (ow : OwK) (ops : Array Oper) : List Oper→Nat→Sy→Kt→Option Pg
  | [],lv,S,K=>K lv .normal S
  | o :: r,lv,S,K=>if dB N o.dst then (match o.guard with
    | none=>run1 P ow o S fun S'=>genL P N ow ops r lv S' K
    | some (g,want)=>(match gslot ops g with
      | some t=>if t < N then (match alook S.sl t with
        | some (.tup [])=>genL P N ow ops r lv (S.put o.dst (.tup [])) K
        | some (.p false [.d i])=>(match alook S.kn i with
          | some b=>if b = want then run1 P ow o S fun S'=>genL P N ow ops r lv S' K else genL P N ow ops r lv (S.put o.dst (.tup [])) K
          | none=>(match (run1 P ow o { S with kn:=(i,want) :: S.kn } fun S'=>genL P N ow ops r lv S' K),genL P N ow ops r lv ({ S with kn:=(i,!want) :: S.kn }.put o.dst (.tup [])) K with
            | some a,some b=>some (if want then .ite i a b else .ite i b a)
            | _,_=>none))
        | _=>none) else none
      | none=>none)) else none
theorem run1_ok {o : Oper} {k : Sy→Option Pg} {pg : Pg} (h : run1 P ow o S k = some pg) (hd : dB N o.dst = true) (hr : Rel S ρ σ s) (hw : W P R pg L ρ) :
    ∃ ρ' σ' s' S' g,OStep P N o s s'∧Rel S' ρ' σ' s'∧k S' = some g∧W P R g L ρ'∧Pre ρ ρ':=by
  unfold run1 at h
  split at h
  · rename_i n S' ho
    split at h
    · rename_i g hg
      injection h with h;subst h
      obtain ⟨ρ',σ',s',h1,h2,h3,h4⟩:=sOp_ok ho hd hr (w_nds hw)
      exact ⟨ρ',σ',s',S',g,h1,h2,hg,h3,h4⟩
    · cases h
  · cases h
theorem slot_bool {i t : Nat} {b : Bool} (hr : Rel S ρ σ s) (ht : alook S.sl t = some (.p false [.d i])) (hb : ρ[i]? = some (.sc (.bool b))) : s.sl t = .p false [.d (.sc (.bool b))]:=by
  obtain ⟨y,y1,y2⟩:=dat_rv (v:=.p false [.d i]) rfl (hr.sl t _ ht)
  rw [hb] at y2;injection y2 with y2;subst y2;exact y1
theorem genL_ok {ops : Array Oper} {K : Kt} : ∀ {l : List Oper} {lv : Nat} {S : Sy} {pg : Pg} {ρ : List DV} {σ : List Nat} {s : AS},genL P N ow ops l lv S K = some pg→lv = L.length→Rel S ρ σ s→KOk P R L ρ Q K→W P R pg L ρ→AOps P N ops l Q s
  | [],lv,S,pg,ρ,σ,s,h,hl,hr,hk,hw=>aops_nil (hk L ρ (Pre.refl _) (Pre.refl _) _ _ _ (by rw [← hl];exact h) _ _ hr hw)
  | o :: r,lv,S,pg,ρ,σ,s,h,hl,hr,hk,hw=>by
    simp only [genL] at h
    split at h
    · rename_i hd
      split at h
      · rename_i hg
        obtain ⟨ρ',σ',s',S',g,r1,r2,r3,r4,r5⟩:=run1_ok h hd hr hw
        exact aops_cons hg r1 (genL_ok r3 hl r2 (hk.mono (Pre.refl _) r5) r4)
      · rename_i g want hg
        split at h
        · rename_i t hgs
          split at h
          · rename_i htN
            split at h
            · rename_i ht
              have hs : s.sl t = .tup []:=by
                have:=hr.sl t _ ht
                cases hx : s.sl t with
                | tup ys=>rw [hx] at this;cases ys with
                  | nil=>rfl
                  | cons=>exact this.elim
                | p=>rw [hx] at this;exact this.elim
                | und=>rw [hx] at this;exact this.elim
              exact aops_guard_skip2 hg hgs hs htN (dB_ok hd) (genL_ok h hl (hr.put (v:=.tup []) (x:=.tup []) trivial) hk hw)
            · rename_i i ht
              split at h
              · rename_i b hb
                have hs:=slot_bool hr ht (hr.kn i b hb)
                split at h
                · rename_i e;subst e
                  obtain ⟨ρ',σ',s',S',g',r1,r2,r3,r4,r5⟩:=run1_ok h hd hr hw
                  exact aops_guard_run hg hgs hs htN r1 (genL_ok r3 hl r2 (hk.mono (Pre.refl _) r5) r4)
                · rename_i e
                  exact aops_guard_skip hg hgs hs htN e (dB_ok hd) (genL_ok h hl (hr.put (v:=.tup []) (x:=.tup []) trivial) hk hw)
              · split at h
                · rename_i ga gb h1 h2
                  injection h with h;subst h
                  have hw' : ∃ b,ρ[i]? = some (.sc (.bool b))∧(if b = want then W P R ga L ρ else W P R gb L ρ):=by
                    cases want with
                    | true =>
                      simp only [if_true,W] at hw
                      split at hw
                      · rename_i c hc
                        refine ⟨c,hc,?_⟩
                        cases c <;> simpa using hw
                      · exact hw.elim
                    | false =>
                      simp only [Bool.false_eq_true,if_false,W] at hw
                      split at hw
                      · rename_i c hc
                        refine ⟨c,hc,?_⟩
                        cases c <;> simpa using hw
                      · exact hw.elim
                  obtain ⟨b,hb,hw'⟩:=hw'
                  have hs:=slot_bool hr ht hb
                  split at hw'
                  · rename_i e;subst e
                    obtain ⟨ρ',σ',s',S',g',r1,r2,r3,r4,r5⟩:=run1_ok h1 hd (hr.know hb) hw'
                    exact aops_guard_run hg hgs hs htN r1 (genL_ok r3 hl r2 (hk.mono (Pre.refl _) r5) r4)
                  · rename_i e
                    have hb' : ρ[i]? = some (.sc (.bool (!want))):=by rw [hb];cases b <;> cases want <;> simp_all
                    exact aops_guard_skip hg hgs hs htN e (dB_ok hd) (genL_ok h2 hl ((hr.know hb').put (v:=.tup []) (x:=.tup []) trivial) hk hw')
                · cases h
            · cases h
          · cases h
        · cases h
    · cases h
end
end Go.Proofs.Ytkeoohonidpjeaa
namespace Go.Proofs.Ytkeoohonidpjeaa
open Go.RowKit
def rid : Code→Option Nat
  | .region id _ _=>some id
  | .seq a b=>(match rid a with | some i=>some i | none=>rid b)
  | .block _ a=>rid a
  | .loop a=>rid a
  | .cond _ a b=>(match rid a with | some i=>some i | none=>rid b)
  | _=>none
abbrev Dt:=Nat→Array Oper→Nat→Sy→Kt→Option Pg
def seqKt (y : Nat→Sy→Option Pg) (K : Kt) : Kt:=fun lv e S=>match e with | .normal=>y lv S | e=>K lv e S
def blkKt (id : Nat) (K : Kt) : Kt:=fun lv e S=>match e with | .exit id'=>if id' = id then K lv .normal S else K lv (.exit id') S | e=>K lv e S
def condG (S : Sy) (c : Operand) (gx gy : Sy→Option Pg) : Option Pg :=
  match sev S c with
  | some (p,.p false [.d i],S1)=>(match alook S1.kn i with
    | some b=>(match (if b then gx S1 else gy S1) with | some g=>some (nds (p.map .po) g) | none=>none)
    | none=>(match gx { S1 with kn:=(i,true) :: S1.kn },gy { S1 with kn:=(i,false) :: S1.kn } with | some a,some b=>some (nds (p.map .po) (.ite i a b)) | _,_=>none))
  | _=>none
def gen (P : Program) (N : Nat) (ow : OwK) (hs : List Hint) (D : Dt) : Code→Nat→Sy→Kt→Option Pg
  | .skip,lv,S,K=>K lv .normal S
  | .exit id,lv,S,K=>K lv (.exit id) S
  | .ret,lv,S,K=>K lv .ret S
  | .seq x y,lv,S,K=>gen P N ow hs D x lv S (seqKt (fun lv S'=>gen P N ow hs D y lv S' K) K)
  | .block id x,lv,S,K=>withJ hs (2000000 + id) lv S K fun lv K=>gen P N ow hs D x lv S (blkKt id K)
  | .cond c x y,lv,S,K=>withJ hs (1000000 + (match rid x with | some i=>i | none=>(rid y).getD 0)) lv S K fun lv K=>condG S c (fun S=>gen P N ow hs D x lv S K) (fun S=>gen P N ow hs D y lv S K)
  | .region id ops false,lv,S,K=>withJ hs id lv S K fun lv K=>genL P N ow ops ops.toList lv S K
  | .region id ops true,lv,S,K=>withJ hs id lv S K fun lv K=>D id ops lv S K
  | .loop c,lv,S,K=>(match hint? hs (3000000 + (rid c).getD 0) with
    | some h=>if h.H.m = (sNil h.nils S).2.m + h.np then (match fit h (sNil h.nils S).2.m (sNil h.nils S).2,gen P N ow hs D c (lv + 1) h.H (jK h (sNil h.nils S).2.m lv K) with
      | some ([],π),some body=>some (nds ((sNil h.nils S).1.map .po) (.loop π body))
      | _,_=>none) else none
    | none=>none)
  | _,_,_,_=>none
section
variable {P : Program} {R : List (Bool × List DV)→Prop} {N : Nat} {ow : OwK} {hs : List Hint} {D : Dt}
def DOk (P : Program) (R : List (Bool × List DV)→Prop) (N : Nat) (D : Dt) : Prop :=
  ∀ id ops lv S K pg,D id ops lv S K = some pg→∀ (L : Lbl) ρ σ s Q,lv = L.length→Rel S ρ σ s→KOk P R L ρ Q K→W P R pg L ρ→AWp P N (.region id ops true) Q s
theorem gen_ok (hD : DOk P R N D) : ∀ (c : Code) {lv : Nat} {S : Sy} {K : Kt} {pg : Pg} {L : Lbl} {ρ : List DV} {σ : List Nat} {s : AS} {Q : Exit→AS→Prop},gen P N ow hs D c lv S K = some pg→lv = L.length→Rel S ρ σ s→KOk P R L ρ Q K→W P R pg L ρ→AWp P N c Q s:=by
  intro c
  induction c with
  | skip=>intro lv S K pg L ρ σ s Q h hl hr hk hw;exact awp_skip (hk L ρ (Pre.refl _) (Pre.refl _) _ _ _ (by rw [← hl];exact h) _ _ hr hw)
  | exit id=>intro lv S K pg L ρ σ s Q h hl hr hk hw;exact awp_exit (hk L ρ (Pre.refl _) (Pre.refl _) _ _ _ (by rw [← hl];exact h) _ _ hr hw)
  | ret=>intro lv S K pg L ρ σ s Q h hl hr hk hw;exact awp_ret (hk L ρ (Pre.refl _) (Pre.refl _) _ _ _ (by rw [← hl];exact h) _ _ hr hw)
  | seq x y ihx ihy =>
    intro lv S K pg L ρ σ s Q h hl hr hk hw
    simp only [gen] at h
    refine awp_seq (ihx h hl hr ?_ hw)
    intro L' ρ' hL hp e S' pg' hpg σ' s' hr' hw'
    unfold seqKt at hpg
    cases e with
    | normal=>exact ihy hpg rfl hr' (hk.mono hL hp) hw'
    | _=>exact hk L' ρ' hL hp _ _ _ hpg _ _ hr' hw'
  | block id x ih =>
    intro lv S K pg L ρ σ s Q h hl hr hk hw
    simp only [gen] at h
    refine withJ_ok h hl hr hk hw fun lv K' pg L' Q' hb hl' hk' hw'=>?_
    refine awp_block (ih hb hl' hr ?_ hw')
    intro L2 ρ2 hL hp e S2 pg2 hpg σ2 s2 hr2 hw2
    unfold blkKt at hpg
    cases e with
    | exit id' =>
      simp only at hpg
      simp only [blkK]
      split at hpg
      · rename_i e;rw [if_pos e];exact hk' L2 ρ2 hL hp _ _ _ hpg _ _ hr2 hw2
      · rename_i e;rw [if_neg e];exact hk' L2 ρ2 hL hp _ _ _ hpg _ _ hr2 hw2
    | _=>exact hk' L2 ρ2 hL hp _ _ _ hpg _ _ hr2 hw2
  | cond c x y ihx ihy =>
    intro lv S K pg L ρ σ s Q h hl hr hk hw
    simp only [gen] at h
    refine withJ_ok h hl hr hk hw fun lv K' pg L' Q' hb hl' hk' hw'=>?_
    unfold condG at hb
    split at hb
    · rename_i p i S1 hv
      split at hb
      · rename_i b hkn
        split at hb
        · rename_i g hg
          injection hb with hb;subst hb
          obtain ⟨ρ1,he,hw1,hp1⟩:=wn_po (w_nds hw')
          obtain ⟨k1,k2⟩:=sev_ok hv he hr
          obtain ⟨z,z1,z2⟩:=dat_rv (i:=i) rfl k1
          rw [k2.kn i b hkn] at z2;injection z2 with z2;subst z2
          refine awp_cond z1 ?_
          cases b with
          | true=>exact ihx hg hl' k2 (hk'.mono (Pre.refl _) hp1) hw1
          | false=>exact ihy hg hl' k2 (hk'.mono (Pre.refl _) hp1) hw1
        · cases hb
      · split at hb
        · rename_i ga gb h1 h2
          injection hb with hb;subst hb
          obtain ⟨ρ1,he,hw1,hp1⟩:=wn_po (w_nds hw')
          obtain ⟨k1,k2⟩:=sev_ok hv he hr
          obtain ⟨z,z1,z2⟩:=dat_rv (i:=i) rfl k1
          simp only [W] at hw1
          split at hw1
          · rename_i b hb
            rw [hb] at z2;injection z2 with z2;subst z2
            refine awp_cond z1 ?_
            cases b with
            | true=>exact ihx h1 hl' (k2.know hb) (hk'.mono (Pre.refl _) hp1) hw1
            | false=>exact ihy h2 hl' (k2.know hb) (hk'.mono (Pre.refl _) hp1) hw1
          · exact hw1.elim
        · cases hb
    · cases hb
  | region id ops dr =>
    intro lv S K pg L ρ σ s Q h hl hr hk hw
    cases dr with
    | false =>
      simp only [gen] at h
      refine withJ_ok h hl hr hk hw fun lv K' pg L' Q' hb hl' hk' hw'=>?_
      exact awp_region (genL_ok hb hl' hr hk' hw')
    | true =>
      simp only [gen] at h
      refine withJ_ok h hl hr hk hw fun lv K' pg L' Q' hb hl' hk' hw'=>?_
      exact hD _ _ _ _ _ _ hb _ _ _ _ _ hl' hr hk' hw'
  | loop c ih =>
    intro lv S K pg L ρ σ s Q h hl hr hk hw
    simp only [gen] at h
    split at h
    · rename_i hh _
      split at h
      · rename_i hm
        split at h
        · rename_i π body hf hb
          injection h with h;subst h
          obtain ⟨ρ1,he,hw1,hp1⟩:=wn_po (w_nds hw)
          obtain ⟨σ1,s1,re1,hr1⟩:=sNil_ok he hr
          simp only [W] at hw1
          obtain ⟨I,m,vs,v1,v2,v3⟩:=hw1
          obtain ⟨f1,f2,σ2,s2,f3,f4⟩:=fit_ok hf hr1.m (Pre.refl _) hr1 rfl v1
          refine awp_re (re1.trans f3) (awp_rounds (fun s m=>∃ vs σ,vs.length = hh.np∧I vs m∧Rel hh.H (ρ1 ++ vs) σ s) m ⟨vs,σ2,f1,v2,f4⟩ ?_)
          rintro s3 m3 ⟨vs3,σ3,g1,g2,g3⟩
          refine ih hb (L:=L ++ [fun vs'=>∃ m',m' < m3∧I vs' m']) (by simp [hl]) g3 ?_ (v3 vs3 m3 (by rw [g1,f2]) g2)
          intro L' ρ' hL hp e S' pg' hpg σ' s' hr' hw'
          unfold jK at hpg
          cases e with
          | normal =>
            obtain ⟨J',vs',σ4,s4,j1,j2,j3,j4,j5⟩:=toJ_ok hpg hr1.m ((Pre.app _ _).trans hp) hr' hw'
            rw [hL.get (i:=lv) (x:=fun vs'=>∃ m',m' < m3∧I vs' m') (by simp [hl])] at j1
            injection j1 with j1;subst j1
            obtain ⟨m',q1,q2⟩:=j2
            exact ⟨m',s4,q1,j4,vs',σ4,j3,q2,j5⟩
          | _=>exact hk L' ρ' ((Pre.app _ _).trans hL) (hp1.trans ((Pre.app _ _).trans hp)) _ _ _ hpg _ _ hr' hw'
        · cases h
      · cases h
    · cases h
  | _=>intro lv S K pg L ρ σ s Q h;simp [gen] at h
end
section
variable {P : Program} {ρ ρ' : List DV} {σ : List Nat} {S S' : Sy} {s s0 : AS} {ps : List PO}
def sRv (P : Program) (S : Sy) : ResultVar→Option (List PO × Bool × List SC × Sy)
  | .tmp t=>(match alook S.sl t with | some (.p b cs)=>some ([],b,cs,S) | _=>none)
  | .cell t ty=>(match alook S.sl t with
    | some v=>(match one v with | some c=>(match sLoad P S ty c with | some (p,.p b cs,S1)=>some (p,b,cs,S1) | _=>none) | none=>none)
    | none=>none)
def sRvs (P : Program) : List ResultVar→Sy→Option (List PO × List (Bool × List SC) × Sy)
  | [],S=>some ([],[],S)
  | rv :: r,S=>(match sRv P S rv with
    | some (p,b,cs,S1)=>(match sRvs P r S1 with | some (q,xs,S2)=>some (p ++ q,(b,cs) :: xs,S2) | none=>none)
    | none=>none)
def RvL (P : Program) (s0 : AS) : List ResultVar→List (Bool × List AC)→Prop
  | [],[]=>True
  | rv :: rvs,y :: ys=>rvV P s0 rv = some (.p y.1 y.2)∧RvL P s0 rvs ys
  | _,_=>False
theorem sRv_ok {rv : ResultVar} {b : Bool} {cs : List SC} (h : sRv P S rv = some (ps,b,cs,S')) (he : evalPs ps ρ = some ρ') (hr : Rel S ρ σ s0) : ∃ ys,rvV P s0 rv = some (.p b ys)∧RCs ρ' σ cs ys∧Rel S' ρ' σ s0:=by
  unfold sRv at h
  split at h
  · split at h
    · rename_i ht
      injection h with h;injection h with e1 h;injection h with e2 h;injection h with e3 e4;subst e1 e2 e3 e4
      simp only [evalPs] at he;injection he with he;subst he
      have:=hr.sl _ _ ht
      rename_i t b cs _
      cases hx : s0.sl t with
      | p b' ys=>rw [hx] at this;obtain ⟨rfl,h2⟩:=this;exact ⟨ys,by simp [rvV,hx],h2,hr⟩
      | tup=>rw [hx] at this;exact this.elim
      | und=>rw [hx] at this;exact this.elim
    · cases h
  · split at h
    · rename_i t ty v ht
      split at h
      · rename_i c hc
        split at h
        · rename_i p b' cs' S1 hl
          injection h with h;injection h with e1 h;injection h with e2 h;injection h with e3 e4;subst e1 e2 e3 e4
          obtain ⟨y,y1,y2⟩:=one_rv hc (hr.sl _ _ ht)
          obtain ⟨x,x1,x2,x3⟩:=sLoad_ok hl he hr y2
          cases x with
          | p b2 ys=>obtain ⟨rfl,h2⟩:=x2;exact ⟨ys,by simp only [rvV,y1];exact x1,h2,x3⟩
          | tup=>exact x2.elim
          | und=>exact x2.elim
        · cases h
      · cases h
    · cases h
theorem sRvs_ok : ∀ {rvs : List ResultVar} {xs : List (Bool × List SC)} {S S' : Sy} {ps : List PO} {ρ ρ' : List DV},sRvs P rvs S = some (ps,xs,S')→evalPs ps ρ = some ρ'→Rel S ρ σ s0→∃ ys,RvL P s0 rvs ys∧RT ρ' σ xs ys∧Rel S' ρ' σ s0
  | [],xs,S,S',ps,ρ,ρ',h,he,hr=>by
    simp only [sRvs] at h
    injection h with h;injection h with e1 h;injection h with e2 e3;subst e1 e2 e3
    simp only [evalPs] at he;injection he with he;subst he
    exact ⟨[],trivial,trivial,hr⟩
  | rv :: r,xs,S,S',ps,ρ,ρ',h,he,hr=>by
    simp only [sRvs] at h
    split at h
    · rename_i p b cs S1 h1
      split at h
      · rename_i q xs' S2 h2
        injection h with h;injection h with e1 h;injection h with e2 e3;subst e1 e2 e3
        obtain ⟨ρ1,a1,a2⟩:=evalPs_app he
        obtain ⟨ys,y1,y2,y3⟩:=sRv_ok h1 a1 hr
        obtain ⟨zs,z1,z2,z3⟩:=sRvs_ok h2 a2 y3
        exact ⟨(b,ys) :: zs,⟨y1,z1⟩,⟨⟨rfl,RCs.mono (evalPs_pre a2) (Pre.refl _) y2⟩,z2⟩,z3⟩
      · cases h
    · cases h
def sGvs : List (Bool × List SC)→List (List (Option (Nat × Nat)))→Sy→Option (List PO × List (Bool × List Nat))
  | [],_,S=>some ([],[])
  | (b,cs) :: r,ty,S=>(match sGive cs (ty.headD []) S with
    | some (p,xs,S1)=>(match sGvs r ty.tail S1 with | some (q,l)=>some (p ++ q,(b,xs) :: l) | none=>none)
    | none=>none)
theorem sGvs_ok : ∀ {xs : List (Bool × List SC)} {ty : List (List (Option (Nat × Nat)))} {l : List (Bool × List Nat)} {S : Sy} {ps : List PO} {ρ ρ' : List DV} {s : AS} {rvs : List ResultVar} {ys : List (Bool × List AC)},
    sGvs xs ty S = some (ps,l)→evalPs ps ρ = some ρ'→Rel S ρ σ s→RvL P s0 rvs ys→RT ρ σ xs ys→∃ ds,gArgs ρ' l = some ds∧RetDeep P s0 rvs (ds.map fun d=>(d.1,d.2,true)) s
  | [],ty,l,S,ps,ρ,ρ',s,rvs,ys,h,he,hr,hv,ht=>by
    simp only [sGvs] at h
    injection h with h;injection h with e1 e2;subst e1 e2
    match ys,ht with
    | [],_ =>
      cases rvs with
      | nil=>exact ⟨[],rfl,trivial⟩
      | cons=>exact hv.elim
  | (b,cs) :: r,ty,l,S,ps,ρ,ρ',s,rvs,ys,h,he,hr,hv,ht=>by
    simp only [sGvs] at h
    split at h
    · rename_i p xs S1 h1
      split at h
      · rename_i q l' h2
        injection h with h;injection h with e1 e2;subst e1 e2
        match ys,rvs,ht,hv with
        | y :: ys,rv :: rvs,ht,hv =>
          obtain ⟨ρ1,a1,a2⟩:=evalPs_app he
          obtain ⟨s1,ds,g1,g2,g3,-⟩:=sGive_ok h1 a1 hr ht.1.2
          obtain ⟨dss,d1,d2⟩:=sGvs_ok h2 a2 g3 hv.2 (RT.mono (evalPs_pre a1) (Pre.refl _) ht.2)
          refine ⟨(b,ds) :: dss,by simp only [gArgs,g2.app_pre (evalPs_pre a2),d1],?_⟩
          simp only [List.map_cons,RetDeep]
          refine ⟨trivial,?_⟩
          rw [hv.1]
          exact ⟨ht.1.1,s1,g1,d2⟩
      · cases h
    · cases h
def retKt (P : Program) (rvs : List ResultVar) (ty : List (List (Option (Nat × Nat)))) : Kt:=fun _ e S =>
  match e with
  | .normal | .ret=>(match sRvs P rvs S with
    | some (p,xs,S1)=>(match sGvs xs ty S1 with | some (q,l)=>some (nds ((p ++ q).map .po) (.ret l)) | none=>none)
    | none=>none)
  | _=>none
def isRes (res : List Rs) (vs : List (Bool × List DV)) : Prop:=(vs.map fun d=>(d.1,d.2,true)) = res
theorem retKt_ok {rvs : List ResultVar} {ty : List (List (Option (Nat × Nat)))} {res : List Rs} {L : Lbl} : KOk P (isRes res) L ρ (retK P rvs res) (retKt P rvs ty):=by
  intro L' ρ1 hL hp e S pg hpg σ s hr hw
  have key : ∀ p xs S1 q l,sRvs P rvs S = some (p,xs,S1)→sGvs xs ty S1 = some (q,l)→pg = nds ((p ++ q).map .po) (.ret l)→RetDeep P s rvs res s:=by
    intro p xs S1 q l h1 h2 e
    subst e
    obtain ⟨ρ2,he,hw2,-⟩:=wn_po (w_nds hw)
    simp only [W] at hw2
    obtain ⟨vs,w1,w2⟩:=hw2
    obtain ⟨ρ3,a1,a2⟩:=evalPs_app he
    obtain ⟨ys,y1,y2,y3⟩:=sRvs_ok h1 a1 hr
    obtain ⟨ds,d1,d2⟩:=sGvs_ok (P:=P) (s0:=s) h2 a2 y3 y1 y2
    rw [w1] at d1;injection d1 with d1;subst d1
    rw [w2] at d2;exact d2
  unfold retKt at hpg
  split at hpg
  · split at hpg
    · split at hpg
      · injection hpg with hpg;exact Or.inl (key _ _ _ _ _ (by assumption) (by assumption) hpg.symm)
      · cases hpg
    · cases hpg
  · split at hpg
    · split at hpg
      · injection hpg with hpg;exact Or.inl (key _ _ _ _ _ (by assumption) (by assumption) hpg.symm)
      · cases hpg
    · cases hpg
  · cases hpg
def iSl : List (Bool × Nat)→Nat→Nat→List (Nat × SV)
  | [],_,_=>[]
  | (b,n) :: r,t,m=>(t,.p b ((vars m n).map .d)) :: iSl r (t + 1) (m + n)
def flatA : List (Bool × List DV)→List DV
  | []=>[]
  | (_,ds) :: r=>ds ++ flatA r
def shA (args : List (Bool × List DV)) : List (Bool × Nat):=args.map fun a=>(a.1,a.2.length)
theorem iSl_ok : ∀ {args : List (Bool × List DV)} {t0 t : Nat} {pre : List DV} {x : SV},alook (iSl (shA args) t0 pre.length) t = some x→∃ b ds m,t0≤t∧args[t - t0]? = some (b,ds)∧x = .p b ((vars m ds.length).map .d)∧RD (pre ++ flatA args) (vars m ds.length) ds
  | [],t0,t,pre,x,h=>by simp [shA,iSl,alook] at h
  | (b,ds) :: r,t0,t,pre,x,h=>by
    simp only [shA,List.map_cons,iSl,alook] at h
    split at h
    · rename_i e;subst e
      injection h with h
      refine ⟨b,ds,pre.length,Nat.le_refl _,by simp,h.symm,?_⟩
      have : RD (pre ++ ds) (vars pre.length ds.length) ds:=vars_rd
      simp only [flatA];rw [← List.append_assoc]
      exact this.mono (Pre.app _ _)
    · rename_i e
      obtain ⟨b',ds',m,h1,h2,h3,h4⟩:=iSl_ok (args:=r) (t0:=t0 + 1) (t:=t) (pre:=pre ++ ds) (x:=x) (by simpa [shA] using h)
      refine ⟨b',ds',m,by omega,?_,h3,by simpa [flatA] using h4⟩
      rw [show t - t0 = (t - (t0 + 1)) + 1 from by omega]
      simpa using h2
def initSy (sh : List (Bool × Nat)) : Sy:=⟨iSl sh 0 0,[],0,0,(sh.map (·.2)).sum,[]⟩
theorem init_rel (args : List (Bool × List DV)) : Rel (initSy (shA args)) (flatA args) [] (initS args):=by
  refine ⟨rfl,rfl,?_,fun t x hx=>?_,fun i x hx=>by simp [initSy,alook] at hx,fun i b hb=>by simp [initSy,alook] at hb⟩
  · simp only [initSy]
    induction args with
    | nil=>rfl
    | cons a r ih=>obtain ⟨b,ds⟩:=a;simp only [flatA,shA,List.map_cons,List.sum_cons,List.length_append] at ih ⊢;rw [ih]
  · obtain ⟨b,ds,m,h1,h2,h3,h4⟩:=iSl_ok (pre:=[]) hx
    subst h3
    rw [Nat.sub_zero] at h2
    simp only [initS,h2]
    exact ⟨rfl,RD.toC (by simpa using h4)⟩
theorem meets_vd {ow : OwK} {hs : List Hint} {D : Dt} {f : FuncId} {fn : Func} {c : Code} {args : List (Bool × List DV)} {res : List Rs} {ty : List (List (Option (Nat × Nat)))} {sh : List (Bool × Nat)} {pg : Pg} (hD : DOk P (isRes res) fn.ntmps D)
    (hf : P.funcs[f]? = some fn) (hb : fn.body = some c) (hc : callable P f = true) (hN : args.length≤fn.ntmps) (hsh : shA args = sh)
    (hg : gen P fn.ntmps ow hs D c 0 (initSy sh) (retKt P fn.results.toList ty) = some pg) (hw : W P (isRes res) pg [] (flatA args)) : Meets P f args res:=by
  subst hsh
  exact meets_awp hf hb hc hN (gen_ok hD c hg rfl (init_rel args) retKt_ok hw)
end
end Go.Proofs.Ytkeoohonidpjeaa
namespace Go.Proofs.Ytkeoohonidpjeaa
open Go.RowKit
section
variable {P : Program} {R : List (Bool × List DV)→Prop} {N : Nat} {ow : OwK} {ρ ρ' : List DV} {σ σ' σh σq : List Nat} {S S' H Q H' Q' : Sy} {s s' h q : AS} {ps : List PO} {o : Oper} {K : List DV→Prop} {n : List Nd} {L : Lbl} {pr : Bool}
theorem Rel.sync (hr : Rel S ρ σ s) (hp : Pre ρ ρ') : Rel { S with m:=ρ'.length } ρ' σ s:=hr.more hp rfl
def sHVb (P : Program) (S : Sy) : Op→SR
  | .build t parts=>(match sBuild P S t parts.toList with | some (ps,cs,S')=>some (ps,.p true cs,S') | none=>none)
  | op=>sHV P S op
theorem sHVb_ok {op : Op} {v : SV} (hh : sHVb P S op = some (ps,v,S')) (he : evalPs ps ρ = some ρ') (hr : Rel S ρ σ s) : ∃ x,hVb P s op = some x∧RV ρ' σ v x∧Rel S' ρ' σ s:=by
  unfold sHVb at hh
  split at hh
  · split at hh
    · rename_i ps' cs S1 hb
      injection hh with hh;injection hh with e1 hh;injection hh with e2 e3;subst e1 e2 e3
      obtain ⟨ht,z,ys,z1,z2,z3,z4⟩:=sBuild_ok hb he hr
      exact ⟨.p true ys,by simp only [hVb,ht,if_true,z1,z2],⟨rfl,z3⟩,z4⟩
    · cases hh
  · rename_i hnb
    obtain ⟨x,x1,x2,x3⟩:=sHV_ok hh he hr
    refine ⟨x,?_,x2,x3⟩
    unfold hVb
    split
    · rename_i t parts;exact absurd rfl (hnb t parts)
    · exact x1
def finS : List SC→List (Option (Nat × Nat))→Option (List PO)
  | [],_=>some []
  | .d i :: r,ty=>(match ty.headD (some (0,0)) with | none=>(match finS r ty.tail with | some p=>some (.sc i :: p) | none=>none) | some _=>none)
  | .rd _ :: _,_=>none
  | _ :: r,ty=>finS r ty.tail
theorem finS_ok : ∀ {cs : List SC} {ty : List (Option (Nat × Nat))} {ps : List PO} {ρ ρ' : List DV} {ys : List AC},finS cs ty = some ps→evalPs ps ρ = some ρ'→RCs ρ σ cs ys→ρ' = ρ∧ys.all solidC = true
  | [],ty,ps,ρ,ρ',ys,hh,he,hc=>by
    simp only [finS] at hh;injection hh with hh;subst hh
    simp only [evalPs] at he;injection he with he;subst he
    cases ys with
    | nil=>exact ⟨rfl,rfl⟩
    | cons=>exact hc.elim
  | c :: r,ty,ps,ρ,ρ',[],hh,he,hc=>hc.elim
  | .d i :: r,ty,ps,ρ,ρ',y :: ys,hh,he,hc=>by
    simp only [finS] at hh
    split at hh
    · split at hh
      · rename_i p hp
        injection hh with hh;subst hh
        obtain ⟨x,rfl,hx⟩:=rc_d hc.1
        simp only [evalPs,evalP,hx] at he
        split at he
        · rename_i out ho
          split at ho
          · rename_i hsc
            injection ho with ho;subst ho
            rw [List.append_nil] at he
            obtain ⟨u,rfl⟩:=isScD_ok hsc
            obtain ⟨h1,h2⟩:=finS_ok hp he hc.2
            exact ⟨h1,by simp [solidC,h2]⟩
          · cases ho
        · cases he
      · cases hh
    · cases hh
  | .nil :: r,ty,ps,ρ,ρ',y :: ys,hh,he,hc=>by
    simp only [finS] at hh
    cases y <;> first | exact hc.1.elim | skip
    obtain ⟨h1,h2⟩:=finS_ok hh he hc.2
    exact ⟨h1,by simp [solidC,h2]⟩
  | .own _ _ :: r,ty,ps,ρ,ρ',y :: ys,hh,he,hc=>by
    simp only [finS] at hh
    cases y <;> first | exact hc.1.elim | skip
    obtain ⟨h1,h2⟩:=finS_ok hh he hc.2
    exact ⟨h1,by simp [solidC,h2]⟩
  | .ptr _ _ _ :: r,ty,ps,ρ,ρ',y :: ys,hh,he,hc=>by
    simp only [finS] at hh
    cases y <;> first | exact hc.1.elim | skip
    obtain ⟨h1,h2⟩:=finS_ok hh he hc.2
    exact ⟨h1,by simp [solidC,h2]⟩
  | .elt _ _ _ _ _ :: r,ty,ps,ρ,ρ',y :: ys,hh,he,hc=>by
    simp only [finS] at hh
    cases y <;> first | exact hc.1.elim | skip
    obtain ⟨h1,h2⟩:=finS_ok hh he hc.2
    exact ⟨h1,by simp [solidC,h2]⟩
  | .sub _ _ _ _ _ :: r,ty,ps,ρ,ρ',y :: ys,hh,he,hc=>by
    simp only [finS] at hh
    cases y <;> first | exact hc.1.elim | skip
    obtain ⟨h1,h2⟩:=finS_ok hh he hc.2
    exact ⟨h1,by simp [solidC,h2]⟩
  | .emp :: r,ty,ps,ρ,ρ',y :: ys,hh,he,hc=>by
    simp only [finS] at hh
    cases y <;> first | exact hc.1.elim | skip
    obtain ⟨h1,h2⟩:=finS_ok hh he hc.2
    exact ⟨h1,by simp [solidC,h2]⟩
  | .rd _ :: r,ty,ps,ρ,ρ',y :: ys,hh,he,hc=>by simp [finS] at hh
abbrev HR:=Option (List Nd × Sy × Sy)
def hVal (P : Program) (pr : Bool) (H Q : Sy) (o : Oper) : HR :=
  match sHVb P H o.op with
  | some (ps,v,H1)=>if pr then some (ps.map .po,H1.put o.dst v,{ Q with m:=H1.m }.put o.dst v) else (match v with
    | .p b cs=>(match finS cs (tcl P 9 o.type) with
      | some sp=>some ((ps ++ sp).map .po,H1.put o.dst v,{ Q with m:=H1.m }.put o.dst v)
      | none=>some (ps.map .po,H1.put o.dst v,{ Q with m:=H1.m }.del o.dst))
    | .tup _=>some (ps.map .po,H1.put o.dst v,{ Q with m:=H1.m }.del o.dst))
  | none=>none
def HGoes (P : Program) (pr : Bool) (h q : AS) (σh : List Nat) (o : Oper) (H' Q' : Sy) (K : List DV→Prop) : Prop :=
  ∃ ρ' σq' kd x q',HRun P pr h q o kd x q'∧Rel H' ρ' σh (h.put o.dst x)∧Rel Q' ρ' σq' q'∧Pre σh σq'∧K ρ'
theorem hVal_ok (hh : hVal P pr H Q o = some (n,H',Q')) (hr : Rel H ρ σh h) (hq : Rel Q ρ σq q) (hp : Pre σh σq) (hw : WN P n K ρ) : HGoes P pr h q σh o H' Q' K:=by
  unfold hVal at hh
  split at hh
  · rename_i ps v H1 hv
    split at hh
    · rename_i hpr
      injection hh with hh;injection hh with e1 hh;injection hh with e2 e3;subst e1 e2 e3
      obtain ⟨ρ',he,hk⟩:=wn_po hw
      obtain ⟨x,x1,x2,x3⟩:=sHVb_ok hv he hr
      refine ⟨ρ',σq,.v x,x,q.put o.dst (finV pr x),.inl ⟨x,x1,rfl,rfl,rfl⟩,x3.put x2,?_,hp,hk⟩
      rw [← x3.m]
      refine (hq.sync (evalPs_pre he)).put ?_
      unfold finV;rw [if_pos hpr];exact x2.mono (Pre.refl _) hp
    · rename_i hpr
      split at hh
      · rename_i b cs
        split at hh
        · rename_i sp hsp
          injection hh with hh;injection hh with e1 hh;injection hh with e2 e3;subst e1 e2 e3
          obtain ⟨ρ',he,hk⟩:=wn_po hw
          obtain ⟨ρ1,a1,a2⟩:=evalPs_app he
          obtain ⟨x,x1,x2,x3⟩:=sHVb_ok hv a1 hr
          cases x with
          | p b' ys =>
            have x2':=x2
            obtain ⟨rfl,hc⟩:=x2
            obtain ⟨rfl,hs⟩:=finS_ok hsp a2 hc
            refine ⟨ρ',σq,.v (.p b' ys),.p b' ys,q.put o.dst (finV pr (.p b' ys)),.inl ⟨_,x1,rfl,rfl,rfl⟩,x3.put x2',?_,hp,hk⟩
            rw [← x3.m]
            refine (hq.sync (evalPs_pre a1)).put ?_
            unfold finV;rw [if_neg hpr];simp only [hs,if_true];exact ⟨rfl,RCs.mono (Pre.refl _) hp hc⟩
          | tup=>exact x2.elim
          | und=>exact x2.elim
        · injection hh with hh;injection hh with e1 hh;injection hh with e2 e3;subst e1 e2 e3
          obtain ⟨ρ',he,hk⟩:=wn_po hw
          obtain ⟨x,x1,x2,x3⟩:=sHVb_ok hv he hr
          refine ⟨ρ',σq,.v x,x,q.put o.dst (finV pr x),.inl ⟨x,x1,rfl,rfl,rfl⟩,x3.put x2,?_,hp,hk⟩
          rw [← x3.m];exact (hq.sync (evalPs_pre he)).del
      · injection hh with hh;injection hh with e1 hh;injection hh with e2 e3;subst e1 e2 e3
        obtain ⟨ρ',he,hk⟩:=wn_po hw
        obtain ⟨x,x1,x2,x3⟩:=sHVb_ok hv he hr
        refine ⟨ρ',σq,.v x,x,q.put o.dst (finV pr x),.inl ⟨x,x1,rfl,rfl,rfl⟩,x3.put x2,?_,hp,hk⟩
        rw [← x3.m];exact (hq.sync (evalPs_pre he)).del
  · cases hh
def asgV (P : Program) (H : Sy) (o : Oper) : Bool:=match o.op with
  | .assign _=>(match sHVb P H o.op with | some (_,.p _ cs,_)=>(finS cs (tcl P 9 o.type)).isSome | _=>false)
  | _=>false
def hMov (P : Program) (pr : Bool) (H Q : Sy) (o : Oper) : HR :=
  if asgV P H o || (pr || !isPure o.op) then hVal P pr H Q o else (match sHVb P H o.op with
    | some (ps,v,H1)=>(match sHVb P { Q with m:=H1.m } o.op with
      | some (qs,u,Q1)=>some ((ps ++ qs).map .po,{ H1 with m:=Q1.m }.put o.dst v,Q1.put o.dst u)
      | none=>hVal P pr H Q o)
    | none=>hVal P pr H Q o)
theorem hMov_ok (hh : hMov P pr H Q o = some (n,H',Q')) (hr : Rel H ρ σh h) (hq : Rel Q ρ σq q) (hp : Pre σh σq) (hw : WN P n K ρ) : HGoes P pr h q σh o H' Q' K:=by
  unfold hMov at hh
  split at hh
  · exact hVal_ok hh hr hq hp hw
  · rename_i hpr
    simp only [Bool.or_eq_true,Bool.not_eq_true',not_or,Bool.not_eq_true,Bool.not_eq_false] at hpr
    replace hpr:=hpr.2
    split at hh
    · rename_i ps v H1 h1
      split at hh
      · rename_i qs u Q1 h2
        injection hh with hh;injection hh with e1 hh;injection hh with e2 e3;subst e1 e2 e3
        obtain ⟨ρ',he,hk⟩:=wn_po hw
        obtain ⟨ρ1,a1,a2⟩:=evalPs_app he
        obtain ⟨x,x1,x2,x3⟩:=sHVb_ok h1 a1 hr
        have hq1 : Rel { Q with m:=H1.m } ρ1 σq q:=by rw [← x3.m];exact hq.sync (evalPs_pre a1)
        obtain ⟨y,y1,y2,y3⟩:=sHVb_ok h2 a2 hq1
        have hr2 : Rel { H1 with m:=Q1.m } ρ' σh h:=by rw [← y3.m];exact x3.sync (evalPs_pre a2)
        exact ⟨ρ',σq,.p o.op,x,q.put o.dst y,.inr (.inr (.inr (.inr (.inl ⟨x,y,hpr.2,hpr.1,x1,y1,rfl,rfl,rfl⟩)))),hr2.put (x2.mono (evalPs_pre a2) (Pre.refl _)),y3.put y2,hp,hk⟩
      · exact hVal_ok hh hr hq hp hw
    · exact hVal_ok hh hr hq hp hw
def hAlloc (P : Program) (pr : Bool) (H Q : Sy) (d : Option Nat) (t : TypeId) : HR :=
  if pr then none else (match tzero P t with
    | some vs=>(match sZ vs H.m with | some (p,cs)=>some (p.map .po,(H.bind p.length).del d,({ Q with m:=(H.bind p.length).m }.push (.var Q.c t cs)).put d (.p false [.ptr Q.n Q.c 0])) | none=>none)
    | none=>none)
theorem hAlloc_ok {t : TypeId} (ho : o.op = .alloc t) (hh : hAlloc P pr H Q o.dst t = some (n,H',Q')) (hr : Rel H ρ σh h) (hq : Rel Q ρ σq q) (hp : Pre σh σq) (hw : WN P n K ρ) : HGoes P pr h q σh o H' Q' K:=by
  unfold hAlloc at hh
  split at hh
  · cases hh
  · rename_i hpr
    split at hh
    · rename_i vs hz
      split at hh
      · rename_i p cs hs
        injection hh with hh;injection hh with e1 hh;injection hh with e2 e3;subst e1 e2 e3
        obtain ⟨ρ',he,hk⟩:=wn_po hw
        obtain ⟨acs,a1,a2,a3⟩:=sZ_ok (σ:=σq) hs hr.m he
        have hr1 : Rel (H.bind p.length) ρ' σh h:=hr.more (evalPs_pre he) a3
        refine ⟨ρ',σq ++ [q.c],.a t acs,.und,(q.push (.var q.c t acs)).put o.dst (.p false [.ptr q.n q.c 0]),.inr (.inr (.inr (.inl ⟨t,acs,ho,by simpa using hpr,by simp only [zeroAC,hz,a1],rfl,rfl,rfl⟩))),hr1.del,?_,hp.trans (Pre.app _ _),hk⟩
        have hq1 : Rel { Q with m:=(H.bind p.length).m } ρ' σq q:=by rw [← hr1.m];exact hq.sync (evalPs_pre he)
        exact (hq1.push (so:=.var Q.c t cs) (ob:=.var q.c t acs) ⟨hq1.last _,rfl,a2.mono (Pre.refl _) (Pre.app _ _)⟩).put ⟨rfl,⟨hq1.n,hq1.last _,rfl⟩,trivial⟩
      · cases hh
    · cases hh
def hvS (sh : Sh) (m : Nat) : List (Bool × List SC) :=match sh with
  | []=>[]
  | (b,ss,_) :: r=>(b,(vars m ss.length).map .d) :: hvS r (m + ss.length)
theorem hvS_ok : ∀ {rs : List Rs} {sh : Sh} {m : Nat},shOk sh rs = true→RD ρ (vars m (flatR rs).length) (flatR rs)→RT ρ σ (hvS sh m) (rs.map fun r=>(r.1,r.2.1.map AC.d))
  | [],sh,m,hh,hd=>by
    cases sh with
    | nil=>exact trivial
    | cons x r=>obtain ⟨b,ss,ow⟩:=x;simp [shOk] at hh
  | (b,ds,ow) :: rs,sh,m,hh,hd=>by
    match sh,hh with
    | (b',ss,ow') :: r,hh =>
      simp only [shOk,Bool.and_eq_true,decide_eq_true_eq] at hh
      obtain ⟨⟨rfl,rfl⟩,h1,h2⟩:=hh
      obtain ⟨d1,d2⟩:=rd_split hd
      rw [shC_len h1] at d1 d2
      exact ⟨⟨rfl,RD.toC d1⟩,hvS_ok h2 d2⟩
theorem hvRes_rv {l : List (Bool × List SC)} {rs : List Rs} (hh : RT ρ σ l (rs.map fun r=>(r.1,r.2.1.map AC.d))) : RV ρ σ (resSV l) (hvRes rs):=by
  unfold resSV hvRes
  generalize (rs.map fun r=>(r.1,r.2.1.map AC.d)) = l' at hh
  match l,l',hh with
  | [],[],hh=>exact hh
  | [(b,cs)],[(b',cs')],hh=>exact hh.1
  | x :: y :: l,x' :: y' :: l',hh=>exact hh
  | [x],_ :: _ :: _,hh=>exact hh.2.elim
  | _ :: _ :: _,[x],hh=>exact hh.2.elim
def noSl (sh : Sh) : Bool:=sh.all fun x=>x.2.1.all (·.isNone)
theorem noSl_ok : ∀ {sh : Sh} {rs : List Rs} {c : Nat},noSl sh = true→shOk sh rs = true→resO false rs c = []
  | [],[],_,_,_=>rfl
  | (b,ss,ow) :: sh,(b',ds,ow') :: rs,c,h1,h2=>by
    simp only [shOk,Bool.and_eq_true,decide_eq_true_eq] at h2
    simp only [noSl,List.all_cons,Bool.and_eq_true] at h1
    have key : ∀ {ss : List (Option (Nat × Nat))} {ds : List DV} {c : Nat},(ss.all (·.isNone)) = true→shC ss ds = true→adO false ds c = []:=by
      intro ss
      induction ss with
      | nil=>intro ds c _ h;cases ds with
        | nil=>rfl
        | cons=>simp [shC] at h
      | cons x ss ih =>
        intro ds c hn h
        cases x with
        | some=>simp at hn
        | none =>
          cases ds with
          | nil=>simp [shC] at h
          | cons d ds=>cases d with
            | sc u=>simp only [shC] at h;simp only [adO];exact ih (by simpa using hn) h
            | sl=>simp [shC] at h
    have k1:=key (c:=c) h1.1 h2.2.1
    have k2:=noSl_ok (c:=c) h1.2 h2.2.2
    cases ow' with
    | true=>simp only [resO,k1,List.length_nil,Nat.add_zero,k2,List.append_nil]
    | false=>simp only [resO,k2]
  | [],_ :: _,_,_,h=>by simp [shOk] at h
  | (_,_,_) :: _,[],_,_,h=>by simp [shOk] at h
def hCall (P : Program) (ow : OwK) (pr : Bool) (H Q : Sy) (d : Option Nat) (f : FuncId) (args : List Operand) (ts : List TypeId) : HR :=
  match shOf P ow f,sArgs false P args ts H with
  | some sh,some (p,as0,H1)=>if sh.all (fun x=>x.2.2) && (!pr || noSl sh) && decide (f < 1000000∧ow.pf.contains f = false∧ow.cf.contains f = false∧(alook ow.nf f).isNone = true) then
      some (p.map .po ++ [.call f as0 sh],(H1.bind (shLen sh)).put d (resSV (hvS sh H1.m)),(sResL false sh H1.m { Q with m:=(H1.bind (shLen sh)).m }).2.put d (resSV (sResL false sh H1.m { Q with m:=(H1.bind (shLen sh)).m }).1)) else none
  | _,_=>none
theorem hCall_ok {f : FuncId} {args : Array Operand} {ts : Array TypeId} (ho : o.op = .call ⟨.value (.func f),args,ts⟩) (hh : hCall P ow pr H Q o.dst f args.toList ts.toList = some (n,H',Q')) (hr : Rel H ρ σh h) (hq : Rel Q ρ σq q) (hp : Pre σh σq) (hw : WN P n K ρ) : HGoes P pr h q σh o H' Q' K:=by
  unfold hCall at hh
  split at hh
  · rename_i sh p as0 H1 hsh has
    split at hh
    · rename_i hall
      rw [Bool.and_eq_true,decide_eq_true_eq] at hall
      obtain ⟨hall,hf6,-⟩:=hall
      simp only [Bool.and_eq_true,Bool.or_eq_true,Bool.not_eq_true'] at hall
      injection hh with hh;injection hh with e1 hh;injection hh with e2 e3;subst e1 e2 e3
      obtain ⟨ρ1,he,hw2⟩:=wn_po (wn_app hw)
      simp only [WN] at hw2
      obtain ⟨ys,res,w1,w2,w3,w4⟩:=hw2
      have w2:=w2.plain hf6
      obtain ⟨ys',y1,y2,y3,y4⟩:=sArgs_ok has he hr
      rw [w1] at y1;injection y1 with y1;subst y1
      have hlen:=shOk_len w3
      have hown : ∀ r ∈ res,r.2.2 = true:=shOk_own w3 fun x hx=>List.all_eq_true.1 hall.1 x hx
      have hb:=y4.bind (out:=flatR res) hlen
      have hrd : RD (ρ1 ++ flatR res) (vars H1.m (flatR res).length) (flatR res):=vars_rd' y4.m rfl
      have hq1 : Rel { Q with m:=(H1.bind (shLen sh)).m } (ρ1 ++ flatR res) σq q:=by
        rw [← hb.m];exact hq.sync ((evalPs_pre he).trans (Pre.app _ _))
      obtain ⟨σ',p1,p2,p3⟩:=sResL_ok (m:=H1.m) w3 hrd hq1
      refine ⟨_,σ',.c res,hvRes res,_,.inr (.inl ⟨f,args,ts,ys,res,ho,w2,y2 rfl,List.all_eq_true.2 hown,fun hpr=>?_,rfl,rfl,rfl⟩),hb.put (hvRes_rv (hvS_ok w3 hrd)),p2.put (resSV_ok p3),hp.trans p1,w4⟩
      rcases hall.2 with h1 | h1
      · rw [hpr] at h1;cases h1
      · exact noSl_ok h1 w3
    · cases hh
  · cases hh
def hCallR (P : Program) (ow : OwK) (pr : Bool) (H Q : Sy) (d : Option Nat) (f : FuncId) (args : List Operand) (ts : List TypeId) : HR :=
  if pr then none else match shOf P ow f,sArgs true P args ts H with
  | some [(b,ss,false)],some (p,as0,H1)=>if f < 1000000 then
      some (p.map .po ++ [.call f as0 [(b,ss,false)]],(H1.bind (shLen [(b,ss,false)])).put d (resSV (hvS [(b,ss,false)] H1.m)),Sy.del { Q with m:=(H1.bind (shLen [(b,ss,false)])).m } d) else none
  | _,_=>none
theorem hCallR_ok {f : FuncId} {args : Array Operand} {ts : Array TypeId} (ho : o.op = .call ⟨.value (.func f),args,ts⟩) (hh : hCallR P ow pr H Q o.dst f args.toList ts.toList = some (n,H',Q')) (hr : Rel H ρ σh h) (hq : Rel Q ρ σq q) (hp : Pre σh σq) (hw : WN P n K ρ) : HGoes P pr h q σh o H' Q' K:=by
  unfold hCallR at hh
  split at hh
  · cases hh
  · rename_i hpr
    split at hh
    · rename_i b ss p as0 H1 hsh has
      split at hh
      · rename_i hf6
        injection hh with hh;injection hh with e1 hh;injection hh with e2 e3;subst e1 e2 e3
        obtain ⟨ρ1,he,hw2⟩:=wn_po (wn_app hw)
        simp only [WN] at hw2
        obtain ⟨ys,res,w1,w2,w3,w4⟩:=hw2
        have w2:=w2.plain hf6
        obtain ⟨ys',y1,y2,y3,y4⟩:=sArgs_ok has he hr
        rw [w1] at y1;injection y1 with y1;subst y1
        have hlen:=shOk_len w3
        have hb:=y4.bind (out:=flatR res) hlen
        have hrd : RD (ρ1 ++ flatR res) (vars H1.m (flatR res).length) (flatR res):=vars_rd' y4.m rfl
        have hq1 : Rel { Q with m:=(H1.bind (shLen [(b,ss,false)])).m } (ρ1 ++ flatR res) σq q:=by
          rw [← hb.m];exact hq.sync ((evalPs_pre he).trans (Pre.app _ _))
        match res,w3 with
        | [(b',ds,ow')],w3 =>
          have how : ow' = false:=by
            simp only [shOk,Bool.and_eq_true,beq_iff_eq] at w3
            simp_all
          subst how
          refine ⟨_,σq,.v (hvRes [(b',ds,false)]),hvRes [(b',ds,false)],q.put o.dst (finV pr (hvRes [(b',ds,false)])),.inr (.inr (.inr (.inr (.inr (.inr (.inr ⟨f,args,ts,ys,(b',ds,false),ho,by simpa using hpr,w2,y3 rfl,rfl,rfl,rfl,rfl⟩)))))),hb.put (hvRes_rv (hvS_ok w3 hrd)),hq1.del,hp,w4⟩
        | [],w3=>simp [shOk] at w3
        | _ :: _ :: _,w3=>simp [shOk] at w3
      · cases hh
    · cases hh
end
end Go.Proofs.Ytkeoohonidpjeaa
namespace Go.Proofs.Ytkeoohonidpjeaa
open Go.RowKit
section
variable {P : Program} {R : List (Bool × List DV)→Prop} {N : Nat} {ow : OwK} {ρ ρ' : List DV} {σ σ' σh σq : List Nat} {S S' H Q H' Q' : Sy} {s s' h q : AS} {ps : List PO} {o : Oper} {K : List DV→Prop} {n : List Nd} {L : Lbl} {pr : Bool}
def dIdx : List SC→Option (List Nat)
  | []=>some []
  | .d i :: r=>(match dIdx r with | some l=>some (i :: l) | none=>none)
  | _ :: _=>none
def dIdxL : List (List SC)→Option (List (List Nat))
  | []=>some []
  | e :: r=>(match dIdx e,dIdxL r with | some x,some l=>some (x :: l) | _,_=>none)
theorem dIdx_ok : ∀ {cs : List SC} {xs : List Nat} {ys : List AC},dIdx cs = some xs→RCs ρ σ cs ys→∃ ds,dL ys = some ds∧RD ρ xs ds
  | [],xs,ys,hh,hc=>by
    simp only [dIdx] at hh;injection hh with hh;subst hh
    cases ys with
    | nil=>exact ⟨[],rfl,trivial⟩
    | cons=>exact hc.elim
  | c :: r,xs,[],hh,hc=>hc.elim
  | .d i :: r,xs,y :: ys,hh,hc=>by
    simp only [dIdx] at hh
    split at hh
    · rename_i l hl
      injection hh with hh;subst hh
      obtain ⟨x,rfl,hx⟩:=rc_d hc.1
      obtain ⟨ds,d1,d2⟩:=dIdx_ok hl hc.2
      exact ⟨x :: ds,by simp only [dL,d1],hx,d2⟩
    · cases hh
  | .nil :: r,xs,y :: ys,hh,hc=>by simp [dIdx] at hh
  | .own _ _ :: r,xs,y :: ys,hh,hc=>by simp [dIdx] at hh
  | .ptr _ _ _ :: r,xs,y :: ys,hh,hc=>by simp [dIdx] at hh
  | .elt _ _ _ _ _ :: r,xs,y :: ys,hh,hc=>by simp [dIdx] at hh
  | .sub _ _ _ _ _ :: r,xs,y :: ys,hh,hc=>by simp [dIdx] at hh
  | .emp :: r,xs,y :: ys,hh,hc=>by simp [dIdx] at hh
  | .rd _ :: r,xs,y :: ys,hh,hc=>by simp [dIdx] at hh
theorem dIdxL_ok : ∀ {es : List (List SC)} {rows : List (List Nat)} {ys : List (List AC)},dIdxL es = some rows→RLL ρ σ es ys→∃ ds,dLL ys = some ds∧∀ ρ',Pre ρ ρ'→gLL ρ' rows = some ds
  | [],rows,ys,hh,hc=>by
    simp only [dIdxL] at hh;injection hh with hh;subst hh
    cases ys with
    | nil=>exact ⟨[],rfl,fun _ _=>rfl⟩
    | cons=>exact hc.elim
  | e :: r,rows,[],hh,hc=>hc.elim
  | e :: r,rows,y :: ys,hh,hc=>by
    simp only [dIdxL] at hh
    split at hh
    · rename_i x l h1 h2
      injection hh with hh;subst hh
      obtain ⟨d,d1,d2⟩:=dIdx_ok h1 hc.1
      obtain ⟨ds,d3,d4⟩:=dIdxL_ok h2 hc.2
      exact ⟨d :: ds,by simp only [dLL,d1,d3],fun ρ' hp=>by simp only [gLL,d2.app_pre hp,d4 ρ' hp]⟩
    · cases hh
def hLit (P : Program) (pr : Bool) (H Q : Sy) (d : Option Nat) (t : TypeId) (len : Nat) (parts : List (Nat × Operand)) : HR :=
  if pr then none else (match tel P t with
  | some (el,k)=>if (tzero P el).isSome = true∧0 < k∧parts.length = len∧len * k≤16777216 then (match sBs k parts 0 H with
    | some (p,es,H1)=>(match sBs k parts 0 { Q with m:=H1.m } with
      | some (p2,esq,Q1)=>if es.isEmpty then some ((p ++ p2).map .po,{ H1 with m:=Q1.m }.put d (.p false [.emp]),(Q1.push (.arr Q1.c el k esq)).put d (.p false [.own Q1.n Q1.c])) else (match dIdxL es with
        | some rows=>some ((p ++ (p2 ++ [PO.mk el k rows])).map .po,({ H1 with m:=Q1.m }.bind 1).put d (.p false [.d Q1.m]),((Q1.bind 1).push (.arr Q1.c el k esq)).put d (.p false [.own Q1.n Q1.c]))
        | none=>some ((p ++ p2).map .po,{ H1 with m:=Q1.m }.del d,(Q1.push (.arr Q1.c el k esq)).put d (.p false [.own Q1.n Q1.c])))
      | none=>none)
    | none=>none) else none
  | none=>none)
theorem hLit_ok {t : TypeId} {len : Nat} {parts : Array (Nat × Operand)} (ho : o.op = .buildSlice t len parts) (hh : hLit P pr H Q o.dst t len parts.toList = some (n,H',Q')) (hr : Rel H ρ σh h) (hq : Rel Q ρ σq q) (hp : Pre σh σq) (hw : WN P n K ρ) : HGoes P pr h q σh o H' Q' K:=by
  unfold hLit at hh
  split at hh
  · cases hh
  · rename_i hpr
    split at hh
    · rename_i el k ht
      split at hh
      · rename_i hc
        obtain ⟨hz,hk,hl,hs⟩:=hc
        split at hh
        · rename_i p es H1 h1
          split at hh
          · rename_i p2 esq Q1 h2
            split at hh
            · rename_i hem
              injection hh with hh;injection hh with e1 hh;injection hh with e2 e3;subst e1 e2 e3
              obtain ⟨ρ',he,hK⟩:=wn_po hw
              obtain ⟨ρ1,a1,b1⟩:=evalPs_app he
              obtain ⟨ys,y1,y2,y3⟩:=sBs_ok h1 a1 hr
              have hq1 : Rel { Q with m:=H1.m } ρ1 σq q:=by rw [← y3.m];exact hq.sync (evalPs_pre a1)
              obtain ⟨zs,z1,z2,z3⟩:=sBs_ok h2 b1 hq1
              have hr2 : Rel { H1 with m:=Q1.m } ρ' σh h:=by rw [← z3.m];exact y3.sync (evalPs_pre b1)
              have hys : ys = []:=by
                cases es with
                | nil=>cases ys with
                  | nil=>rfl
                  | cons=>exact y2.elim
                | cons=>simp at hem
              subst hys
              exact ⟨_,σq ++ [q.c],.b el k parts.toList,bView el k [],(q.push (.arr q.c el k zs)).put o.dst (.p false [.own q.n q.c]),.inr (.inr (.inl ⟨t,len,parts,el,k,[],zs,ho,by simpa using hpr,ht,hz,hk,hl,hs,y1,z1,rfl,rfl,rfl⟩)),hr2.put (v:=.p false [.emp]) (x:=bView el k []) ⟨rfl,trivial,trivial⟩,
                (z3.push (so:=.arr Q1.c el k esq) (ob:=.arr q.c el k zs) ⟨z3.last _,rfl,rfl,RLL.mono (Pre.refl _) (Pre.app _ _) z2⟩).put ⟨rfl,⟨z3.n,z3.last _⟩,trivial⟩,hp.trans (Pre.app _ _),hK⟩
            rename_i hem
            split at hh
            · rename_i rows hrows
              injection hh with hh;injection hh with e1 hh;injection hh with e2 e3;subst e1 e2 e3
              obtain ⟨ρ',he,hK⟩:=wn_po hw
              obtain ⟨ρ1,a1,a2⟩:=evalPs_app he
              obtain ⟨ρ2,b1,b2⟩:=evalPs_app a2
              obtain ⟨ys,y1,y2,y3⟩:=sBs_ok h1 a1 hr
              have hq1 : Rel { Q with m:=H1.m } ρ1 σq q:=by rw [← y3.m];exact hq.sync (evalPs_pre a1)
              obtain ⟨zs,z1,z2,z3⟩:=sBs_ok h2 b1 hq1
              obtain ⟨ds,d1,d2⟩:=dIdxL_ok hrows y2
              obtain ⟨out,o1,rfl⟩:=evalPs_one b2
              have hm:=z3.m
              simp only [evalP,d2 ρ2 (evalPs_pre b1)] at o1
              split at o1
              · injection o1 with o1;subst o1
                have hr2 : Rel { H1 with m:=Q1.m } ρ2 σh h:=by rw [← hm];exact y3.sync (evalPs_pre b1)
                refine ⟨_,σq ++ [q.c],.b el k parts.toList,bView el k ys,(q.push (.arr q.c el k zs)).put o.dst (.p false [.own q.n q.c]),.inr (.inr (.inl ⟨t,len,parts,el,k,ys,zs,ho,by simpa using hpr,ht,hz,hk,hl,hs,y1,z1,rfl,rfl,rfl⟩)),?_,?_,hp.trans (Pre.app _ _),hK⟩
                · refine (hr2.bind (out:=[DV.sl el k ds]) (k:=1) rfl).put ?_
                  have hyne : ys.isEmpty = false:=by
                    cases ys with
                    | nil=>cases es with
                      | nil=>simp at hem
                      | cons=>exact y2.elim
                    | cons=>rfl
                  unfold bView;rw [hyne,d1]
                  exact ⟨rfl,by show (_ : List DV)[_]? = _;rw [← hm];simp,trivial⟩
                · have hb:=z3.bind (out:=[DV.sl el k ds]) (k:=1) rfl
                  exact (hb.push (so:=.arr Q1.c el k esq) (ob:=.arr q.c el k zs) ⟨hb.last _,rfl,rfl,RLL.mono (Pre.app _ _) (Pre.app _ _) z2⟩).put ⟨rfl,⟨z3.n,hb.last _⟩,trivial⟩
              · cases o1
            · injection hh with hh;injection hh with e1 hh;injection hh with e2 e3;subst e1 e2 e3
              obtain ⟨ρ',he,hK⟩:=wn_po hw
              obtain ⟨ρ1,a1,b1⟩:=evalPs_app he
              obtain ⟨ys,y1,y2,y3⟩:=sBs_ok h1 a1 hr
              have hq1 : Rel { Q with m:=H1.m } ρ1 σq q:=by rw [← y3.m];exact hq.sync (evalPs_pre a1)
              obtain ⟨zs,z1,z2,z3⟩:=sBs_ok h2 b1 hq1
              have hr2 : Rel { H1 with m:=Q1.m } ρ' σh h:=by rw [← z3.m];exact y3.sync (evalPs_pre b1)
              exact ⟨_,σq ++ [q.c],.b el k parts.toList,bView el k ys,(q.push (.arr q.c el k zs)).put o.dst (.p false [.own q.n q.c]),.inr (.inr (.inl ⟨t,len,parts,el,k,ys,zs,ho,by simpa using hpr,ht,hz,hk,hl,hs,y1,z1,rfl,rfl,rfl⟩)),hr2.del,
                (z3.push (so:=.arr Q1.c el k esq) (ob:=.arr q.c el k zs) ⟨z3.last _,rfl,rfl,RLL.mono (Pre.refl _) (Pre.app _ _) z2⟩).put ⟨rfl,⟨z3.n,z3.last _⟩,trivial⟩,hp.trans (Pre.app _ _),hK⟩
          · cases hh
        · cases hh
      · cases hh
    · cases hh
def sHead (P : Program) (ow : OwK) (pr : Bool) (H Q : Sy) (o : Oper) : HR :=
  match o.op with
  | .alloc t=>hAlloc P pr H Q o.dst t
  | .buildSlice t len parts=>hLit P pr H Q o.dst t len parts.toList
  | .call ⟨.value (.func f),args,ts⟩=>(match hCall P ow pr H Q o.dst f args.toList ts.toList with | some r=>some r | none=>hCallR P ow pr H Q o.dst f args.toList ts.toList)
  | _=>hMov P pr H Q o
theorem sHead_ok (hh : sHead P ow pr H Q o = some (n,H',Q')) (hr : Rel H ρ σh h) (hq : Rel Q ρ σq q) (hp : Pre σh σq) (hw : WN P n K ρ) : HGoes P pr h q σh o H' Q' K:=by
  unfold sHead at hh
  split at hh
  · rename_i t ho;exact hAlloc_ok ho hh hr hq hp hw
  · rename_i t len parts ho;exact hLit_ok ho hh hr hq hp hw
  · rename_i f args ts ho
    split at hh
    · rename_i r hr'
      injection hh with hh;subst hh
      exact hCall_ok ho hr' hr hq hp hw
    · exact hCallR_ok ho hh hr hq hp hw
  · exact hMov_ok hh hr hq hp hw
def eEmp (v : SV) : Bool:=match one v with
  | some .emp=>true
  | _=>false
theorem eEmp_ok {v : SV} {x : AV} (h : eEmp v = true) (hv : RV ρ σ v x) : isEmp x = true:=by
  unfold eEmp at h
  split at h
  · rename_i hc
    obtain ⟨y,rfl,hy⟩:=one_rv hc hv
    cases y <;> first | exact hy.elim | rfl
  · cases h
def hApp (P : Program) (pr : Bool) (H Q : Sy) (o : Oper) : Option (List PO × Nat × (Sy × Sy) × (List PO × Sy × Sy)) :=
  match o.op with
  | .call ⟨.builtin .append,⟨[X,Y]⟩,⟨[t,t']⟩⟩=>if t' = t∧pr = false then (match tel P t with
    | some (el,k)=>(match tzero P el,tby P el with
      | some zs,some b=>if zs.length = k∧0 < k then (match sev H X with
        | some (pX,vX,H1)=>if eEmp vX then (match sev { Q with m:=H1.m } X with
          | some (qX,uX,Q1)=>(match sev { H1 with m:=Q1.m } Y with
            | some (pY,vY,H2)=>(match one vY with
              | some cY=>(match sRd false [cY] [some (el,k)] H2 with
                | some (pR,[y],H3)=>some (pX ++ (qX ++ (pY ++ (pR ++ [PO.emp y]))),H3.m,
                    (({ (H3.bind 1) with kn:=(H3.m,true) :: H3.kn }).put o.dst vX,({ Q1 with m:=H3.m + 1,kn:=(H3.m,true) :: Q1.kn }).put o.dst uX),
                    ([PO.e el k,PO.flat y,PO.app el k b (H3.m + 1) y],({ (H3.bind 3) with kn:=(H3.m,false) :: H3.kn }).put o.dst (.p false [.d (H3.m + 2)]),
                      (({ Q1 with m:=H3.m + 3,kn:=(H3.m,false) :: Q1.kn }).push (.row Q1.c el k (H3.m + 2))).put o.dst (.p false [.own Q1.n Q1.c])))
                | _=>none)
              | none=>none)
            | none=>none)
          | none=>none) else none
        | none=>none) else none
      | _,_=>none)
    | none=>none) else none
  | _=>none
theorem hApp_ok {pre fs : List PO} {i : Nat} {H1 Q1 H2 Q2 : Sy} {a b : Pg} (hh : hApp P pr H Q o = some (pre,i,(H1,Q1),(fs,H2,Q2))) (hr : Rel H ρ σh h) (hq : Rel Q ρ σq q) (hp : Pre σh σq) (hw : W P R (nds (pre.map .po) (.ite i a (nds (fs.map .po) b))) L ρ) :
    ∃ ρ' σq' kd x q' H' Q' g,HRun P pr h q o kd x q'∧Rel H' ρ' σh (h.put o.dst x)∧Rel Q' ρ' σq' q'∧Pre σh σq'∧((H' = H1∧Q' = Q1∧g = a) ∨ (H' = H2∧Q' = Q2∧g = b))∧W P R g L ρ'∧Pre ρ ρ':=by
  unfold hApp at hh
  split at hh
  · rename_i X Y t t' hop
    split at hh
    · rename_i htp
      obtain ⟨rfl,hpr⟩:=htp
      split at hh
      · rename_i el k ht
        split at hh
        · rename_i zs b' hz hby
          split at hh
          · rename_i hzk
            split at hh
            · rename_i pX vX S1 hX
              split at hh
              · rename_i hE
                split at hh
                · rename_i qX uX T1 hX2
                  split at hh
                  · rename_i pY vY S2 hY
                    split at hh
                    · rename_i cY hcY
                      split at hh
                      · rename_i pR y S3 hR
                        injection hh with hh;injection hh with e1 hh;injection hh with e2 hh;injection hh with e3 e4
                        injection e3 with e3 e5;injection e4 with e4 e6;injection e6 with e6 e7
                        subst e1 e2 e3 e4 e5 e6 e7
                        obtain ⟨ρ1,he,hw2,hp1⟩:=wn_po (w_nds hw)
                        obtain ⟨ρa,a1,a2⟩:=evalPs_app he
                        obtain ⟨ρb,b1,b2⟩:=evalPs_app a2
                        obtain ⟨ρc,c1,c2⟩:=evalPs_app b2
                        obtain ⟨ρd,d1,d2⟩:=evalPs_app c2
                        obtain ⟨x1,x2⟩:=sev_ok hX a1 hr
                        have hqa : Rel { Q with m:=S1.m } ρa σq q:=by rw [← x2.m];exact hq.sync (evalPs_pre a1)
                        obtain ⟨u1,u2⟩:=sev_ok hX2 b1 hqa
                        have hhb : Rel { S1 with m:=T1.m } ρb σh h:=by rw [← u2.m];exact x2.sync (evalPs_pre b1)
                        obtain ⟨y1,y2⟩:=sev_ok hY c1 hhb
                        obtain ⟨yc,g1,g2⟩:=one_rv hcY y1
                        obtain ⟨ds,r1,r2,-,r4⟩:=sRd_ok hR d1 y2 (ys:=[yc]) ⟨g2,trivial⟩
                        match ds,r1,r2 with
                        | [d],r1,r2 =>
                        obtain ⟨out,o1,rfl⟩:=evalPs_one d2
                        simp only [evalP,r1.1] at o1
                        split at o1
                        · rename_i t2 k2 es hd
                          injection hd with hd;subst hd
                          injection o1 with o1;subst o1
                          have hrd : rdC h yc (.sl t2 k2 es):=(r2 rfl).1
                          have hop' : o.op = .call ⟨.builtin .append,#[X,Y],#[t',t']⟩:=hop
                          have hm3 : ρd.length = S3.m:=r4.m
                          have pbd : Pre ρb (ρd ++ [.sc (.bool es.isEmpty)]):=(evalPs_pre c1).trans ((evalPs_pre d1).trans (Pre.app _ _))
                          have hki : (ρd ++ [DV.sc (.bool es.isEmpty)])[S3.m]? = some (.sc (.bool es.isEmpty)):=by rw [← hm3];simp
                          have hXe:=eEmp_ok hE x1
                          simp only [W,hki] at hw2
                          have hQ1 : Rel { T1 with m:=S3.m + 1 } (ρd ++ [DV.sc (.bool es.isEmpty)]) σq q:=by
                            have:=u2.sync pbd
                            rw [show (ρd ++ [DV.sc (.bool es.isEmpty)]).length = S3.m + 1 by simp [hm3]] at this
                            exact this
                          have hH1 : Rel (S3.bind 1) (ρd ++ [DV.sc (.bool es.isEmpty)]) σh h:=r4.bind rfl
                          have pad : Pre ρa (ρd ++ [.sc (.bool es.isEmpty)]):=(evalPs_pre b1).trans pbd
                          cases hes : es.isEmpty with
                          | true =>
                            have hnil : es = []:=by simpa using hes
                            subst hnil
                            simp only [List.isEmpty_nil] at hw2 hki hQ1 hH1 pbd pad hp1
                            refine ⟨_,σq,.p o.op,h.ev X,q.put o.dst (q.ev X),_,_,_,.inr (.inr (.inr (.inr (.inr (.inr (.inl ⟨X,Y,t',el,k,yc,t2,k2,hop',hpr,ht,hXe,g1,hrd,rfl,rfl,rfl⟩)))))),?_,?_,hp,.inl ⟨rfl,rfl,rfl⟩,hw2,hp1⟩
                            · exact (hH1.know hki).put (x1.mono pad (Pre.refl _))
                            · exact (hQ1.know hki).put (u1.mono pbd (Pre.refl _))
                          | false =>
                            rw [hes] at hw2 hki hQ1 hH1 pbd pad hp1
                            simp only at hw2
                            obtain ⟨ρ2,k1,hw3,hp2⟩:=wn_po (w_nds hw2)
                            obtain ⟨ρe,f1,f2⟩:=evalPs_app (ps:=[PO.e el k]) (qs:=[PO.flat y,PO.app el k b' (S3.m + 1) y]) k1
                            obtain ⟨oute,oe,rfl⟩:=evalPs_one f1
                            simp only [evalP] at oe;injection oe with oe;subst oe
                            obtain ⟨ρf,f3,f4⟩:=evalPs_app (ps:=[PO.flat y]) (qs:=[PO.app el k b' (S3.m + 1) y]) f2
                            obtain ⟨rfl,hfl⟩:=flat_eval f3
                            obtain ⟨es1,fs1,t3,q1,q2,q3,q4,rfl⟩:=app_eval f4
                            have hy2 : (ρd ++ [DV.sc (.bool false)] ++ [DV.sl el k []])[y]? = some (.sl t2 k2 es):=((Pre.app _ _).trans (Pre.app _ _)).get r1.1
                            rw [hy2] at q2;injection q2 with q2;injection q2 with q2 q2' q2''
                            subst q2 q2' q2''
                            have h0 : (ρd ++ [DV.sc (.bool false)] ++ [DV.sl el k2 []])[S3.m + 1]? = some (.sl el k2 []):=by rw [← hm3];simp
                            rw [h0] at q1;injection q1 with q1;injection q1 with _ _ q1
                            subst q1
                            simp only [List.length_nil,Nat.zero_add,List.nil_append] at q3 q4 hw3 hp2
                            have hne : es ≠ []:=by intro e;subst e;simp at hes
                            have hlen : (ρd ++ [DV.sc (.bool false)] ++ [DV.sl el k2 []] ++ [DV.sl el k2 es]).length = S3.m + 3:=by simp [hm3]
                            have p2 : Pre (ρd ++ [DV.sc (.bool false)]) (ρd ++ [DV.sc (.bool false)] ++ [DV.sl el k2 []] ++ [DV.sl el k2 es]):=(Pre.app _ _).trans (Pre.app _ _)
                            have hx2 : (ρd ++ [DV.sc (.bool false)] ++ [DV.sl el k2 []] ++ [DV.sl el k2 es])[S3.m + 2]? = some (.sl el k2 es):=by rw [← hm3];simp
                            have hHH:=(hH1.know hki).sync p2
                            have hQQ:=(hQ1.know hki).sync p2
                            rw [hlen] at hHH hQQ
                            refine ⟨_,σq ++ [q.c],.c _,_,_,_,_,_,.inr (.inr (.inr (.inr (.inr (.inl ⟨X,Y,t',el,k2,b',yc,t2,es,zs,_,hop',hpr,ht,hz,hzk.1,hzk.2,hby,hXe,g1,hrd,hne,hfl _ _ _ hy2,q3,q4,rfl,rfl,rfl,rfl⟩))))),?_,?_,hp.trans (Pre.app _ _),.inr ⟨rfl,rfl,rfl⟩,hw3,hp1.trans hp2⟩
                            · exact hHH.put (v:=.p false [.d (S3.m + 2)]) ⟨rfl,hx2,trivial⟩
                            · exact (hQQ.push (so:=.row T1.c el k2 (S3.m + 2)) (ob:=.row q.c el k2 es true) ⟨hQQ.last _,rfl,rfl,rfl,hx2⟩).put ⟨rfl,⟨hQQ.n,hQQ.last _⟩,trivial⟩
                        · cases o1
                      · cases hh
                    · cases hh
                  · cases hh
                · cases hh
              · cases hh
            · cases hh
          · cases hh
        · cases hh
      · cases hh
    · cases hh
  · cases hh
def hrun (P : Program) (ow : OwK) (pr : Bool) (o : Oper) (H Q : Sy) (k : Sy→Sy→Option Pg) : Option Pg:=match hApp P pr H Q o with
  | some (pre,i,(H1,Q1),(fs,H2,Q2))=>(match k H1 Q1,k H2 Q2 with | some a,some b=>some (nds (pre.map .po) (.ite i a (nds (fs.map .po) b))) | _,_=>none)
  | none=>match sHead P ow pr H Q o with | some (n,H',Q')=>(match k H' Q' with | some g=>some (nds n g) | none=>none) | none=>none
def genH (P : Program) (N : Nat) (ow : OwK) (pr : Bool) (ops : Array Oper) (k : Sy→Option Pg) : List Oper→Sy→Sy→Option Pg
  | [],H,Q=>k Q
  | o :: r,H,Q=>(match o.dst with
    | some d=>if d < N then (match o.guard with
      | none=>hrun P ow pr o H Q fun H' Q'=>genH P N ow pr ops k r H' Q'
      | some (g,want)=>(match gslot ops g with
        | some t=>if t < N then (match alook H.sl t with
          | some (.tup [])=>genH P N ow pr ops k r (H.put o.dst (.tup [])) (Q.del o.dst)
          | some (.p false [.d i])=>(match alook H.kn i with
            | some b=>if b = want then hrun P ow pr o H Q fun H' Q'=>genH P N ow pr ops k r H' Q' else genH P N ow pr ops k r (H.put o.dst (.tup [])) (Q.del o.dst)
            | none=>(match (hrun P ow pr o { H with kn:=(i,want) :: H.kn } { Q with kn:=(i,want) :: Q.kn } fun H' Q'=>genH P N ow pr ops k r H' Q'),genH P N ow pr ops k r ({ H with kn:=(i,!want) :: H.kn }.put o.dst (.tup [])) ({ Q with kn:=(i,!want) :: Q.kn }.del o.dst) with
              | some a,some b=>some (if want then .ite i a b else .ite i b a)
              | _,_=>none))
          | _=>none) else none
        | none=>none)) else none
    | none=>none)
theorem hrun_pg {k : Sy→Sy→Option Pg} {pg : Pg} (hh : hrun P ow pr o H Q k = some pg) (hr : Rel H ρ σh h) (hq : Rel Q ρ σq q) (hp : Pre σh σq) (hw : W P R pg L ρ) :
    ∃ ρ' σq' kd x q' H' Q' g,HRun P pr h q o kd x q'∧Rel H' ρ' σh (h.put o.dst x)∧Rel Q' ρ' σq' q'∧Pre σh σq'∧k H' Q' = some g∧W P R g L ρ'∧Pre ρ ρ':=by
  unfold hrun at hh
  split at hh
  · rename_i pre i H1 Q1 fs H2 Q2 ho
    split at hh
    · rename_i ga gb h1 h2
      injection hh with hh;subst hh
      obtain ⟨ρ',σq',kd,x,q',H',Q',g,k1,k2,k3,k4,k5,k6,k7⟩:=hApp_ok ho hr hq hp hw
      refine ⟨ρ',σq',kd,x,q',H',Q',g,k1,k2,k3,k4,?_,k6,k7⟩
      rcases k5 with ⟨rfl,rfl,rfl⟩ | ⟨rfl,rfl,rfl⟩
      · exact h1
      · exact h2
    · cases hh
  · split at hh
    · rename_i n H' Q' ho
      split at hh
      · rename_i g hg
        injection hh with hh;subst hh
        obtain ⟨ρ',σq',kd,x,q',h1,h2,h3,h4,h5,h6⟩:=sHead_ok ho hr hq hp (w_nds hw)
        exact ⟨ρ',σq',kd,x,q',H',Q',g,h1,h2,h3,h4,hg,h5,h6⟩
      · cases hh
    · cases hh
theorem genH_ok {ops : Array Oper} {k : Sy→Option Pg} : ∀ {l : List Oper} {H Q : Sy} {pg : Pg} {ρ : List DV} {σq : List Nat} {h q : AS},genH P N ow pr ops k l H Q = some pg→Rel H ρ σh h→Rel Q ρ σq q→Pre σh σq→W P R pg L ρ →
    ∃ kds xs qF S' ρ' σ' g,Heads P N pr ops l h q kds xs qF∧Rel S' ρ' σ' qF∧k S' = some g∧W P R g L ρ'∧Pre ρ ρ'
  | [],H,Q,pg,ρ,σq,h,q,hh,hr,hq,hp,hw=>⟨[],[],q,Q,ρ,σq,pg,rfl,hq,hh,hw,Pre.refl _⟩
  | o :: r,H,Q,pg,ρ,σq,h,q,hh,hr,hq,hp,hw=>by
    simp only [genH] at hh
    split at hh
    · rename_i d hd
      split at hh
      · rename_i hdN
        have run : ∀ {H Q : Sy} {pg : Pg} {ρ0 : List DV},Pre ρ0 ρ→(hrun P ow pr o H Q fun H' Q'=>genH P N ow pr ops k r H' Q') = some pg→Rel H ρ σh h→Rel Q ρ σq q→W P R pg L ρ→(∀ kd x q1,HRun P pr h q o kd x q1→HStp P N pr ops h q o kd x q1 o.guard) →
            ∃ kds xs qF S' ρ' σ' g,Heads P N pr ops (o :: r) h q kds xs qF∧Rel S' ρ' σ' qF∧k S' = some g∧W P R g L ρ'∧Pre ρ0 ρ':=by
          intro H Q pg ρ0 hp0 hh hr hq hw hst
          obtain ⟨ρ1,σq1,kd,x,q1,H1,Q1,g1,r1,r2,r3,r4,r5,r6,r7⟩:=hrun_pg hh hr hq hp hw
          obtain ⟨kds,xs,qF,S',ρ',σ',g,f1,f2,f3,f4,f5⟩:=genH_ok r5 r2 r3 r4 r6
          exact ⟨kd :: kds,x :: xs,qF,S',ρ',σ',g,⟨⟨d,hd,hdN⟩,q1,hst kd x q1 r1,f1⟩,f2,f3,f4,hp0.trans (r7.trans f5)⟩
        have skip : ∀ {H Q : Sy} {pg : Pg},genH P N ow pr ops k r (H.put o.dst (.tup [])) (Q.del o.dst) = some pg→Rel H ρ σh h→Rel Q ρ σq q→W P R pg L ρ→HStp P N pr ops h q o (.v (.tup [])) (.tup []) (q.put o.dst (finV pr (.tup []))) o.guard →
            ∃ kds xs qF S' ρ' σ' g,Heads P N pr ops (o :: r) h q kds xs qF∧Rel S' ρ' σ' qF∧k S' = some g∧W P R g L ρ'∧Pre ρ ρ':=by
          intro H Q pg hh hr hq hw hst
          obtain ⟨kds,xs,qF,S',ρ',σ',g,f1,f2,f3,f4,f5⟩:=genH_ok hh (hr.put (v:=.tup []) (x:=.tup []) trivial) (hq.del (x:=finV pr (.tup []))) hp hw
          exact ⟨_ :: kds,_ :: xs,qF,S',ρ',σ',g,⟨⟨d,hd,hdN⟩,_,hst,f1⟩,f2,f3,f4,f5⟩
        split at hh
        · rename_i hg
          exact run (Pre.refl _) hh hr hq hw (fun kd x q1 hR=>by rw [hg];exact hR)
        · rename_i gi want hg
          split at hh
          · rename_i t hgs
            split at hh
            · rename_i htN
              split at hh
              · rename_i hi
                have hs : h.sl t = .tup []:=by
                  have:=hr.sl t _ hi
                  cases hx : h.sl t with
                  | tup ys=>rw [hx] at this;cases ys with
                    | nil=>rfl
                    | cons=>exact this.elim
                  | p=>rw [hx] at this;exact this.elim
                  | und=>rw [hx] at this;exact this.elim
                exact skip hh hr hq hw (by rw [hg];exact ⟨t,none,hgs,htN,hs,by rw [if_neg (fun e=>by cases e)];exact ⟨rfl,rfl,rfl⟩⟩)
              · rename_i i hi
                split at hh
                · rename_i b hb
                  have hs:=slot_bool hr hi (hr.kn i b hb)
                  split at hh
                  · rename_i e
                    exact run (Pre.refl _) hh hr hq hw (fun kd x q1 hR=>by rw [hg];exact ⟨t,some b,hgs,htN,hs,by rw [if_pos (by rw [e])];exact hR⟩)
                  · rename_i e
                    exact skip hh hr hq hw (by rw [hg];exact ⟨t,some b,hgs,htN,hs,by rw [if_neg (fun h=>e (Option.some.inj h))];exact ⟨rfl,rfl,rfl⟩⟩)
                · split at hh
                  · rename_i ga gb h1 h2
                    injection hh with hh;subst hh
                    have hw' : ∃ b,ρ[i]? = some (.sc (.bool b))∧(if b = want then W P R ga L ρ else W P R gb L ρ):=by
                      cases want with
                      | true =>
                        simp only [if_true,W] at hw
                        split at hw
                        · rename_i c hc
                          refine ⟨c,hc,?_⟩
                          cases c <;> simpa using hw
                        · exact hw.elim
                      | false =>
                        simp only [Bool.false_eq_true,if_false,W] at hw
                        split at hw
                        · rename_i c hc
                          refine ⟨c,hc,?_⟩
                          cases c <;> simpa using hw
                        · exact hw.elim
                    obtain ⟨b,hb,hw'⟩:=hw'
                    have hs:=slot_bool hr hi hb
                    split at hw'
                    · rename_i e;subst e
                      exact run (Pre.refl _) h1 (hr.know hb) (hq.know hb) hw' (fun kd x q1 hR=>by rw [hg];exact ⟨t,some b,hgs,htN,hs,by rw [if_pos rfl];exact hR⟩)
                    · rename_i e
                      have hb' : ρ[i]? = some (.sc (.bool (!want))):=by rw [hb];cases b <;> cases want <;> simp_all
                      exact skip h2 (hr.know hb') (hq.know hb') hw' (by rw [hg];exact ⟨t,some b,hgs,htN,hs,by rw [if_neg (fun h=>e (Option.some.inj h))];exact ⟨rfl,rfl,rfl⟩⟩)
                  · cases hh
              · cases hh
            · cases hh
          · cases hh
      · cases hh
    · cases hh
def sSet (P : Program) (S : Sy) (i : Nat) : Option (List PO × Sy) :=
  match alook S.ob i with
  | some (.arr st el k es)=>(match sGive es.flatten ((List.replicate es.length (tcl P 9 el)).flatten) S with
    | some (q,xs,S2)=>if xs.length = es.length * k then some (q ++ [PO.mk el k (chunk k es.length xs)],{ (S2.bind 1) with ob:=(i,.row st el k S2.m) :: S2.ob }) else none
    | none=>none)
  | _=>some ([],S)
theorem sSet_ok {i : Nat} (hh : sSet P S i = some (ps,S')) (he : evalPs ps ρ = some ρ') (hr : Rel S ρ σ s) : ∃ s',Re s s'∧Rel S' ρ' σ s':=by
  unfold sSet at hh
  split at hh
  · rename_i st el k es hob
    split at hh
    · rename_i qq xs S2 hg
      split at hh
      · rename_i hl
        injection hh with hh;injection hh with e1 e2;subst e1 e2
        obtain ⟨hlt,hro⟩:=hr.ob _ _ hob
        cases hx : s.ob i with
        | arr st' t' k' ys =>
          rw [hx] at hro
          obtain ⟨h1,rfl,rfl,h2⟩:=hro
          obtain ⟨ρ1,a1,a2⟩:=evalPs_app he
          obtain ⟨s2,ds,g1,g2,g3,g4⟩:=sGive_ok hg a1 hr h2.flat
          obtain ⟨ee,c1,c2,c3,c4⟩:=chunk_rd (n:=es.length) g2 hl
          have hob2 : s2.ob i = .arr st' t' k' ys:=by
            rw [g4 i (fun st a t k x h=>by unfold Sy.own at h;rw [hob] at h;simp only [Option.bind_some] at h;split at h <;> cases h)];exact hx
          have hn2 : s2.n = s.n:=g1.1
          have ho1 : s.own? i st' = some (.arr st' t' k' ys):=by unfold AS.own?;rw [hr.n,if_pos hlt,hx];simp [Ob.st]
          have ho2 : s2.own? i st' = some (.arr st' t' k' ys):=by unfold AS.own?;rw [hn2,hr.n,if_pos hlt,hob2];simp [Ob.st]
          refine ⟨{ s2 with ob:=upd s2.ob i (.row st' t' k' ee true) },fun w0 N a w E hR=>arr_rowG hR ho1 (by rw [c2];exact g1) (by rw [c3,h2.len]) c4 ho2,?_⟩
          obtain ⟨out,o1,rfl⟩:=evalPs_one a2
          rw [mk_eval c1 c4] at o1;injection o1 with o1;subst o1
          have hb:=g3.bind (out:=[DV.sl t' k' ee]) (k:=1) rfl
          refine hb.upd (s':={ s2 with ob:=upd s2.ob i (.row st' t' k' ee true) }) (i:=i) (n':=(S2.bind 1).n) (c':=(S2.bind 1).c) (so:=.row st t' k' S2.m) (Pre.refl _) hb.c hb.n (Nat.le_refl _) (by rw [← hb.n,hn2,hr.n];exact hlt) rfl (fun j hj=>upd_ne _ _ hj) ?_
          simp only [upd_same]
          exact ⟨h1,rfl,rfl,rfl,by rw [← g3.m];simp⟩
        | var=>rw [hx] at hro;exact hro.elim
        | row=>rw [hx] at hro;exact hro.elim
        | frz=>rw [hx] at hro;exact hro.elim
        | dx=>rw [hx] at hro;exact hro.elim
        | cur=>rw [hx] at hro;exact hro.elim
        | dead=>rw [hx] at hro;exact hro.elim
      · cases hh
    · cases hh
  · injection hh with hh;injection hh with e1 e2;subst e1 e2
    simp only [evalPs] at he;injection he with he;subst he
    exact ⟨s,Re.refl _,hr⟩
def sSets (P : Program) : List Nat→Sy→Option (List PO × Sy)
  | [],S=>some ([],S)
  | i :: r,S=>(match sSet P S i with | some (p,S1)=>(match sSets P r S1 with | some (q,S2)=>some (p ++ q,S2) | none=>none) | none=>none)
theorem sSets_ok : ∀ {l : List Nat} {S S' : Sy} {ps : List PO} {ρ ρ' : List DV} {s : AS},sSets P l S = some (ps,S')→evalPs ps ρ = some ρ'→Rel S ρ σ s→∃ s',Re s s'∧Rel S' ρ' σ s'
  | [],S,S',ps,ρ,ρ',s,hh,he,hr=>by
    simp only [sSets] at hh;injection hh with hh;injection hh with e1 e2;subst e1 e2
    simp only [evalPs] at he;injection he with he;subst he
    exact ⟨s,Re.refl _,hr⟩
  | i :: r,S,S',ps,ρ,ρ',s,hh,he,hr=>by
    simp only [sSets] at hh
    split at hh
    · rename_i p S1 h1
      split at hh
      · rename_i qq S2 h2
        injection hh with hh;injection hh with e1 e2;subst e1 e2
        obtain ⟨ρ1,a1,a2⟩:=evalPs_app he
        obtain ⟨s1,r1,k1⟩:=sSet_ok h1 a1 hr
        obtain ⟨s2,r2,k2⟩:=sSets_ok h2 a2 k1
        exact ⟨s2,r1.trans r2,k2⟩
      · cases hh
    · cases hh
def nK (K : Kt) : Kt:=fun lv e S=>match e with | .normal=>K lv .normal S | _=>none
theorem nK_ok {Q : Exit→AS→Prop} {K : Kt} (hk : KOk P R L ρ Q K) : KOk P R L ρ (onlyN Q) (nK K):=by
  intro L' ρ' hL hp e S pg hpg σ s hr hw
  cases e with
  | normal=>exact hk L' ρ' hL hp .normal S pg hpg σ s hr hw
  | _=>cases hpg
def dtS (ds : List Nat) (Q : Sy) : SC→Bool
  | .d i=>ds.contains i
  | .nil=>true
  | .own j s2=>(Q.own j s2).isSome
  | .ptr j s2 _=>(Q.own j s2).isSome
  | _=>false
def sCF (P : Program) (FL : List (TypeId × Nat × Nat)) (ds : List Nat) (Q : Sy) : Bool:=FL.all fun x=>match alook Q.sl x.2.1 with
  | some (.p false [.ptr i st off])=>(match Q.own i st with
    | some (.var _ _ cs)=>(match sLd P x.1 (cs.drop off),alook Q.sl x.2.2 with
      | some (.p b xs),some (.p b' xs')=>decide (b = b'∧xs = xs') && ((b || xs.length == 1) && xs.all (dtS ds Q))
      | _,_=>false)
    | _=>false)
  | _=>false
theorem dtS_eq {ds : List Nat} : ∀ {xs : List SC} {ys zs : List AC},xs.all (dtS ds S) = true→RCs ρ σ xs ys→RCs ρ σ xs zs→ys = zs
  | [],ys,zs,_,h1,h2=>by
    cases ys <;> cases zs <;> first | rfl | exact h1.elim | exact h2.elim
  | x :: xs,ys,zs,h,h1,h2=>by
    rw [List.all_cons,Bool.and_eq_true] at h
    cases ys with
    | nil=>exact h1.elim
    | cons y ys=>cases zs with
      | nil=>exact h2.elim
      | cons z zs =>
        have e2:=dtS_eq h.2 h1.2 h2.2
        have a1:=h1.1
        have a2:=h2.1
        subst e2
        congr 1
        cases x with
        | d i =>
          obtain ⟨u,rfl,hu⟩:=rc_d a1
          obtain ⟨v,rfl,hv⟩:=rc_d a2
          rw [hu] at hv;injection hv with hv;rw [hv]
        | nil=>cases y <;> cases z <;> first | rfl | exact a1.elim | exact a2.elim
        | own i st =>
          cases y <;> first | exact a1.elim | skip
          cases z <;> first | exact a2.elim | skip
          obtain ⟨rfl,g1⟩:=a1
          obtain ⟨rfl,g2⟩:=a2
          rw [g1] at g2;injection g2 with g2;rw [g2]
        | ptr i st off =>
          cases y <;> first | exact a1.elim | skip
          cases z <;> first | exact a2.elim | skip
          obtain ⟨rfl,g1,rfl⟩:=a1
          obtain ⟨rfl,g2,rfl⟩:=a2
          rw [g1] at g2;injection g2 with g2;rw [g2]
        | _=>exact absurd h.1 (by simp [dtS])
theorem dtS_ok {ds : List Nat} (hr : Rel S ρ σ s) (hsc : ∀ i ∈ ds,∃ v,ρ[i]? = some (.sc v)) : ∀ {xs : List SC} {ys : List AC},xs.all (dtS ds S) = true→RCs ρ σ xs ys→∀ y ∈ ys,dtC s.lv y
  | [],ys,_,h1=>by
    cases ys with
    | nil=>intro y hy;cases hy
    | cons=>exact h1.elim
  | x :: xs,ys,h,h1=>by
    rw [List.all_cons,Bool.and_eq_true] at h
    cases ys with
    | nil=>exact h1.elim
    | cons y ys =>
      have ih:=dtS_ok hr hsc h.2 h1.2
      have a1:=h1.1
      intro z hz
      rcases List.mem_cons.1 hz with rfl | hz
      · cases x with
        | d i =>
          obtain ⟨u,rfl,hu⟩:=rc_d a1
          obtain ⟨v,hv⟩:=hsc i (by simpa [dtS] using h.1)
          rw [hu] at hv;injection hv with hv
          exact .inl ⟨v,by rw [hv]⟩
        | nil=>cases z <;> first | exact .inr (.inl rfl) | exact a1.elim
        | own i st =>
          cases z <;> first | exact a1.elim | skip
          obtain ⟨rfl,g1⟩:=a1
          obtain ⟨ob,hob⟩:=Option.isSome_iff_exists.1 h.1
          obtain ⟨o2,m1,m2,m3,m4⟩:=hr.own hob g1
          exact .inr (.inr (.inl ⟨_,_,rfl,(own?_some m1).2.2⟩))
        | ptr i st off =>
          cases z <;> first | exact a1.elim | skip
          obtain ⟨rfl,g1,rfl⟩:=a1
          obtain ⟨ob,hob⟩:=Option.isSome_iff_exists.1 h.1
          obtain ⟨o2,m1,m2,m3,m4⟩:=hr.own hob g1
          exact .inr (.inr (.inr ⟨_,_,_,rfl,(own?_some m1).2.2⟩))
        | _=>exact absurd h.1 (by simp [dtS])
      · exact ih z hz
theorem sCF_ok {FL : List (TypeId × Nat × Nat)} {ds : List Nat} (hh : sCF P FL ds S = true) (hr : Rel S ρ σ s) (hsc : ∀ i ∈ ds,∃ v,ρ[i]? = some (.sc v)) : CF P FL s:=by
  intro x hx
  have:=List.all_eq_true.1 hh x hx
  split at this
  · rename_i i st off h1
    split at this
    · rename_i a ty cs ho
      split at this
      · rename_i b xs b' xs' h2 h3
        simp only [Bool.and_eq_true,decide_eq_true_eq] at this
        obtain ⟨⟨rfl,rfl⟩,hlen,hall⟩:=this
        obtain ⟨y,y1,y2⟩:=one_rv (c:=.ptr i st off) rfl (hr.sl _ _ h1)
        cases y <;> first | exact y2.elim | skip
        obtain ⟨rfl,hst,rfl⟩:=y2
        obtain ⟨o',k1,k2,k3,k4⟩:=hr.own ho hst
        cases o' <;> first | exact k2.elim | skip
        rename_i b2 ty' ys
        obtain ⟨k5,rfl,k6⟩:=k2
        obtain rfl:=own_stV k1 rfl
        obtain ⟨v,v1,v2⟩:=sLd_ok (P:=P) h2 (k6.drop _)
        have w2:=hr.sl _ _ h3
        generalize hz : s.sl x.2.2 = z at w2
        cases v with
        | p bv vs=>cases z with
          | p bz zs =>
            obtain ⟨rfl,v3⟩:=v2
            obtain ⟨rfl,w3⟩:=w2
            obtain rfl:=dtS_eq hall v3 w3
            refine ⟨_,_,_,_,_,_,_,y1,k1,v1,rfl,fun hb=>?_,dtS_ok hr hsc hall v3⟩
            rw [hb] at hlen
            rw [← RCs.len v3]
            simpa using hlen
          | _=>exact w2.elim
        | _=>exact v2.elim
      · cases this
    · cases this
  · cases this
def dsCF (FL : List (TypeId × Nat × Nat)) (Q : Sy) : List Nat:=FL.flatMap fun x=>match alook Q.sl x.2.2 with
  | some (.p _ xs)=>xs.filterMap fun c=>match c with | .d i=>some i | _=>none
  | _=>[]
theorem scs_ok : ∀ {ds : List Nat} {ρ ρ' : List DV},evalPs (ds.map .sc) ρ = some ρ'→ρ' = ρ∧∀ i ∈ ds,∃ v,ρ[i]? = some (.sc v)
  | [],ρ,ρ',h=>by simp only [List.map_nil,evalPs] at h;injection h with h;exact ⟨h.symm,by simp⟩
  | i :: ds,ρ,ρ',h=>by
    simp only [List.map_cons,evalPs] at h
    split at h
    · rename_i out ho
      simp only [evalP] at ho
      split at ho
      · rename_i d hd
        split at ho
        · rename_i hs
          injection ho with ho;subst ho
          rw [List.append_nil] at h
          obtain ⟨e,ih⟩:=scs_ok h
          refine ⟨e,fun j hj=>?_⟩
          rcases List.mem_cons.1 hj with rfl | hj
          · cases d with
            | sc v=>exact ⟨v,hd⟩
            | sl=>cases hs
          · exact ih j hj
        · cases ho
      · cases ho
    · cases h
def genT (P : Program) (N : Nat) (ow : OwK) (chk : Sy→Bool) : List Oper→Nat→Sy→Kt→Option Pg
  | [],lv,S,K=>K lv .normal S
  | o :: r,lv,S,K=>if dB N o.dst && o.guard.isNone then run1 P ow o S (fun S'=>if chk S' then genT P N ow chk r lv S' K else none) else none
theorem genT_ok {Q : Exit→AS→Prop} {FL : List (TypeId × Nat × Nat)} {ds : List Nat} {K : Kt} : ∀ {l : List Oper} {lv : Nat} {S : Sy} {pg : Pg} {ρ : List DV} {σ : List Nat} {s : AS},(∀ i ∈ ds,∃ v,ρ[i]? = some (.sc v))→genT P N ow (sCF P FL ds) l lv S K = some pg→lv = L.length→Rel S ρ σ s→KOk P R L ρ Q K→W P R pg L ρ→AOpsC P N l Q (CF P FL) s
  | [],lv,S,pg,ρ,σ,s,hsc,h,hl,hr,hk,hw=>fun w0 a w E hR=>⟨s,E,hk L ρ (Pre.refl _) (Pre.refl _) _ _ _ (by rw [← hl];exact h) _ _ hr hw,hR⟩
  | o :: r,lv,S,pg,ρ,σ,s,hsc,h,hl,hr,hk,hw=>by
    simp only [genT] at h
    split at h
    · rename_i hd
      simp only [Bool.and_eq_true] at hd
      obtain ⟨ρ',σ',s',S',g,r1,r2,r3,r4,r5⟩:=run1_ok h hd.1 hr hw
      split at r3
      · rename_i hc
        have hsc' : ∀ i ∈ ds,∃ v,ρ'[i]? = some (.sc v):=fun i hi=>by obtain ⟨v,hv⟩:=hsc i hi;exact ⟨v,r5.get hv⟩
        have hC:=sCF_ok hc r2 hsc'
        have ih:=genT_ok hsc' r3 hl r2 (hk.mono (Pre.refl _) r5) r4
        intro w0 a w E hR
        refine ⟨by simpa using hd.2,Oper.wp_mono (fun a' w' hp=>?_) (r1 w0 a w E hR)⟩
        obtain ⟨E',hR'⟩:=hp
        exact ⟨⟨s',E',hC,hR'⟩,ih w0 a' w' E' hR'⟩
      · cases r3
    · cases h
def dstOk (FL : List (TypeId × Nat × Nat)) (o : Oper) : Bool:=FL.all fun x=>!(o.dst == some x.2.1) && !(o.dst == some x.2.2)
def drawD (P : Program) (N : Nat) (ow : OwK) (dn : List (Nat × Nat × Bool × List Nat)) : Dt:=fun id ops lv S K =>
  match alook dn id with
  | some (n,pr,[])=>if P.follows .mixedOrders && drawB ops.toList n then
      genH P N ow pr ops.toList.toArray (fun Q=>match sSets P ((List.range (Q.n - S.n)).map (S.n + ·)) Q with | some (ps,Q')=>(match genL P N ow ops.toList.toArray (ops.toList.drop n) lv Q' K with | some g=>some (nds (ps.map .po) g) | none=>none) | none=>none) (ops.toList.take n) S S
    else none
  | some (n,pr,F)=>if P.follows .mixedOrders && (eagB ops.toList n F && drawB (addEs ops.toList n F) n) then (if noLd ops.toList F then
      genH P N ow pr (addEs ops.toList n F).toArray (fun Q=>match sSets P ((List.range (Q.n - S.n)).map (S.n + ·)) Q with | some (ps,Q')=>(match genL P N ow (addEs ops.toList n F).toArray ((addEs ops.toList n F).drop n) lv Q' (nK K) with | some g=>some (nds (ps.map .po) g) | none=>none) | none=>none) ((addEs ops.toList n F).take n) S S
    else if ((addEs ops.toList n F).take n).all (fun o=>plainO o.op) && ((addEs ops.toList n F).drop n).all (dstOk (ldsF ops.toList F)) then
      genH P N ow true (addEs ops.toList n F).toArray (fun Q=>if sCF P (ldsF ops.toList F) (dsCF (ldsF ops.toList F) Q) Q then (match genT P N ow (sCF P (ldsF ops.toList F) (dsCF (ldsF ops.toList F) Q)) ((addEs ops.toList n F).drop n) lv Q (nK K) with | some g=>some (nds (((dsCF (ldsF ops.toList F) Q).map .sc).map .po) g) | none=>none) else none) ((addEs ops.toList n F).take n) S S
    else none) else none
  | none=>none
theorem drawD_ok {dn : List (Nat × Nat × Bool × List Nat)} : DOk P R N (drawD P N ow dn):=by
  intro id ops lv S K pg hh L ρ σ s Qp hl hr hk hw
  unfold drawD at hh
  split at hh
  · rename_i n pr hdn
    split at hh
    · rename_i hc
      simp only [Bool.and_eq_true] at hc
      obtain ⟨kds,xs,qF,S',ρ1,σ1,g,f1,f2,f3,f4,f5⟩:=genH_ok hh hr hr (Pre.refl _) hw
      split at f3
      · rename_i ps Q' hs
        split at f3
        · rename_i g' hg'
          injection f3 with f3;subst f3
          obtain ⟨ρ2,he,hw2,hp2⟩:=wn_po (w_nds f4)
          obtain ⟨s2,r2,k2⟩:=sSets_ok hs he f2
          have ht : AOps P N ops.toList.toArray (ops.toList.drop n) Qp qF:=aops_re r2 (genL_ok hg' hl k2 (hk.mono (Pre.refl _) (f5.trans hp2)) hw2)
          have:=awp_draw (id:=id) (l:=ops.toList) n pr hc.1 hc.2 f1 ht
          simpa using this
        · cases f3
      · cases f3
    · cases hh
  · rename_i n pr F _ hdn
    split at hh
    · rename_i hc
      simp only [Bool.and_eq_true] at hc
      split at hh
      · rename_i hnl
        obtain ⟨kds,xs,qF,S',ρ1,σ1,g,f1,f2,f3,f4,f5⟩:=genH_ok hh hr hr (Pre.refl _) hw
        split at f3
        · rename_i ps Q' hs
          split at f3
          · rename_i g' hg'
            injection f3 with f3;subst f3
            obtain ⟨ρ2,he,hw2,hp2⟩:=wn_po (w_nds f4)
            obtain ⟨s2,r2,k2⟩:=sSets_ok hs he f2
            have ht : AOps P N (addEs ops.toList n F).toArray ((addEs ops.toList n F).drop n) (onlyN Qp) qF:=aops_re r2 (genL_ok hg' hl k2 ((nK_ok hk).mono (Pre.refl _) (f5.trans hp2)) hw2)
            have:=awp_draw_e (id:=id) (l:=ops.toList) n pr F hc.1 hc.2.1 hnl hc.2.2 f1 ht
            simpa using this
          · cases f3
        · cases f3
      · split at hh
        · rename_i hpl
          simp only [Bool.and_eq_true,List.all_eq_true] at hpl
          obtain ⟨kds,xs,qF,S',ρ1,σ1,g,f1,f2,f3,f4,f5⟩:=genH_ok hh hr hr (Pre.refl _) hw
          split at f3
          · rename_i hcf
            split at f3
            · rename_i g' hg'
              injection f3 with f3;subst f3
              obtain ⟨ρ2,he,hw2,hp2⟩:=wn_po (w_nds f4)
              obtain ⟨rfl,hsc⟩:=scs_ok he
              have ht : AOpsC P N ((addEs ops.toList n F).drop n) (onlyN Qp) (CF P (ldsF ops.toList F)) qF:=genT_ok hsc hg' hl f2 ((nK_ok hk).mono (Pre.refl _) f5) hw2
              have:=awp_draw_s (id:=id) (l:=ops.toList) n F hc.1 hc.2.1 hc.2.2 hpl.1 f1 (sCF_ok hcf f2 hsc) (fun o ho x hx=>by
                have:=List.all_eq_true.1 (hpl.2 o ho) x hx
                simp only [Bool.and_eq_true,Bool.not_eq_true',beq_eq_false_iff_ne,ne_eq] at this
                exact this) ht
              simpa using this
            · cases f3
          · cases f3
        · cases hh
    · cases hh
  · cases hh
end
end Go.Proofs.Ytkeoohonidpjeaa
namespace Go.Proofs.Ytkeoohonidpjeaa
open Go.RowKit
def kilA (V : Nat→Bool) (q : AS) : AS:={ q with ob:=fun i=>if V i then .dead else q.ob i }
def NoO (q : AS) : Prop:=∀ i,i < q.n→∀ st t k es,q.ob i = .row st t k es true→Flat es.flatten
def cxV (w0 : Cx) (w : World) (q : AS) (V : Nat→Bool) (E : En) : Cx:={ w with
  B:=E.A
  fr:=fun b=>w.heap.size≤b ∨ ∃ i,i < q.n∧V i = false∧(b ∈ E.m i ∨ b ∈ E.o i)∧¬ (E.A b)
  hfr:=fun b h=>.inl h
  cu:=w0.cu }
def enV (V : Nat→Bool) (E : En) : En:=⟨E.v,fun i=>if V i then [] else E.m i,fun i=>if V i then [] else E.o i,E.A⟩
section
variable {P : Program} {w0 : Cx} {ws w w' : World} {N m n : Nat} {s q q' s' : AS} {a a' : Act} {E E' : En} {V : Nat→Bool}
theorem own_flat0 {base : Nat} {vs : List Value} {ds : List DV} {f : List Nat} (h : OwnL w base vs ds f) (hf : Flat ds) : f = []:=by
  induction h with
  | nil=>rfl
  | sc _ _ ih=>exact ih fun d hd=>hf d (List.mem_cons_of_mem _ hd)
  | sl=>obtain ⟨v,hv⟩:=hf _ (List.mem_cons_self ..);cases hv
theorem noO_o (h : RepE w0 N q a w E) (hn : NoO (kilA V q)) {i : Nat} (hi : i < q.n) (hV : V i = false) (hd : q.ob i ≠ .dead) : E.o i = []:=by
  have hO:=h.obj i hi
  have hN:=hn i hi
  simp only [kilA,hV,Bool.false_eq_true,if_false] at hN
  cases hx : q.ob i with
  | var=>rw [hx] at hO;obtain ⟨_,_,_,_,_,h,_⟩:=hO;exact h
  | arr=>rw [hx] at hO;obtain ⟨_,_,_,_,_,h,_⟩:=hO;exact h
  | row st t k es deep =>
    rw [hx] at hO
    obtain ⟨_,_,_,_,_,_,h6⟩:=hO
    cases deep with
    | true=>exact own_flat0 (by simpa using h6) (hN _ _ _ _ hx)
    | false=>exact (by simpa using h6 : _∧_).1
  | frz=>rw [hx] at hO;exact hO.2.2.1
  | dx=>rw [hx] at hO;exact hO.2.1
  | cur=>rw [hx] at hO;obtain ⟨_,_,_,_,_,h,_⟩:=hO;exact h
  | dead=>exact absurd hx hd
def DeadV (V : Nat→Bool) (q : AS) : Prop:=∀ i,i < q.n→q.ob i = .dead→V i = true
theorem reframe (h : RepE w0 N q a w E) (hn : NoO (kilA V q)) (hD : DeadV V q) : RepE (cxV w0 w q V E) N (kilA V q) a w (enV V E):=by
  have nd : ∀ i,i < q.n→V i = false→q.ob i ≠ .dead:=fun i hi hv e=>by rw [hD i hi e] at hv;cases hv
  have hst : Stay w E q.lv q.c w (enV V E) (kilA V q).lv (kilA V q).c:=by
    refine ⟨fun b hb=>⟨hb,rfl⟩,fun i st _ hl=>⟨?_,rfl⟩,Nat.le_refl _⟩
    unfold AS.lv at hl ⊢
    split at hl
    · rename_i hi
      have hi : i < q.n:=hi
      rw [if_pos hi]
      simp only [kilA] at hl
      split at hl
      · cases hl
      · exact hl
    · cases hl
  have hm : ∀ i b,b ∈ (enV V E).m i→V i = false∧b ∈ E.m i:=by
    intro i b hb
    simp only [enV] at hb
    split at hb
    · cases hb
    · rename_i hv;exact ⟨by simpa using hv,hb⟩
  have ho : ∀ i,i < q.n→(enV V E).o i = []:=by
    intro i hi
    simp only [enV]
    split
    · rfl
    · rename_i hv
      have hv : V i = false:=by simpa using hv
      exact noO_o h hn hi hv (nd i hi hv)
  refine ⟨h.size,h.defers,⟨rfl,rfl,rfl,Nat.le_refl _,fun _ _=>rfl⟩,fun i hi=>?_,fun t=>(h.slot t).stay hst,h.A_lt,?_,?_,?_,?_,?_,fun b hb=>.inl hb,?_,?_⟩
  · cases hv : V i with
    | true=>simp only [kilA,hv,if_true];trivial
    | false =>
      simp only [kilA,hv,Bool.false_eq_true,if_false]
      refine (h.obj i hi).stay hst rfl (by simp [enV,hv]) (by simp [enV,hv]) (fun _ _=>rfl) (fun b hb=>h.A_o i hi b hb)
  · intro b hb i hi hbm;exact h.A_m b hb i hi (hm i b hbm).2
  · intro i hi b hb;rw [ho i hi] at hb;cases hb
  · intro i j hi hj hne b hb hb';exact h.mm i j hi hj hne b (hm i b hb).2 (hm j b hb').2
  · intro i j hi hj hne b hb;rw [ho i hi] at hb;cases hb
  · intro i hi b hb;exact h.m_lt i hi b (hm i b hb).2
  · intro i hi b hb
    obtain ⟨h1,h2⟩:=hm i b hb
    exact .inr ⟨i,hi,h1,.inl h2,fun hA=>h.A_m b hA i hi h2⟩
  · intro i hi b hb;rw [ho i hi] at hb;cases hb
theorem fr_back (h : RepE w0 N q a w E) {b : Nat} (hb : (cxV w0 w q V E).fr b) : w0.fr b:=by
  rcases hb with hb | ⟨i,hi,_,hb | hb,_⟩
  · exact w0.hfr b (Nat.le_trans h.bel.size hb)
  · exact h.mF i hi b hb
  · exact h.oF i hi b hb
theorem unframe (h : RepE w0 N q a w E) (h' : RepE (cxV w0 w q V E) N s' a' w' E') : RepE w0 N s' a' w' E' :=
  ⟨h'.size,h'.defers,⟨h'.bel.os.trans h.bel.os,h'.bel.tape.trans h.bel.tape,h'.bel.output.trans h.bel.output,Nat.le_trans h.bel.size h'.bel.size,fun b hb=>(h'.bel.block b fun hf=>hb (fr_back h hf)).trans (h.bel.block b hb)⟩,
   h'.obj,h'.slot,h'.A_lt,h'.A_m,h'.A_o,h'.mm,h'.oo,h'.m_lt,fun b hb=>(h'.anc b hb).elim (fun h1=>h.anc b h1) (fun h1=>.inr (fr_back h h1)),fun i hi b hb=>fr_back h (h'.mF i hi b hb),fun i hi b hb=>fr_back h (h'.oF i hi b hb)⟩
def DB (V : Nat→Bool) (q : AS) (E : En) (b : Nat) : Prop:=E.A b ∨ ∃ i,i < q.n∧V i = true∧b ∈ E.m i
theorem held_V (h : RepE w0 N q a w E) (hn : NoO (kilA V q)) (hD : DeadV V q) (h' : Bel (cxV w0 w q V E) w') {b : Nat} (hb : DB V q E b) : w'.heap[b]? = w.heap[b]?:=by
  refine h'.block b fun hf=>?_
  rcases hf with hf | ⟨i,hi,hv,hm,hnA⟩
  · rcases hb with hb | ⟨j,hj,_,hb⟩
    · have:=h.A_lt b hb;omega
    · have:=h.m_lt j hj b hb;omega
  · rcases hb with hb | ⟨j,hj,hjv,hb⟩
    · exact hnA hb
    · rcases hm with hm | hm
      · exact h.mm i j hi hj (fun e=>by subst e;rw [hv] at hjv;cases hjv) b hm hb
      · exact hnA (h.A_o i hi b hm)
theorem ldV_any {L : Nat→Option Nat} {c : Nat} {t : TypeId} {cs : List AC} {vals : List Value} {b off : Nat} {x : AV} (h : ldV P t cs = some x) (hc : CellsR w E L c cs vals) (ha : At w b off vals) :
    ∃ v,∀ w',w'.heap[b]? = w.heap[b]?→(Instr.loadAt t (.pointer (some ⟨b,off,none⟩))).run P w' = .ok v w':=by
  unfold ldV at h
  split at h
  · rename_i hg
    split at h
    · rename_i k hk
      split at h
      · rename_i hl
        have hlen : (vals.take k).length = k:=by rw [List.length_take,← hc.1];omega
        refine ⟨.agg (vals.take k).toArray,fun w' hw=>run_ld_agg P hg (by rw [hlen];exact hk) ?_⟩
        have:=at_sub (i:=0) (k:=k) (ha.keep hw)
        simpa using this
      · cases h
    · cases h
  · rename_i hg
    split at h
    · rename_i c0 r
      obtain ⟨u,us,rfl,h1,h2⟩:=hc.cons'
      exact ⟨u,fun w' hw=>run_ld_one P hg (by have:=(ha.keep hw) 0 u rfl;simpa using this)⟩
    · cases h
  · cases h
def ldOkA (V : Nat→Bool) (s : AS) : AV→Prop
  | .p false [.ptr i st _]=>V i = true∧i < s.n∧(∃ t cs,s.own? i st = some (.var st t cs))
  | .p false [.elt i st k _ _]=>V i = true∧i < s.n∧(∃ t es dp,s.own? i st = some (.row st t k es dp))
  | .p false [.rd _]=>True
  | _=>False
theorem ldA_any (h : RepE w0 N s a w E) {t : TypeId} {y x : AV} {v : Value} (hx : ldA P s t y = some x) (hy : SlotR w E s.lv s.c y v) (hk : ldOkA V s y) :
    ∃ u,∀ w',(∀ b,DB V s E b→w'.heap[b]? = w.heap[b]?)→(Instr.loadAt t v).run P w' = .ok u w':=by
  unfold ldOkA at hk
  split at hk
  · rename_i i st off
    obtain ⟨h1,h2,ty,cs,h3⟩:=hk
    simp only [ldA,h3] at hx
    obtain ⟨hi,ho,hl⟩:=own?_some h3
    obtain ⟨g,e1,rfl⟩:=(slot_one hy).2 hl
    have h4:=h.obj i hi
    rw [ho] at h4
    obtain ⟨g',vals,_,e2,e3,_,_,hB,hcs⟩:=h4
    rw [e1] at e2
    injection e2 with e2;injection e2 with e2;injection e2 with e2;subst e2
    obtain ⟨u,hu⟩:=ldV_any hx (hcs.drop off) (blk_at hB off)
    exact ⟨u,fun w' hw=>hu w' (hw g (.inr ⟨i,hi,h1,by rw [e3];simp⟩))⟩
  · rename_i i st k j off
    obtain ⟨h1,h2,ty,es,dp,h3⟩:=hk
    simp only [ldA,h3,if_true] at hx
    split at hx
    · rename_i e he
      obtain ⟨hi,ho,hl⟩:=own?_some h3
      obtain ⟨g,n,cp,e1,rfl⟩:=(slot_one hy).2 hl
      obtain ⟨g',n',cp',vals,e2,hr,hat,_⟩:=row_elem h hi ho he
      have h4:=h.obj i hi
      rw [ho] at h4
      obtain ⟨cells,_,_,_,_,h5,_⟩:=h4
      have hg : g ∈ E.m i:=by rw [h5,e1];simp [Value.ownBlock]
      rw [e1] at e2
      injection e2 with e2;injection e2 with e2;injection e2 with e2;subst e2
      obtain ⟨u,hu⟩:=ldV_any hx (CellsR.ofRep (L:=s.lv) (c:=s.c) (hr.drop off)) (at_drop (k:=off) hat)
      exact ⟨u,fun w' hw=>hu w' (hw g (.inr ⟨i,hi,h1,hg⟩))⟩
    · cases hx
  · rename_i cs
    simp only [ldA] at hx
    obtain ⟨b,off,vals,rfl,hA,hr,hat⟩:=slot_one hy
    obtain ⟨u,hu⟩:=ldV_any hx (CellsR.ofRep (L:=s.lv) (c:=s.c) hr) hat
    exact ⟨u,fun w' hw=>hu w' (hw b (.inl hA))⟩
  · cases hk
theorem wpListC_mono {Q Q' : Exit→Act→World→Prop} {I I' : Act→World→Prop} (hI : ∀ a w,I a w→I' a w) (hQ : ∀ e a w,Q e a w→Q' e a w) : ∀ {l : List Oper} {a : Act} {w : World},wpListC P Q I l a w→wpListC P Q' I' l a w
  | [],_,_,h=>hQ _ _ _ h
  | o :: r,_,_,h=>⟨h.1,Oper.wp_mono (fun _ _ hh=>⟨hI _ _ hh.1,wpListC_mono hI hQ hh.2⟩) h.2⟩
end
def ldsP (l : List Oper) (F : List Nat) : List Nat:=F.filterMap fun i=>match l[i]? with
  | some o=>(match o.op with | .load _ (.tmp p)=>some p | _=>none)
  | none=>none
section
variable {P : Program} {w0 : Cx} {w w' : World} {N m n : Nat} {s h H q q' qF : AS} {a : Act} {E : En} {o : Oper} {l : List Oper} {kds : List HK} {xs : List AV} {Q : Exit→AS→Prop} {F : List Nat} {V : Nat→Bool}
theorem plH_plain {op : Op} (h : plH op = true) : plainO op = true:=by
  cases hp : plainO op with
  | true=>rfl
  | false =>
    unfold plainO at hp
    split at hp
    · cases h
    · cases hp
theorem any_draw_r (n : Nat) (F : List Nat) (V : Nat→Bool) (hE : eagB l n F = true) (hB : drawB (addEs l n F) n = true) (hpl : PlL (addEs l n F) n) (hh : Heads P N true (addEs l n F).toArray ((addEs l n F).take n) s s kds xs qF)
    (hLd : ∀ p ∈ ldsP l F,ldOkA V qF (qF.sl p)) (hN : NoO (kilA V qF)) (hD : DeadV V qF)
    (htail : AOpsC P N ((addEs l n F).drop n) (onlyN Q) (fun _=>True) (kilA V qF)) {w0 : Cx} {a : Act} {w : World} {E : En} (hr : RepE w0 N s a w E) :
    wpAny P .any l.toArray (AQ w0 N (onlyN Q)) l.toArray.size (Array.replicate l.toArray.size false) a w.drew:=by
  have hsz : l.toArray.size = (addEs l n F).length:=by simp [addEs_len]
  have hF : ∀ i ∈ F,∃ oi,l[i]? = some oi∧i < n∧oi.guard = none∧(fltB oi.op = true ∨ isLd oi.op = true):=by
    have hE':=hE
    unfold eagB at hE'
    simp only [Bool.and_eq_true,decide_eq_true_eq,List.all_eq_true] at hE'
    intro i hi
    obtain ⟨h1,h2⟩:=hE'.2.2 i hi
    split at h2
    · rename_i oi hoi
      simp only [Bool.and_eq_true,Bool.or_eq_true] at h2
      exact ⟨oi,hoi,h1,by simpa using h2.1,h2.2.1⟩
    · cases h2
  have hqF:=heads_plain (fun o ho=>plH_plain (hpl o ho)) hh
  have hr' : RepE w0 N s a w.drew E:=hr.world' (Below.refl _ _).drew
  refine wpAny_of_held _ _ _ _ (wpAny_eagF (S:=fun w1=>∀ b,DB V s E b→w1.heap[b]? = w.drew.heap[b]?) hE (fun e a w he hq=>?_) _ _ _ _ (fun j oj _ hl=>(by rw [getD_replicate_false] at hl;cases hl)) (by simp) ?_)
  · obtain ⟨s',E',h1,_⟩:=hq
    cases e <;> first | exact he rfl | exact h1
  unfold drawB at hB
  rw [Bool.and_eq_true,decide_eq_true_eq] at hB
  obtain ⟨hB,hnd⟩:=hB
  have hnl:=(fixB_parts hB).2.1
  generalize hl' : addEs l n F = l' at *
  have hu : unl n (Array.replicate l.toArray.size false) = n:=by
    unfold unl
    have : (List.range n).filter (fun i=>!(Array.replicate l.toArray.size false).getD i false) = List.range n:=by
      rw [List.filter_eq_self]
      intro i _
      rw [getD_replicate_false];rfl
    rw [this];simp
  have hEm : ∀ i,i < s.n→∀ b ∈ E.m i,b < w.drew.heap.size:=fun i hi b hb=>hr'.m_lt i hi b hb
  obtain ⟨hkl,hxl⟩:=heads_len hh
  have htl : (l'.take n).length = n:=by rw [List.length_take];omega
  rw [htl] at hkl hxl
  obtain ⟨ha1,ha2,ha3⟩:=hAt_same (l:=l'.take n) (xs:=xs) (s:=s)
  have hobq : qF.ob = s.ob:=by rw [hqF];exact ha1
  have hnq : qF.n = s.n:=by rw [hqF];exact ha2
  have hownq : qF.own? = s.own?:=by funext i st;unfold AS.own?;rw [hobq,hnq]
  have hS : ∀ listed a w1 fs,HInv P w0 w.drew N w.drew.heap.size n s E l' kds xs listed a w1 fs→∀ b,DB V s E b→w1.heap[b]? = w.drew.heap[b]?:=by
    intro listed a w1 fs hI b _
    rw [hI.bl hpl]
  have h:=wpAny_heads (ws:=w.drew) (J:=JF P l F (fun w1=>∀ b,DB V s E b→w1.heap[b]? = w.drew.heap[b]?)) (Q:=onlyN Q) (m:=w.drew.heap.size) (E:=E) hB hnd hh hr'.bel.size hEm hr'.A_lt ?_ ?_ n (Array.replicate l.toArray.size false) a w.drew (fun _=>[]) hu
    ⟨by simp [hsz],fun j oj _ hl=>(by rw [getD_replicate_false] at hl;cases hl),fun t _ ht=>getD_in (by rw [Array.size_replicate,hsz];simpa using ht) (getD_replicate_false _ _)⟩
    ⟨by
      have : lds l' n (Array.replicate l.toArray.size false) = []:=by
        rw [List.eq_nil_iff_forall_not_mem]
        intro t ht
        obtain ⟨j,o,_,hl,_⟩:=mem_lds.1 ht
        rw [getD_replicate_false] at hl;cases hl
      rw [this]
      have e : undL s [] = s:=by unfold undL;simp
      rw [e];exact hr',Nat.le_refl _,fun j o d kd x _ hl=>(by rw [getD_replicate_false] at hl;cases hl),fun j _ hl=>(by rw [getD_replicate_false] at hl;cases hl),fun i j _ _ hl=>(by rw [getD_replicate_false] at hl;cases hl),fun _=>rfl⟩
  · rw [show l.toArray.size = n + (l'.length - n) from by rw [hsz];omega]
    rw [show (Array.replicate l.toArray.size false) = Array.replicate (n + (l'.length - n)) false from by congr 1;rw [hsz];omega] at h
    exact h
  · intro listed a w1 fs inv hI
    refine ⟨hS _ _ _ _ hI,fun i oi hi hoi hrd=>?_⟩
    obtain ⟨oi',hoi',hin,hg,hfl⟩:=hF i hi
    obtain rfl : oi' = oi:=Option.some.inj (hoi'.symm.trans hoi)
    have hne : i ≠ n:=by omega
    have hrd' : i ∈ Region.ready .any l'.toArray listed:=by rw [← hl'];exact ready_es hrd fun e=>absurd e hne
    have hoil : l'[i]? = some oi':=by rw [← hl',addEs_ne hne];exact hoi
    obtain ⟨g1,g2⟩:=hinv_rep hB hnd hh hr'.bel.size hEm inv hI hin hrd' hoil
    obtain ⟨kd,x,qi,qi',hkd,hx,⟨d,hd,hdN⟩,hstp⟩:=heads_at hh i oi' (by rw [List.getElem?_take,if_pos hin];exact hoil)
    have htt : (l'.take n).take i = l'.take i:=by rw [List.take_take,Nat.min_eq_left (by omega)]
    rw [htt,hg] at hstp
    obtain ⟨y,hy⟩:=hrun_plain hstp (hpl oi' (List.mem_of_getElem? (i:=i) (by rw [List.getElem?_take,if_pos hin];exact hoil)))
    have hy : hV P (hAt s (l'.take i) xs) oi'.op = some y:=by
      have hnb : ∀ t parts,oi'.op ≠ .build t parts:=fun t parts e=>by
        rcases hfl with hfl | hfl <;> (rw [e] at hfl;cases hfl)
      unfold hVb at hy
      split at hy
      · rename_i t parts e;exact absurd e (hnb t parts)
      · exact hy
    rw [← hV_alike g2] at hy
    rcases hfl with hfl | hfl
    · obtain ⟨v,hv⟩:=flt_yields hfl hy g1
      exact ⟨v,fun w _=>hv w⟩
    · unfold isLd at hfl
      split at hfl
      · rename_i t p hop
        have hheap:=hI.bl hpl
        have hmem : p ∈ ldsP l F:=List.mem_filterMap.2 ⟨i,hi,by rw [hoi];simp only [hop]⟩
        have hlk : p ∈ oi'.looksAt l'.toArray:=List.mem_append_left _ (List.mem_filterMap.2 ⟨.tmp p,by rw [hop];simp [Op.operands],rfl⟩)
        have hk:=hLd p hmem
        rw [hop] at hy
        simp only [hV] at hy
        have hsl : ({ s with sl:=fun t=>if (oi'.looksAt l'.toArray).contains t then (hAt s (l'.take i) xs).sl t else .und } : AS).ev (.tmp p) = qF.sl p:=by
          show (if (oi'.looksAt l'.toArray).contains p then (hAt s (l'.take i) xs).sl p else .und) = _
          rw [if_pos (by simpa using hlk),head_slot (listed:=listed) (fs:=fs) hB hnd hxl (Nat.le_of_lt hin) (fun j oj hj hoj hdj=>(looks_lt hB hin hoil hj hoj hdj hlk).1),← hqF]
        have hsr:=ev_ok g1 (.tmp p)
        rw [hsl] at hy hsr
        obtain ⟨u,hu⟩:=ldA_any (V:=V) g1 hy hsr (by
          unfold ldOkA at hk ⊢
          split at hk
          · obtain ⟨k1,k2,ty,cs,k3⟩:=hk
            exact ⟨k1,by rw [← hnq];exact k2,ty,cs,by rw [hownq] at k3;exact k3⟩
          · obtain ⟨k1,k2,ty,es,dp,k3⟩:=hk
            exact ⟨k1,by rw [← hnq];exact k2,ty,es,dp,by rw [hownq] at k3;exact k3⟩
          · trivial
          · exact hk.elim)
        refine ⟨u,fun w' hSw=>?_⟩
        have:=hu w' (fun b hb=>by
          rw [hheap]
          refine hSw b ?_
          rcases hb with hb | hb
          · rcases hb with hb | hb
            · exact .inl hb
            · rw [hheap] at hb;omega
          · exact .inr hb)
        simp only [execOp,hop]
        rw [Sem.run_bind,this];rfl
      · cases hfl
  · intro a w1 fs hI
    have hall : ∀ j,j < n→(headAll n (l'.length - n)).getD j false = true:=by
      intro j hj;simp [headAll,Array.getElem?_append,hj]
    have hrep:=head_rep hB hnd hxl hkl hr'.bel.size hEm hall hI
    rw [← hqF] at hrep
    have hheap:=hI.bl hpl
    have hseq:=(fixB_parts hB).2.2.2.1
    have hT:=htail _ a w1 _ (reframe hrep hN hD)
    have hT' : wpListC P (AQ w0 N (onlyN Q)) (fun _ w'=>∀ b,DB V s E b→w'.heap[b]? = w.drew.heap[b]?) (l'.drop n) a w1:=by
      refine wpListC_mono (fun a' w' hI' b hb=>?_) (fun e a' w' hq=>?_) hT
      · obtain ⟨s',E',_,h2⟩:=hI'
        have:=held_V hrep hN hD h2.bel (b:=b) (by
          rcases hb with hb | ⟨i,hi,h1,h2⟩
          · exact .inl (.inl hb)
          · exact .inr ⟨i,by rw [hnq];exact hi,h1,h2⟩)
        rw [this,hheap]
      · obtain ⟨s',E',h1,h2⟩:=hq
        exact ⟨s',E',h1,unframe hrep h2⟩
    rw [show wpAnyJ P .any l'.toArray (AQ w0 N (onlyN Q)) (JF P l F (fun w1=>∀ b,DB V s E b→w1.heap[b]? = w.drew.heap[b]?)) (l'.length - n) = wpAnyJ P .any l'.toArray (AQ w0 N (onlyN Q)) (JF P l F (fun w1=>∀ b,DB V s E b→w1.heap[b]? = w.drew.heap[b]?)) (l'.drop n).length from by simp]
    refine wpAnyJ_list (n:=n) (I:=fun _ w'=>∀ b,DB V s E b→w'.heap[b]? = w.drew.heap[b]?) (fun listed a w hl hSw=>⟨hSw,fun i oi hi hoi hrd=>?_⟩) (l'.drop n) n _ a w1 (fun j=>by simp [List.getElem?_drop]) (by simpa using hseq) (by simpa using hall) (hS _ _ _ _ hI) hT'
    obtain ⟨_,_,hin,_⟩:=hF i hi
    have h0:=(mem_ready.1 hrd).1
    have:=hl i hin
    rw [getD_both h0] at this;cases this
end
end Go.Proofs.Ytkeoohonidpjeaa
namespace Go.Proofs.Ytkeoohonidpjeaa
open Go.RowKit
def AnyW (P : Program) (N : Nat) (l : List Oper) (Q : Exit→AS→Prop) (s : AS) : Prop:=∀ w0 a w E,RepE w0 N s a w E→wpAny P .any l.toArray (AQ w0 N Q) l.toArray.size (Array.replicate l.toArray.size false) a w.drew
section
variable {P : Program} {R : List (Bool × List DV)→Prop} {N : Nat} {ow : OwK} {Q : Exit→AS→Prop} {s : AS} {l l' : List Oper}
theorem anyW_region {id : Nat} (hm : P.follows .mixedOrders = true) (h : AnyW P N l Q s) : AWp P N (.region id l.toArray true) Q s:=fun w0 a w E hr=>wp_region_any hm (h w0 a w E hr)
theorem anyW_perm {σ : Nat→Nat} {n : Nat} (hp : Pm σ n l l') (h : AnyW P N l' Q s) : AnyW P N l Q s:=fun w0 a w E hr=>by
  have h1:=h w0 a w E hr
  have e1 : l.toArray.size = n:=by simp [hp.len]
  have e2 : l'.toArray.size = n:=by simp [hp.len']
  rw [e2] at h1
  rw [e1]
  exact wpAny_perm hp n _ _ a _ (LR.start hp) h1
theorem awp_onlyN {c : Code} (h : AWp P N c (onlyN Q) s) : AWp P N c Q s:=fun w0 a w E hr=>by
  refine Code.wp_mono (fun e a w he=>?_) (h w0 a w E hr)
  obtain ⟨s',E',h1,h2⟩:=he
  cases e with
  | normal=>exact ⟨s',E',h1,h2⟩
  | _=>exact h1.elim
theorem drawD_any {dn : List (Nat × Nat × Bool × List Nat)} {id : Nat} {ops : Array Oper} {lv : Nat} {S : Sy} {K : Kt} {pg : Pg} (hh : drawD P N ow dn id ops lv S K = some pg) {L : Lbl} {ρ : List DV} {σ : List Nat} {Qp : Exit→AS→Prop}
    (hl : lv = L.length) (hr : Rel S ρ σ s) (hk : KOk P R L ρ Qp K) (hw : W P R pg L ρ) : P.follows .mixedOrders = true∧(AnyW P N ops.toList Qp s ∨ AnyW P N ops.toList (onlyN Qp) s):=by
  unfold drawD at hh
  split at hh
  · rename_i n pr hdn
    split at hh
    · rename_i hc
      simp only [Bool.and_eq_true] at hc
      obtain ⟨kds,xs,qF,S',ρ1,σ1,g,f1,f2,f3,f4,f5⟩:=genH_ok hh hr hr (Pre.refl _) hw
      split at f3
      · rename_i ps Q' hs
        split at f3
        · rename_i g' hg'
          injection f3 with f3;subst f3
          obtain ⟨ρ2,he,hw2,hp2⟩:=wn_po (w_nds f4)
          obtain ⟨s2,r2,k2⟩:=sSets_ok hs he f2
          have ht : AOps P N ops.toList.toArray (ops.toList.drop n) Qp qF:=aops_re r2 (genL_ok hg' hl k2 (hk.mono (Pre.refl _) (f5.trans hp2)) hw2)
          exact ⟨hc.1,.inl fun w0 a w E hr=>any_draw n pr hc.2 f1 ht hr⟩
        · cases f3
      · cases f3
    · cases hh
  · rename_i n pr F _ hdn
    split at hh
    · rename_i hc
      simp only [Bool.and_eq_true] at hc
      split at hh
      · rename_i hnl
        obtain ⟨kds,xs,qF,S',ρ1,σ1,g,f1,f2,f3,f4,f5⟩:=genH_ok hh hr hr (Pre.refl _) hw
        split at f3
        · rename_i ps Q' hs
          split at f3
          · rename_i g' hg'
            injection f3 with f3;subst f3
            obtain ⟨ρ2,he,hw2,hp2⟩:=wn_po (w_nds f4)
            obtain ⟨s2,r2,k2⟩:=sSets_ok hs he f2
            have ht : AOps P N (addEs ops.toList n F).toArray ((addEs ops.toList n F).drop n) (onlyN Qp) qF:=aops_re r2 (genL_ok hg' hl k2 ((nK_ok hk).mono (Pre.refl _) (f5.trans hp2)) hw2)
            exact ⟨hc.1,.inr fun w0 a w E hr=>any_draw_e n pr F hc.2.1 hnl hc.2.2 f1 ht hr⟩
          · cases f3
        · cases f3
      · split at hh
        · rename_i hpl
          simp only [Bool.and_eq_true,List.all_eq_true] at hpl
          obtain ⟨kds,xs,qF,S',ρ1,σ1,g,f1,f2,f3,f4,f5⟩:=genH_ok hh hr hr (Pre.refl _) hw
          split at f3
          · rename_i hcf
            split at f3
            · rename_i g' hg'
              injection f3 with f3;subst f3
              obtain ⟨ρ2,he,hw2,hp2⟩:=wn_po (w_nds f4)
              obtain ⟨rfl,hsc⟩:=scs_ok he
              have ht : AOpsC P N ((addEs ops.toList n F).drop n) (onlyN Qp) (CF P (ldsF ops.toList F)) qF:=genT_ok hsc hg' hl f2 ((nK_ok hk).mono (Pre.refl _) f5) hw2
              exact ⟨hc.1,.inr fun w0 a w E hr=>any_draw_s n F hc.2.1 hc.2.2 hpl.1 f1 (sCF_ok hcf f2 hsc) (fun o ho x hx=>by
                have:=List.all_eq_true.1 (hpl.2 o ho) x hx
                simp only [Bool.and_eq_true,Bool.not_eq_true',beq_eq_false_iff_ne,ne_eq] at this
                exact this) ht hr⟩
            · cases f3
          · cases f3
        · cases hh
    · cases hh
  · cases hh
def kilS (V : List Nat) (Q : Sy) : Sy:={ Q with ob:=V.map (fun i=>(i,SO.dead)) ++ Q.ob }
def vOf (V : List Nat) (Q : Sy) (i : Nat) : Bool:=V.contains i || (match alook Q.ob i with | some .dead=>true | none=>true | _=>false)
def ldOkS (Q : Sy) (p : Nat) : Bool:=match alook Q.sl p with
  | some (.p false [.ptr i st _])=>(match Q.own i st with | some (.var _ _ _)=>true | _=>false)
  | some (.p false [.elt i st k _ _])=>(match Q.own i st with | some (.row _ _ k' _)=>decide (k' = k) | _=>false)
  | some (.p false [.rd _])=>true
  | _=>false
def ldVs (Q : Sy) (ps : List Nat) : List Nat:=ps.filterMap fun p=>match alook Q.sl p with | some (.p false [.ptr i _ _])=>some i | some (.p false [.elt i _ _ _ _])=>some i | _=>none
def rowsX (Q : Sy) : List Nat:=(List.range Q.n).filterMap fun i=>match alook Q.ob i with | some (.row _ _ _ x)=>some x | _=>none
theorem kil_look (V : List Nat) (l : List (Nat × SO)) (i : Nat) : alook (V.map (fun i=>(i,SO.dead)) ++ l) i = if V.contains i then some .dead else alook l i:=by
  induction V with
  | nil=>simp
  | cons v V ih =>
    simp only [List.map_cons,List.cons_append,alook]
    by_cases h : v = i
    · subst h;simp
    · rw [if_neg h,ih]
      have : (v :: V).contains i = V.contains i:=by simp [List.contains_cons,Ne.symm h]
      rw [this]
theorem kil_rel {V : List Nat} {Q : Sy} {ρ : List DV} {σ : List Nat} {q : AS} (hV : V.all (fun i=>decide (i < Q.n)) = true) (hr : Rel Q ρ σ q) : Rel (kilS V Q) ρ σ (kilA (vOf V Q) q):=by
  refine ⟨hr.n,hr.c,hr.m,hr.sl,fun i x hx=>?_,hr.kn⟩
  simp only [kilS] at hx
  rw [kil_look] at hx
  split at hx
  · rename_i hv
    injection hx with hx;subst hx
    have h1 : i < Q.n:=by simpa using List.all_eq_true.1 hV i (by simpa using hv)
    exact ⟨h1,trivial⟩
  · rename_i hv
    obtain ⟨h1,h2⟩:=hr.ob i x hx
    refine ⟨h1,?_⟩
    simp only [kilA]
    split
    · rename_i hk
      unfold vOf at hk
      rw [hx] at hk
      have hv' : V.contains i = false:=by simpa using hv
      rw [hv'] at hk
      cases x <;> first | trivial | (exact absurd hk (by simp))
    · exact h2
theorem flats_ok : ∀ {ds : List Nat} {ρ ρ' : List DV},evalPs (ds.map .flat) ρ = some ρ'→ρ' = ρ∧∀ i ∈ ds,∃ t k es,ρ[i]? = some (.sl t k es)∧Flat es.flatten
  | [],ρ,ρ',h=>by simp only [List.map_nil,evalPs] at h;injection h with h;exact ⟨h.symm,by simp⟩
  | i :: ds,ρ,ρ',h=>by
    simp only [List.map_cons,evalPs] at h
    split at h
    · rename_i out ho
      simp only [evalP] at ho
      split at ho
      · rename_i t k es hd
        split at ho
        · rename_i hs
          injection ho with ho;subst ho
          rw [List.append_nil] at h
          obtain ⟨e,ih⟩:=flats_ok h
          refine ⟨e,fun j hj=>?_⟩
          rcases List.mem_cons.1 hj with rfl | hj
          · refine ⟨t,k,es,hd,fun d hdm=>?_⟩
            have:=List.all_eq_true.1 hs d hdm
            cases d with
            | sc v=>exact ⟨v,rfl⟩
            | sl=>cases this
          · exact ih j hj
        · cases ho
      · cases ho
    · cases h
theorem kil_noO {V : List Nat} {Q : Sy} {ρ : List DV} {σ : List Nat} {q : AS} (hr : Rel Q ρ σ q) (hf : ∀ i ∈ rowsX Q,∃ t k es,ρ[i]? = some (.sl t k es)∧Flat es.flatten) : NoO (kilA (vOf V Q) q)∧DeadV (vOf V Q) q:=by
  refine ⟨fun i hi st t k es he=>?_,fun i hi he=>?_⟩
  · have hi : i < Q.n:=by rw [← hr.n];exact hi
    simp only [kilA] at he
    split at he
    · cases he
    · rename_i hk
      unfold vOf at hk
      cases hx : alook Q.ob i with
      | none=>rw [hx] at hk;simp at hk
      | some x =>
        obtain ⟨-,h2⟩:=hr.ob i x hx
        rw [he] at h2
        cases x with
        | row st' t' k' x =>
          obtain ⟨_,_,_,_,h3⟩:=h2
          obtain ⟨t2,k2,es2,h4,h5⟩:=hf x (List.mem_filterMap.2 ⟨i,List.mem_range.2 hi,by rw [hx]⟩)
          rw [h3] at h4;injection h4 with h4;injection h4 with _ _ h4;subst h4
          exact h5
        | dead=>rw [hx] at hk;simp at hk
        | _=>exact h2.elim
  · unfold vOf
    cases hx : alook Q.ob i with
    | none=>simp
    | some x =>
      obtain ⟨-,h2⟩:=hr.ob i x hx
      rw [he] at h2
      cases x with
      | dead=>simp
      | _=>exact h2.elim
theorem ldOkS_ok {V : List Nat} {Q : Sy} {ρ : List DV} {σ : List Nat} {q : AS} {p : Nat} (hr : Rel Q ρ σ q) (h : ldOkS Q p = true) (hV : ∀ i st off,alook Q.sl p = some (.p false [.ptr i st off])→i ∈ V) (hV2 : ∀ i st k j off,alook Q.sl p = some (.p false [.elt i st k j off])→i ∈ V) : ldOkA (vOf V Q) q (q.sl p):=by
  unfold ldOkS at h
  split at h
  · rename_i i st off h1
    split at h
    · rename_i a ty cs ho
      obtain ⟨y,y1,y2⟩:=one_rv (c:=.ptr i st off) rfl (hr.sl _ _ h1)
      cases y <;> first | exact y2.elim | skip
      obtain ⟨rfl,hst,rfl⟩:=y2
      obtain ⟨o',k1,k2,k3,k4⟩:=hr.own ho hst
      cases o' <;> first | exact k2.elim | skip
      rename_i b2 ty' ys
      obtain ⟨k5,rfl,k6⟩:=k2
      obtain rfl:=own_stV k1 rfl
      rw [y1]
      exact ⟨by unfold vOf;simp [hV _ _ _ h1],(own?_some k1).1,_,_,k1⟩
    · cases h
  · rename_i i st k j off h1
    split at h
    · rename_i a ty k' x ho
      have h:=of_decide_eq_true h
      subst h
      obtain ⟨y,y1,y2⟩:=one_rv (c:=.elt i st _ j off) rfl (hr.sl _ _ h1)
      cases y <;> first | exact y2.elim | skip
      obtain ⟨rfl,hst,rfl,-,rfl⟩:=y2
      obtain ⟨o',k1,k2,k3,k4⟩:=hr.own ho hst
      cases o' <;> first | exact k2.elim | skip
      rename_i b2 ty' kk es dp
      obtain ⟨k5,rfl,rfl,rfl,k6⟩:=k2
      obtain rfl:=own_stV k1 rfl
      rw [y1]
      exact ⟨by unfold vOf;simp [hV2 _ _ _ _ _ h1],(own?_some k1).1,_,_,_,k1⟩
    · cases h
  · rename_i cs h1
    obtain ⟨y,y1,y2⟩:=one_rv (c:=.rd cs) rfl (hr.sl _ _ h1)
    cases y <;> first | exact y2.elim | skip
    rw [y1]
    trivial
  · cases h
def drawR (P : Program) (N : Nat) (ow : OwK) (n : Nat) (F : List Nat) : Dt:=fun id ops lv S K =>
  if (P.follows .mixedOrders && (eagB ops.toList n F && drawB (addEs ops.toList n F) n)) && ((addEs ops.toList n F).take n).all (fun o=>plH o.op) then
    genH P N ow true (addEs ops.toList n F).toArray (fun Q =>
      if (ldsP ops.toList F).all (ldOkS Q) && (ldVs Q (ldsP ops.toList F)).all (fun i=>decide (i < Q.n)) then
        (match genT P N ow (sCF P [] []) ((addEs ops.toList n F).drop n) lv (kilS (ldVs Q (ldsP ops.toList F)) Q) (nK K) with
        | some g=>some (nds (((rowsX Q).map .flat).map .po) g) | none=>none) else none) ((addEs ops.toList n F).take n) S S
  else none
theorem drawR_any {n : Nat} {F : List Nat} {id : Nat} {ops : Array Oper} {lv : Nat} {S : Sy} {K : Kt} {pg : Pg} (hh : drawR P N ow n F id ops lv S K = some pg) {L : Lbl} {ρ : List DV} {σ : List Nat} {Qp : Exit→AS→Prop}
    (hl : lv = L.length) (hr : Rel S ρ σ s) (hk : KOk P R L ρ Qp K) (hw : W P R pg L ρ) : P.follows .mixedOrders = true∧AnyW P N ops.toList (onlyN Qp) s:=by
  unfold drawR at hh
  split at hh
  · rename_i hc
    simp only [Bool.and_eq_true] at hc
    obtain ⟨⟨hm,hE,hB⟩,hpl⟩:=hc
    obtain ⟨kds,xs,qF,S',ρ1,σ1,g,f1,f2,f3,f4,f5⟩:=genH_ok hh hr hr (Pre.refl _) hw
    split at f3
    · rename_i hcf
      simp only [Bool.and_eq_true] at hcf
      split at f3
      · rename_i g' hg'
        injection f3 with f3;subst f3
        obtain ⟨ρ2,he,hw2,hp2⟩:=wn_po (w_nds f4)
        obtain ⟨rfl,hfl⟩:=flats_ok he
        obtain ⟨n1,n2⟩:=kil_noO (V:=ldVs S' (ldsP ops.toList F)) f2 hfl
        have ht : AOpsC P N ((addEs ops.toList n F).drop n) (onlyN Qp) (CF P []) (kilA (vOf (ldVs S' (ldsP ops.toList F)) S') qF):=genT_ok (by simp) hg' hl (kil_rel hcf.2 f2) ((nK_ok hk).mono (Pre.refl _) f5) hw2
        refine ⟨hm,fun w0 a w E hr=>any_draw_r n F _ hE hB (fun o ho=>List.all_eq_true.1 hpl o ho) f1 (fun p hp=>ldOkS_ok f2 (List.all_eq_true.1 hcf.1 p hp) (fun i st off h1=>List.mem_filterMap.2 ⟨p,hp,by rw [h1]⟩) (fun i st k j off h1=>List.mem_filterMap.2 ⟨p,hp,by rw [h1]⟩)) n1 n2 (fun w0 a w E hr=>wpListC_mono (fun a w h=>?_) (fun _ _ _ h=>h) (ht w0 a w E hr)) hr⟩
        obtain ⟨s',E',_,h2⟩:=h
        exact ⟨s',E',trivial,h2⟩
      · cases f3
    · cases f3
  · cases hh
def drawX (P : Program) (N : Nat) (ow : OwK) (dn : List (Nat × Nat × Bool × List Nat)) : Dt:=fun id ops lv S K =>
  match alook dn id with
  | some (n,_,2000000 :: F)=>drawR P N ow n F id ops lv S K
  | _=>drawD P N ow dn id ops lv S K
theorem drawX_any {dn : List (Nat × Nat × Bool × List Nat)} {id : Nat} {ops : Array Oper} {lv : Nat} {S : Sy} {K : Kt} {pg : Pg} (hh : drawX P N ow dn id ops lv S K = some pg) {L : Lbl} {ρ : List DV} {σ : List Nat} {Qp : Exit→AS→Prop}
    (hl : lv = L.length) (hr : Rel S ρ σ s) (hk : KOk P R L ρ Qp K) (hw : W P R pg L ρ) : P.follows .mixedOrders = true∧(AnyW P N ops.toList Qp s ∨ AnyW P N ops.toList (onlyN Qp) s):=by
  unfold drawX at hh
  split at hh
  · obtain ⟨h1,h2⟩:=drawR_any hh hl hr hk hw
    exact ⟨h1,.inr h2⟩
  · exact drawD_any hh hl hr hk hw
def pmL (π : List Nat) (l : List Oper) : List Oper:=π.filterMap fun i=>(l[i]?).map (ren fun j=>π.idxOf j)
def permB (π : List Nat) (l : List Oper) : Bool:=decide (π.length = l.length) && (decide π.Nodup && (π.all (fun i=>decide (i < l.length)) && ((List.range l.length).all (fun i=>decide (i ∈ π)) && l.all fun o=>o.after.all (fun e=>decide (e.on < l.length)) && (match o.guard with | some g=>decide (g.1 < l.length) | none=>true))))
theorem pmL_map {π : List Nat} (h : ∀ i ∈ π,i < l.length) : ∀ k : Nat,(pmL π l)[k]? = (π[k]?).bind fun i=>(l[i]?).map (ren fun j=>π.idxOf j):=by
  have key : ∀ (f : Nat→Nat) (r : List Nat),(∀ i ∈ r,i < l.length)→∀ k : Nat,(r.filterMap fun i=>(l[i]?).map (ren f))[k]? = (r[k]?).bind fun i=>(l[i]?).map (ren f):=by
    intro f r
    induction r with
    | nil=>intro _ k;rfl
    | cons i r ih =>
      intro hr k
      have hi:=hr i (List.mem_cons_self ..)
      rw [List.filterMap_cons,List.getElem?_eq_getElem hi]
      cases k with
      | zero=>simp [List.getElem?_eq_getElem hi]
      | succ k=>simpa using ih (fun j hj=>hr j (List.mem_cons_of_mem _ hj)) k
  exact key _ π h
theorem permB_pm {π : List Nat} (h : permB π l = true) : Pm (fun j=>π.idxOf j) l.length l (pmL π l):=by
  unfold permB at h
  simp only [Bool.and_eq_true,decide_eq_true_eq,List.all_eq_true,Array.all_eq_true_iff_forall_mem] at h
  obtain ⟨h1,h2,h3,h5,h4⟩:=h
  have hmem : ∀ i,i < l.length→i ∈ π:=fun i hi=>h5 i (List.mem_range.2 hi)
  have hg:=pmL_map h3
  have hlen : (pmL π l).length = l.length:=by
    have : ∀ k,k < l.length→((pmL π l)[k]?).isSome:=by
      intro k hk
      have hkp : k < π.length:=by omega
      have hlt:=h3 _ (List.getElem_mem hkp)
      rw [hg,List.getElem?_eq_getElem hkp,Option.bind_some,List.getElem?_eq_getElem hlt]
      rfl
    have hle : (pmL π l).length≤π.length:=List.length_filterMap_le _ _
    rcases Nat.lt_or_ge (pmL π l).length l.length with hlt | hge
    · have:=this _ hlt
      rw [List.getElem?_eq_none (Nat.le_refl _)] at this
      cases this
    · omega
  refine ⟨rfl,hlen,fun i hi=>?_,fun i j hi hj he=>?_,fun j hj=>?_,fun i o ho=>?_,fun i o ho=>?_⟩
  · have:=List.idxOf_lt_length_of_mem (hmem i hi)
    omega
  · have e1:=List.getElem_idxOf (List.idxOf_lt_length_of_mem (hmem i hi))
    have e2:=List.getElem_idxOf (List.idxOf_lt_length_of_mem (hmem j hj))
    rw [← e1,← e2]
    congr 1
  · have hjp : j < π.length:=by omega
    refine ⟨π[j],h3 _ (List.getElem_mem hjp),?_⟩
    exact List.Nodup.idxOf_getElem h2 j hjp
  · have hi : i < l.length:=(List.getElem?_eq_some_iff.1 ho).1
    have hlt:=List.idxOf_lt_length_of_mem (hmem i hi)
    rw [hg,List.getElem?_eq_getElem hlt,Option.bind_some,List.getElem_idxOf hlt,ho]
    rfl
  · have:=h4 o (List.mem_of_getElem? ho)
    refine ⟨fun e he=>this.1 e he,fun j b hgd=>?_⟩
    have h6:=this.2
    rw [hgd] at h6
    simpa using h6
def drawP (P : Program) (N : Nat) (ow : OwK) (dn : List (Nat × Nat × Bool × List Nat)) : Dt:=fun id ops lv S K =>
  match alook dn id with
  | some (n,pr,1000000 :: r) =>
    if permB (r.takeWhile (· < 1000000)) ops.toList then drawX P N ow [(id,n,pr,(r.dropWhile (· < 1000000)).drop 1)] id (pmL (r.takeWhile (· < 1000000)) ops.toList).toArray lv S K else none
  | _=>drawX P N ow dn id ops lv S K
theorem drawP_ok {dn : List (Nat × Nat × Bool × List Nat)} : DOk P R N (drawP P N ow dn):=by
  intro id ops lv S K pg hh L ρ σ s Qp hl hr hk hw
  unfold drawP at hh
  split at hh
  · split at hh
    · rename_i hp
      obtain ⟨hm,h⟩:=drawX_any hh hl hr hk hw
      have hpm:=permB_pm hp
      rw [List.toList_toArray] at h
      have e : (Code.region id ops true) = .region id ops.toList.toArray true:=by simp
      rw [e]
      rcases h with h | h
      · exact anyW_region hm (anyW_perm hpm h)
      · exact awp_onlyN (anyW_region hm (anyW_perm hpm h))
    · cases hh
  · obtain ⟨hm,h⟩:=drawX_any hh hl hr hk hw
    have e : (Code.region id ops true) = .region id ops.toList.toArray true:=by simp
    rw [e]
    rcases h with h | h
    · exact anyW_region hm h
    · exact awp_onlyN (anyW_region hm h)
end
end Go.Proofs.Ytkeoohonidpjeaa
namespace Go.Proofs.Ytkeoohonidpjeaa
open Go.RowKit
def psh {α : Type} : List α→List α→List α
  | [],r=>r
  | x :: e,r=>psh e (x :: r)
inductive UP where
  | po (o : PO) (k : UP)
  | cl (f : FuncId) (a : List (Bool × List Nat)) (sh : Sh) (k : UP)
  | mk (f : FuncId) (b : Bool) (xs : List (Nat × Nat)) (j : Nat) (k : UP)
  | ite (x : Nat) (a b : UP)
  | jump (l : Nat) (xs : List Nat)
  | join (n : Nat) (rest k : UP)
  | loop (xs : List Nat) (body : UP)
  | ret (xs : List (Bool × List Nat))
  | sel (xs : List Nat) (k : UP)
def V (P : Program) (R : List (Bool × List DV)→Prop) : UP→Lbl→List DV→Prop
  | .po o k,L,ρ=>(match evalP ρ o with | some out=>V P R k L (psh out ρ) | none=>False)
  | .cl f a sh k,L,ρ=>∃ ys res,gArgs ρ a = some ys∧MeetsX P f ys res∧shOk sh res = true∧V P R k L (psh (flatR res) ρ)
  | .mk f b xs j k,L,ρ=>∃ ds ds' n n',gL ρ (xs.map (·.1)) = some ds∧ρ[j]? = some (.sc (.int .i64 n))∧Marks P f b ds n ds' n'∧mkEq xs ds ds'∧V P R k L (psh (ds' ++ [.sc (.int .i64 n')]) ρ)
  | .ite x a b,L,ρ=>(match ρ[x]? with | some (.sc (.bool c))=>(match c with | true=>V P R a L ρ | false=>V P R b L ρ) | _=>False)
  | .jump l xs,L,ρ=>∃ J vs,L[l]? = some J∧gL ρ xs = some vs∧J vs
  | .join n rest k,L,ρ=>∃ J : List DV→Prop,(∀ vs,vs.length = n→J vs→V P R rest L (psh vs ρ))∧V P R k (L ++ [J]) ρ
  | .loop xs body,L,ρ=>∃ (I : List DV→Nat→Prop) (m : Nat) (vs : List DV),gL ρ xs = some vs∧I vs m∧∀ vs m,vs.length = xs.length→I vs m→V P R body (L ++ [fun vs'=>∃ m',m' < m∧I vs' m']) (psh vs ρ)
  | .ret xs,L,ρ=>∃ vs,gArgs ρ xs = some vs∧R vs
  | .sel xs k,L,ρ=>(match gL ρ xs with | some vs=>V P R k L vs | none=>False)
def pos : List Nat→Nat→Option Nat
  | [],_=>none
  | j :: r,i=>if j = i then some 0 else (match pos r i with | some p=>some (p + 1) | none=>none)
theorem pos_get : ∀ {μ : List Nat} {i p : Nat},pos μ i = some p→μ[p]? = some i
  | [],i,p,h=>by simp [pos] at h
  | j :: r,i,p,h=>by
    simp only [pos] at h
    split at h
    · rename_i e;injection h with h;subst e h;rfl
    · split at h
      · rename_i q hq;injection h with h;subst h;simpa using pos_get hq
      · cases h
def Al (μ : List Nat) (ρ ρ' : List DV) : Prop:=∀ (p i : Nat),μ[p]? = some i→ρ'[p]? = ρ[i]?
theorem Al.look {μ : List Nat} {ρ ρ' : List DV} (h : Al μ ρ ρ') {i p : Nat} (hp : pos μ i = some p) : ρ'[p]? = ρ[i]?:=h p i (pos_get hp)
theorem Al.one {μ : List Nat} {ρ ρ' : List DV} (h : Al μ ρ ρ') (hb : ∀ i ∈ μ,i < ρ.length) (x : DV) : Al (ρ.length :: μ) (ρ ++ [x]) (x :: ρ'):=by
  intro p i hp
  cases p with
  | zero=>simp at hp;subst hp;simp
  | succ p =>
    simp only [List.getElem?_cons_succ] at hp ⊢
    have:=hb i (List.mem_of_getElem? hp)
    rw [h p i hp,List.getElem?_append_left this]
theorem Al.many : ∀ {e : List DV} {μ : List Nat} {ρ ρ' : List DV},Al μ ρ ρ'→(∀ i ∈ μ,i < ρ.length)→Al (psh (vars ρ.length e.length) μ) (ρ ++ e) (psh e ρ')∧∀ i ∈ psh (vars ρ.length e.length) μ,i < (ρ ++ e).length
  | [],μ,ρ,ρ',h,hb=>by simpa [psh,vars] using ⟨h,hb⟩
  | x :: e,μ,ρ,ρ',h,hb=>by
    have h1:=h.one hb x
    have h2 : ∀ i ∈ ρ.length :: μ,i < (ρ ++ [x]).length:=by
      intro i hi
      rcases List.mem_cons.1 hi with rfl | hi
      · simp
      · have:=hb i hi;simp;omega
    have:=Al.many (e:=e) h1 h2
    simpa [psh,vars] using this
def pO (μ : List Nat) : Option Nat→Option (Option Nat)
  | none=>some none
  | some i=>(match pos μ i with | some p=>some (some p) | none=>none)
def pL (μ : List Nat) : List Nat→Option (List Nat)
  | []=>some []
  | i :: r=>(match pos μ i,pL μ r with | some p,some q=>some (p :: q) | _,_=>none)
def pLL (μ : List Nat) : List (List Nat)→Option (List (List Nat))
  | []=>some []
  | i :: r=>(match pL μ i,pLL μ r with | some p,some q=>some (p :: q) | _,_=>none)
def pA (μ : List Nat) : List (Bool × List Nat)→Option (List (Bool × List Nat))
  | []=>some []
  | (b,i) :: r=>(match pL μ i,pA μ r with | some p,some q=>some ((b,p) :: q) | _,_=>none)
section
variable {μ : List Nat} {ρ ρ' : List DV}
theorem gI_al (h : Al μ ρ ρ') {i p : Nat} (hp : pos μ i = some p) : gI ρ' p = gI ρ i:=by unfold gI;rw [h.look hp]
theorem gIo_al (h : Al μ ρ ρ') {i p : Option Nat} (hp : pO μ i = some p) : gIo ρ' p = gIo ρ i:=by
  cases i with
  | none=>simp only [pO] at hp;injection hp with hp;subst hp;rfl
  | some i =>
    simp only [pO] at hp
    split at hp
    · rename_i q hq;injection hp with hp;subst hp;simp only [gIo,gI_al h hq]
    · cases hp
theorem gL_al (h : Al μ ρ ρ') : ∀ {is ps : List Nat},pL μ is = some ps→gL ρ' ps = gL ρ is
  | [],ps,hp=>by simp only [pL] at hp;injection hp with hp;subst hp;rfl
  | i :: is,ps,hp=>by
    simp only [pL] at hp
    split at hp
    · rename_i p q h1 h2;injection hp with hp;subst hp;simp only [gL,h.look h1,gL_al h h2]
    · cases hp
theorem gLL_al (h : Al μ ρ ρ') : ∀ {is ps : List (List Nat)},pLL μ is = some ps→gLL ρ' ps = gLL ρ is
  | [],ps,hp=>by simp only [pLL] at hp;injection hp with hp;subst hp;rfl
  | i :: is,ps,hp=>by
    simp only [pLL] at hp
    split at hp
    · rename_i p q h1 h2;injection hp with hp;subst hp;simp only [gLL,gL_al h h1,gLL_al h h2]
    · cases hp
theorem gArgs_al (h : Al μ ρ ρ') : ∀ {is ps : List (Bool × List Nat)},pA μ is = some ps→gArgs ρ' ps = gArgs ρ is
  | [],ps,hp=>by simp only [pA] at hp;injection hp with hp;subst hp;rfl
  | (b,i) :: is,ps,hp=>by
    simp only [pA] at hp
    split at hp
    · rename_i p q h1 h2;injection hp with hp;subst hp;simp only [gArgs,gL_al h h1,gArgs_al h h2]
    · cases hp
end
def mapO (μ : List Nat) : PO→Option PO
  | .k v=>some (.k v)
  | .e t k=>some (.e t k)
  | .sc x=>(match pos μ x with | some x=>some (.sc x) | none=>none)
  | .isI x=>(match pos μ x with | some x=>some (.isI x) | none=>none)
  | .flat x=>(match pos μ x with | some x=>some (.flat x) | none=>none)
  | .bin op b x y=>(match pos μ x,pos μ y with | some x,some y=>some (.bin op b x y) | _,_=>none)
  | .un op x=>(match pos μ x with | some x=>some (.un op x) | none=>none)
  | .cvI k x=>(match pos μ x with | some x=>some (.cvI k x) | none=>none)
  | .cvS x=>(match pos μ x with | some x=>some (.cvS x) | none=>none)
  | .cvB x=>(match pos μ x with | some x=>some (.cvB x) | none=>none)
  | .lenS x=>(match pos μ x with | some x=>some (.lenS x) | none=>none)
  | .lenL x=>(match pos μ x with | some x=>some (.lenL x) | none=>none)
  | .chr x i=>(match pos μ x,pos μ i with | some x,some i=>some (.chr x i) | _,_=>none)
  | .idx k x i=>(match pos μ x,pos μ i with | some x,some i=>some (.idx k x i) | _,_=>none)
  | .chk k x i=>(match pos μ x,pos μ i with | some x,some i=>some (.chk k x i) | _,_=>none)
  | .cutS x lo hi=>(match pos μ x,pO μ lo,pO μ hi with | some x,some lo,some hi=>some (.cutS x lo hi) | _,_,_=>none)
  | .cutL k x lo hi=>(match pos μ x,pO μ lo,pO μ hi with | some x,some lo,some hi=>some (.cutL k x lo hi) | _,_,_=>none)
  | .app el k b x y=>(match pos μ x,pos μ y with | some x,some y=>some (.app el k b x y) | _,_=>none)
  | .mk el k rows=>(match pLL μ rows with | some r=>some (.mk el k r) | none=>none)
  | .make el k b z n=>(match pos μ n with | some n=>some (.make el k b z n) | none=>none)
  | .set k x j off vs=>(match pos μ x,pos μ j,pL μ vs with | some x,some j,some vs=>some (.set k x j off vs) | _,_,_=>none)
  | .mm mx x y=>(match pos μ x,pos μ y with | some x,some y=>some (.mm mx x y) | _,_=>none)
  | .eqS neg ks xs ys=>(match pL μ xs,pL μ ys with | some xs,some ys=>some (.eqS neg ks xs ys) | _,_=>none)
  | .cutI x lo hi=>(match pos μ x,pO μ lo,pO μ hi with | some x,some lo,some hi=>some (.cutI x lo hi) | _,_,_=>none)
  | .cutJ z m lo hi=>(match pos μ z,pos μ m,pO μ lo,pO μ hi with | some z,some m,some lo,some hi=>some (.cutJ z m lo hi) | _,_,_,_=>none)
  | .atJ z m i=>(match pos μ z,pos μ m,pos μ i with | some z,some m,some i=>some (.atJ z m i) | _,_,_=>none)
  | .viewD x z m=>(match pos μ x,pos μ z,pos μ m with | some x,some z,some m=>some (.viewD x z m) | _,_,_=>none)
  | .cutP x z m=>(match pos μ x,pos μ z,pos μ m with | some x,some z,some m=>some (.cutP x z m) | _,_,_=>none)
  | .emp x=>(match pos μ x with | some x=>some (.emp x) | none=>none)
  | .unc z n=>(match pos μ z with | some z=>some (.unc z n) | none=>none)
  | .cuS z off v=>(match pos μ z,pos μ v with | some z,some v=>some (.cuS z off v) | _,_=>none)
  | .stop k=>some (.stop k)
  | .cpy k x lo n lo' n'=>(match pos μ x,pos μ lo,pos μ n,pos μ lo',pos μ n' with | some x,some lo,some n,some lo',some n'=>some (.cpy k x lo n lo' n') | _,_,_,_,_=>none)
def outN : PO→Nat
  | .sc _ | .isI _ | .flat _ | .chk _ _ _=>0
  | .idx k _ _=>k
  | .cutI _ _ _ | .cutJ _ _ _ _ | .cpy _ _ _ _ _ _=>2
  | .unc _ n | .stop n=>n
  | _=>1
theorem mapO_al {μ : List Nat} {ρ ρ' : List DV} (h : Al μ ρ ρ') {o o' : PO} (ho : mapO μ o = some o') : evalP ρ' o' = evalP ρ o:=by
  cases o <;> simp only [mapO] at ho
  all_goals first
    | (injection ho with ho;subst ho;rfl)
    | (split at ho
       · injection ho with ho;subst ho
         rename_i h1 h2 h3
         simp only [evalP,h.look h1,h.look h2,gIo_al h h2,gIo_al h h3,gL_al h h3]
       · cases ho)
    | (split at ho
       · injection ho with ho;subst ho
         rename_i h1 h2 h3
         simp only [evalP,h.look h1,gIo_al h h2,gIo_al h h3]
       · cases ho)
    | (split at ho
       · injection ho with ho;subst ho
         rename_i h1 h2 h3
         simp only [evalP,h.look h1,h.look h2,gL_al h h3]
       · cases ho)
    | (split at ho
       · injection ho with ho;subst ho
         rename_i h1 h2 h3
         simp only [evalP,h.look h1,h.look h2,h.look h3]
       · cases ho)
    | (split at ho
       · injection ho with ho;subst ho
         rename_i h1 h2 h3 h4
         simp only [evalP,h.look h1,h.look h2,gIo_al h h3,gIo_al h h4]
       · cases ho)
    | (split at ho
       · injection ho with ho;subst ho
         rename_i h1 h2
         simp only [evalP,h.look h1,h.look h2]
       · cases ho)
    | (split at ho
       · injection ho with ho;subst ho
         rename_i h1 h2
         simp only [evalP,gL_al h h1,gL_al h h2]
       · cases ho)
    | (split at ho
       · injection ho with ho;subst ho
         rename_i h1
         simp only [evalP,h.look h1]
       · cases ho)
    | (split at ho
       · injection ho with ho;subst ho
         rename_i h1
         simp only [evalP,gLL_al h h1]
       · cases ho)
    | (split at ho
       · injection ho with ho;subst ho
         rename_i h1 h2 h3 h4 h5
         simp only [evalP,h.look h1,h.look h2,h.look h3,h.look h4,h.look h5]
       · cases ho)
theorem evalP_len {ρ : List DV} {o : PO} {out : List DV} (h : evalP ρ o = some out) : out.length = outN o:=by
  cases o with
  | idx k x i=>obtain ⟨t,es,kd,z,h1,h2,h3,h4,h5⟩:=idx_eval h;exact h5
  | unc z n =>
    simp only [evalP] at h
    split at h
    · split at h
      · rename_i hl;injection h with h;subst h;simpa [outN] using hl
      · cases h
    · cases h
  | _ =>
    simp only [evalP] at h
    repeat' split at h
    all_goals first
      | (injection h with h;subst h;rfl)
      | (cases h;done)
      | (unfold sc1 at h;split at h <;> first | (injection h with h;subst h;rfl) | cases h)
def mk1 (i : Nat) : Nat:=1 <<< i
def mkL : List Nat→Nat
  | []=>0
  | i :: r=>mk1 i ||| mkL r
def mkO : Option Nat→Nat
  | none=>0
  | some i=>mk1 i
def mkLL : List (List Nat)→Nat
  | []=>0
  | i :: r=>mkL i ||| mkLL r
def mkA : List (Bool × List Nat)→Nat
  | []=>0
  | (_,i) :: r=>mkL i ||| mkA r
def fvO : PO→Nat
  | .k _ | .e _ _ | .stop _=>0
  | .cpy _ x lo n lo' n'=>mk1 x ||| (mk1 lo ||| (mk1 n ||| (mk1 lo' ||| mk1 n')))
  | .sc x | .isI x | .flat x | .un _ x | .cvI _ x | .cvS x | .cvB x | .lenS x | .lenL x | .make _ _ _ _ x | .emp x | .unc x _=>mk1 x
  | .cuS x _ y=>mk1 x ||| mk1 y
  | .bin _ _ x y | .chr x y | .idx _ x y | .chk _ x y | .app _ _ _ x y | .mm _ x y=>mk1 x ||| mk1 y
  | .cutS x lo hi | .cutL _ x lo hi | .cutI x lo hi=>mk1 x ||| (mkO lo ||| mkO hi)
  | .cutJ z m lo hi=>mk1 z ||| (mk1 m ||| (mkO lo ||| mkO hi))
  | .atJ x y z | .viewD x y z | .cutP x y z=>mk1 x ||| (mk1 y ||| mk1 z)
  | .mk _ _ rows=>mkLL rows
  | .set _ x j _ vs=>mk1 x ||| (mk1 j ||| mkL vs)
  | .eqS _ _ xs ys=>mkL xs ||| mkL ys
def fv : Pg→Nat
  | .nd (.po o) k=>fvO o ||| fv k
  | .nd (.call _ a _) k=>mkA a ||| fv k
  | .nd (.mark _ _ xs j) k=>mkL (xs.map (·.1)) ||| (mk1 j ||| fv k)
  | .ite x a b=>mk1 x ||| (fv a ||| fv b)
  | .jump _ xs=>mkL xs
  | .join _ rest k=>fv rest ||| fv k
  | .loop xs body=>mkL xs ||| fv body
  | .ret xs=>mkA xs
def keep (msk : Nat) : List Nat→Nat→List Nat × List Nat
  | [],_=>([],[])
  | i :: r,p=>if (msk >>> i) % 2 = 1 then (p :: (keep msk r (p + 1)).1,i :: (keep msk r (p + 1)).2) else keep msk r (p + 1)
theorem keep_ok {msk : Nat} {μ0 : List Nat} : ∀ {μ pre : List Nat},μ0 = pre ++ μ→∀ (j : Nat) (i : Nat),(keep msk μ pre.length).2[j]? = some i→∃ p,(keep msk μ pre.length).1[j]? = some p∧μ0[p]? = some i
  | [],pre,h,j,i,hi=>by simp [keep] at hi
  | x :: μ,pre,h,j,i,hi=>by
    have hr:=keep_ok (msk:=msk) (μ0:=μ0) (μ:=μ) (pre:=pre ++ [x]) (by simp [h])
    simp only [List.length_append,List.length_singleton] at hr
    simp only [keep] at hi ⊢
    split
    · rename_i hm
      rw [if_pos hm] at hi
      cases j with
      | zero=>simp at hi;subst hi;exact ⟨pre.length,by simp,by rw [h];simp⟩
      | succ j=>simpa using hr j i (by simpa using hi)
    · rename_i hm
      rw [if_neg hm] at hi
      exact hr j i hi
def prn (msk : Nat) (μ : List Nat) (f : List Nat→Option UP) : Option UP :=
  if (keep msk μ 0).2.length + 3 < μ.length then (match f (keep msk μ 0).2 with | some k=>some (.sel (keep msk μ 0).1 k) | none=>none) else f μ
def cv : Pg→Nat→List Nat→Option UP
  | .nd (.po o) k,m,μ=>(match mapO μ o,cv k (m + outN o) (psh (vars m (outN o)) μ) with | some o,some k=>some (.po o k) | _,_=>none)
  | .nd (.call f a sh) k,m,μ=>prn (mkA a ||| fv k) μ fun μ=>(match pA μ a,cv k (m + shLen sh) (psh (vars m (shLen sh)) μ) with | some a,some k=>some (.cl f a sh k) | _,_=>none)
  | .nd (.mark f b xs j) k,m,μ=>prn (mkL (xs.map (·.1)) ||| (mk1 j ||| fv k)) μ fun μ=>(match pL μ (xs.map (·.1)),pos μ j,cv k (m + (xs.length + 1)) (psh (vars m (xs.length + 1)) μ) with | some ys,some j,some k=>some (.mk f b (ys.zip (xs.map (·.2))) j k) | _,_,_=>none)
  | .ite x a b,m,μ=>(match pos μ x,cv a m μ,cv b m μ with | some x,some a,some b=>some (.ite x a b) | _,_,_=>none)
  | .jump l xs,m,μ=>(match pL μ xs with | some xs=>some (.jump l xs) | none=>none)
  | .join n rest k,m,μ=>prn (fv rest ||| fv k) μ fun μ=>(match cv rest (m + n) (psh (vars m n) μ),cv k m μ with | some rest,some k=>some (.join n rest k) | _,_=>none)
  | .loop xs body,m,μ=>prn (mkL xs ||| fv body) μ fun μ=>(match pL μ xs,cv body (m + xs.length) (psh (vars m xs.length) μ) with | some xs,some body=>some (.loop xs body) | _,_=>none)
  | .ret xs,m,μ=>(match pA μ xs with | some xs=>some (.ret xs) | none=>none)
section
variable {P : Program} {R : List (Bool × List DV)→Prop}
theorem Al.keep {μ : List Nat} {ρ ρ' vs : List DV} {msk : Nat} (h : Al μ ρ ρ') (hb : ∀ i ∈ μ,i < ρ.length) (hv : gL ρ' (keep msk μ 0).1 = some vs) : Al (keep msk μ 0).2 ρ vs∧∀ i ∈ (keep msk μ 0).2,i < ρ.length:=by
  have hk:=keep_ok (msk:=msk) (μ0:=μ) (μ:=μ) (pre:=[]) rfl
  simp only [List.length_nil] at hk
  refine ⟨fun j i hi=>?_,fun i hi=>?_⟩
  · obtain ⟨p,h1,h2⟩:=hk j i hi
    obtain ⟨x,x1,x2⟩:=(gL_rd hv).at h1
    rw [x1,← h p i h2,x2]
  · obtain ⟨j,hj⟩:=List.getElem?_of_mem hi
    obtain ⟨p,h1,h2⟩:=hk j i hj
    exact hb i (List.mem_of_getElem? h2)
theorem prn_ok {msk : Nat} {μ : List Nat} {f : List Nat→Option UP} {up : UP} {L : Lbl} {ρ ρ' : List DV} {Z : Prop} (h : prn msk μ f = some up) (ha : Al μ ρ ρ') (hb : ∀ i ∈ μ,i < ρ.length) (hv : V P R up L ρ')
    (hk : ∀ μ up ρ',f μ = some up→Al μ ρ ρ'→(∀ i ∈ μ,i < ρ.length)→V P R up L ρ'→Z) : Z:=by
  unfold prn at h
  split at h
  · split at h
    · rename_i k hf
      injection h with h;subst h
      simp only [V] at hv
      split at hv
      · rename_i vs hg
        obtain ⟨h1,h2⟩:=ha.keep hb hg
        exact hk _ _ _ hf h1 h2 hv
      · exact hv.elim
    · cases h
  · exact hk _ _ _ h ha hb hv
theorem pL_len {μ : List Nat} : ∀ {is ps : List Nat},pL μ is = some ps→ps.length = is.length
  | [],ps,hp=>by simp only [pL] at hp;injection hp with hp;subst hp;rfl
  | i :: is,ps,hp=>by
    simp only [pL] at hp
    split at hp
    · rename_i p q h1 h2;injection hp with hp;subst hp;simp [pL_len h2]
    · cases hp
theorem mkEq_kinds : ∀ {xs ys : List (Nat × Nat)} {ds ds' : List DV},xs.map (·.2) = ys.map (·.2)→mkEq xs ds ds'→mkEq ys ds ds'
  | [],[],[],[],_,_=>trivial
  | (a,b) :: xs,(c,d) :: ys,ds,ds',h,hm=>by
    simp only [List.map_cons,List.cons.injEq] at h
    obtain ⟨rfl,h⟩:=h
    match b,ds,ds',hm with
    | 0,d :: ds,d' :: ds',hm=>exact ⟨hm.1,mkEq_kinds h hm.2⟩
    | 1,d :: ds,d' :: ds',hm=>exact ⟨hm.1,mkEq_kinds h hm.2⟩
    | 2,d :: ds,d' :: ds',hm=>exact mkEq_kinds (ds:=ds) (ds':=ds') h hm
  | [],_ :: _,_,_,h,_=>by simp at h
  | _ :: _,[],_,_,h,_=>by simp at h
theorem mkEq_len : ∀ {xs : List (Nat × Nat)} {ds ds' : List DV},mkEq xs ds ds'→ds'.length = xs.length
  | [],[],[],_=>rfl
  | (a,0) :: xs,d :: ds,d' :: ds',hm=>by simp [mkEq_len hm.2]
  | (a,1) :: xs,d :: ds,d' :: ds',hm=>by simp [mkEq_len hm.2]
  | (a,2) :: xs,d :: ds,d' :: ds',hm=>by simp [mkEq_len (ds:=ds) (show mkEq xs ds ds' from hm)]
theorem cv_ok : ∀ (pg : Pg) {m : Nat} {μ : List Nat} {up : UP} {L : Lbl} {ρ ρ' : List DV},cv pg m μ = some up→m = ρ.length→Al μ ρ ρ'→(∀ i ∈ μ,i < ρ.length)→V P R up L ρ'→W P R pg L ρ:=by
  intro pg
  induction pg with
  | nd n k ih =>
    intro m μ up L ρ ρ' h hm ha hb hv
    subst hm
    cases n with
    | po o =>
      simp only [cv] at h
      split at h
      · rename_i o' k' h1 h2
        injection h with h;subst h
        simp only [V] at hv
        rw [mapO_al ha h1] at hv
        simp only [W]
        split at hv
        · rename_i out ho
          rw [ho]
          have hl:=evalP_len ho
          obtain ⟨a1,a2⟩:=ha.many (e:=out) hb
          rw [hl] at a1 a2
          exact ih h2 (by simp [hl]) a1 a2 hv
        · exact hv.elim
      · cases h
    | call f a sh =>
      simp only [cv] at h
      refine prn_ok h ha hb hv ?_
      intro μ up ρ' h ha hb hv
      split at h
      · rename_i a' k' h1 h2
        injection h with h;subst h
        simp only [V] at hv
        obtain ⟨ys,res,v1,v2,v3,v4⟩:=hv
        rw [gArgs_al ha h1] at v1
        simp only [W]
        have hl:=shOk_len v3
        obtain ⟨a1,a2⟩:=ha.many (e:=flatR res) hb
        rw [hl] at a1 a2
        exact ⟨ys,res,v1,v2,v3,ih h2 (by simp [hl]) a1 a2 v4⟩
      · cases h
    | mark f b xs j =>
      simp only [cv] at h
      refine prn_ok h ha hb hv ?_
      intro μ up ρ' h ha hb hv
      split at h
      · rename_i ys j' k' h1 h3 h2
        injection h with h;subst h
        simp only [V] at hv
        obtain ⟨ds,ds',n,n',v1,v2,v3,v4,v5⟩:=hv
        have hyl:=pL_len h1
        rw [List.length_map] at hyl
        have e1 : (ys.zip (xs.map (·.2))).map (·.1) = ys:=by rw [List.map_fst_zip (by simp [hyl])]
        have e2 : (ys.zip (xs.map (·.2))).map (·.2) = xs.map (·.2):=by rw [List.map_snd_zip (by simp [hyl])]
        rw [e1,gL_al ha h1] at v1
        rw [ha.look h3] at v2
        have v4':=mkEq_kinds e2 v4
        have hl:=mkEq_len v4'
        simp only [W]
        obtain ⟨a1,a2⟩:=ha.many (e:=ds' ++ [.sc (.int .i64 n')]) hb
        have hl2 : (ds' ++ [DV.sc (.int .i64 n')]).length = xs.length + 1:=by simp [hl]
        rw [hl2] at a1 a2
        exact ⟨ds,ds',n,n',v1,v2,v3,v4',ih h2 (by rw [List.length_append,hl2]) a1 a2 v5⟩
      · cases h
  | ite x a b iha ihb =>
    intro m μ up L ρ ρ' h hm ha hb hv
    simp only [cv] at h
    split at h
    · rename_i x' a' b' h1 h2 h3
      injection h with h;subst h
      simp only [V] at hv
      simp only [W]
      rw [ha.look h1] at hv
      split at hv
      · rename_i c hc
        rw [hc]
        cases c with
        | true=>exact iha h2 hm ha hb hv
        | false=>exact ihb h3 hm ha hb hv
      · exact hv.elim
    · cases h
  | jump l xs =>
    intro m μ up L ρ ρ' h hm ha hb hv
    simp only [cv] at h
    split at h
    · rename_i ys h1
      injection h with h;subst h
      simp only [V,gL_al ha h1] at hv
      exact hv
    · cases h
  | join n rest k ihr ihk =>
    intro m μ up L ρ ρ' h hm ha hb hv
    subst hm
    simp only [cv] at h
    refine prn_ok h ha hb hv ?_
    intro μ up ρ' h ha hb hv
    split at h
    · rename_i r' k' h1 h2
      injection h with h;subst h
      simp only [V] at hv
      obtain ⟨J,j1,j2⟩:=hv
      refine ⟨J,fun vs hl hJ=>?_,ihk h2 rfl ha hb j2⟩
      obtain ⟨a1,a2⟩:=ha.many (e:=vs) hb
      rw [hl] at a1 a2
      exact ihr h1 (by simp [hl]) a1 a2 (j1 vs hl hJ)
    · cases h
  | loop xs body ih =>
    intro m μ up L ρ ρ' h hm ha hb hv
    subst hm
    simp only [cv] at h
    refine prn_ok h ha hb hv ?_
    intro μ up ρ' h ha hb hv
    split at h
    · rename_i ys b' h1 h2
      injection h with h;subst h
      simp only [V] at hv
      obtain ⟨I,m,vs,v1,v2,v3⟩:=hv
      rw [gL_al ha h1] at v1
      refine ⟨I,m,vs,v1,v2,fun vs m hl hI=>?_⟩
      obtain ⟨a1,a2⟩:=ha.many (e:=vs) hb
      rw [hl] at a1 a2
      exact ih h2 (by simp [hl]) a1 a2 (v3 vs m (by rw [hl,pL_len h1]) hI)
    · cases h
  | ret xs =>
    intro m μ up L ρ ρ' h hm ha hb hv
    simp only [cv] at h
    split at h
    · rename_i ys h1
      injection h with h;subst h
      simp only [V,gArgs_al ha h1] at hv
      exact hv
    · cases h
def toUP (P : Program) (N : Nat) (ow : OwK) (hs : List Hint) (dn : List (Nat × Nat × Bool × List Nat)) (c : Code) (sh : List (Bool × Nat)) (rvs : List ResultVar) (ty : List (List (Option (Nat × Nat)))) : Option UP :=
  match gen P N ow hs (drawP P N ow dn) c 0 (initSy sh) (retKt P rvs ty) with
  | some pg=>cv pg ((sh.map (·.2)).sum) (psh (vars 0 ((sh.map (·.2)).sum)) [])
  | none=>none
theorem sum_flatA (args : List (Bool × List DV)) : ((shA args).map (·.2)).sum = (flatA args).length:=by
  induction args with
  | nil=>rfl
  | cons a r ih=>obtain ⟨b,ds⟩:=a;simp only [shA,List.map_cons,List.sum_cons,flatA,List.length_append] at ih ⊢;rw [ih]
theorem meets_up {ow : OwK} {hs : List Hint} {dn : List (Nat × Nat × Bool × List Nat)} {f : FuncId} {fn : Func} {c : Code} {args : List (Bool × List DV)} {res : List Rs} {ty : List (List (Option (Nat × Nat)))} {sh : List (Bool × Nat)} {up : UP} {N : Nat} {rvs : List ResultVar}
    (hf : P.funcs[f]? = some fn) (hb : fn.body = some c) (hc : callable P f = true) (hN : fn.ntmps = N) (hrv : fn.results.toList = rvs)
    (hg : toUP P N ow hs dn c sh rvs ty = some up) (hl : sh.length≤N) (hsh : shA args = sh) (hw : V P (isRes res) up [] (psh (flatA args) [])) : Meets P f args res:=by
  subst hN hrv hsh
  unfold toUP at hg
  split at hg
  · rename_i pg hp
    have hlen : args.length≤fn.ntmps:=by simpa [shA] using hl
    refine meets_vd drawP_ok hf hb hc hlen rfl hp ?_
    rw [sum_flatA] at hg
    obtain ⟨a1,a2⟩:=Al.many (e:=flatA args) (μ:=[]) (ρ:=[]) (ρ':=[]) (fun p i h=>by simp at h) (by simp)
    simp only [List.nil_append,List.length_nil] at a1 a2
    exact cv_ok pg hg rfl a1 a2 hw
  · cases hg
end
section
variable {P : Program}
def shP (P : Program) (fn : Func) : List (Bool × Nat):=fn.params.toList.map fun t=>((tagg P t).getD false,(tcl P 9 t).length)
def toUPf (P : Program) (f : FuncId) (fn : Func) (ow : OwK) (hs : List Hint) (dn : List (Nat × Nat × Bool × List Nat)) : Option (List (Bool × Nat) × UP) :=
  match fn.body with
  | some c=>if callable P f && decide (fn.params.toList.length≤fn.ntmps) then (match toUP P fn.ntmps ow hs dn c (shP P fn) fn.results.toList (fn.resultTypes.toList.map (tcl P 9)) with | some up=>some (shP P fn,up) | none=>none) else none
  | none=>none
theorem meets_upf {ow : OwK} {hs : List Hint} {dn : List (Nat × Nat × Bool × List Nat)} {f : FuncId} {fn : Func} {args : List (Bool × List DV)} {res : List Rs} {sh : List (Bool × Nat)} {up : UP}
    (hf : P.funcs[f]? = some fn) (hg : toUPf P f fn ow hs dn = some (sh,up)) (hsh : shA args = sh) (hw : V P (isRes res) up [] (psh (flatA args) [])) : Meets P f args res:=by
  unfold toUPf at hg
  split at hg
  · rename_i c hc
    split at hg
    · rename_i hb
      rw [Bool.and_eq_true,decide_eq_true_eq] at hb
      split at hg
      · rename_i up' hu
        injection hg with hg;injection hg with e1 e2;subst e1 e2
        exact meets_up hf hc hb.1 rfl rfl hu (by simpa [shP] using hb.2) hsh hw
      · cases hg
    · cases hg
  · cases hg
end
end Go.Proofs.Ytkeoohonidpjeaa
namespace Go.Proofs.Ytkeoohonidpjeaa
open Go.RowKit
section
variable {P : Program} {ρ ρ' : List DV} {σ : List Nat} {S S' : Sy} {s s0 : AS} {ps : List PO}
end
section
variable {P : Program}
def shL (P : Program) (ts : List TypeId) : List (Bool × Nat):=ts.map fun t=>((tagg P t).getD false,(tcl P 9 t).length)
end
end Go.Proofs.Ytkeoohonidpjeaa
namespace Go.Proofs.Ytkeoohonidpjeaa
open Go.RowKit
section
variable {P : Program} {ρ ρ' : List DV} {σ : List Nat} {S S' : Sy} {s s0 : AS} {ps : List PO}
def sGvsS : List (Bool × List SC)→List (List (Option (Nat × Nat)))→Sy→Option (List PO × List (Bool × List Nat) × Sy)
  | [],_,S=>some ([],[],S)
  | (b,cs) :: r,ty,S=>(match sGive cs (ty.headD []) S with
    | some (p,xs,S1)=>(match sGvsS r ty.tail S1 with | some (q,l,S2)=>some (p ++ q,(b,xs) :: l,S2) | none=>none)
    | none=>none)
def isCS (t : TypeId) (st z : Nat) (S : Sy) (p : Nat × SO) : Bool:=match S.own p.1 st with | some (.cur _ true t' z')=>decide (t' = t∧z' = z∧st < S.c) | _=>false
def curOf (t : TypeId) (S : Sy) : Option (Nat × Nat × Nat):=S.ob.findSome? fun p=>match p.2 with
  | .cur st true _ z=>if isCS t st z S p then some (p.1,st,z) else none
  | _=>none
theorem curOf_ok {t : TypeId} {i st z : Nat} (h : curOf t S = some (i,st,z)) (hr : Rel S ρ σ s) : ∃ st' x cs,s.own? i st' = some (.cur st' true t x cs)∧ρ[z]? = some (cvD t x cs):=by
  unfold curOf at h
  obtain ⟨l1,p,l2,-,h,-⟩:=List.findSome?_eq_some_iff.1 h
  split at h
  · rename_i st0 t0 z0 hp
    split at h
    · rename_i hc
      injection h with h;injection h with e1 h;injection h with e2 e3;subst e1 e2 e3
      unfold isCS at hc
      split at hc
      · rename_i a t' z' ho
        obtain ⟨rfl,rfl,hlt⟩:=of_decide_eq_true hc
        have hs : ∃ st',σ[st0]? = some st':=⟨_,List.getElem?_eq_getElem (by rw [hr.c];exact hlt)⟩
        obtain ⟨st',hs⟩:=hs
        obtain ⟨o',k1,k2,-,-⟩:=hr.own ho hs
        cases o' <;> first | exact k2.elim | skip
        rename_i b id ty x cs
        obtain ⟨k5,rfl,rfl,k6⟩:=k2
        obtain rfl:=own_stV k1 rfl
        exact ⟨_,x,cs,k1,k6⟩
      · cases hc
    · cases h
  · cases h
theorem sGvsS_ok {K : AS→Prop} : ∀ {xs : List (Bool × List SC)} {ty : List (List (Option (Nat × Nat)))} {l : List (Bool × List Nat)} {S S' : Sy} {ps : List PO} {ρ ρ' : List DV} {s : AS} {rvs : List ResultVar} {ys : List (Bool × List AC)},
    sGvsS xs ty S = some (ps,l,S')→evalPs ps ρ = some ρ'→Rel S ρ σ s→RvL P s0 rvs ys→RT ρ σ xs ys→(∀ s',Rel S' ρ' σ s'→K s')→∃ ds,gArgs ρ' l = some ds∧RetDK P s0 K rvs (ds.map fun d=>(d.1,d.2,true)) s
  | [],ty,l,S,S',ps,ρ,ρ',s,rvs,ys,h,he,hr,hv,ht,hk=>by
    simp only [sGvsS] at h
    injection h with h;injection h with e1 h;injection h with e2 e3;subst e1 e2 e3
    simp only [evalPs] at he;injection he with he;subst he
    match ys,ht with
    | [],_ =>
      cases rvs with
      | nil=>exact ⟨[],rfl,hk s hr⟩
      | cons=>exact hv.elim
  | (b,cs) :: r,ty,l,S,S',ps,ρ,ρ',s,rvs,ys,h,he,hr,hv,ht,hk=>by
    simp only [sGvsS] at h
    split at h
    · rename_i p xs S1 h1
      split at h
      · rename_i q l' S2 h2
        injection h with h;injection h with e1 h;injection h with e2 e3;subst e1 e2 e3
        match ys,rvs,ht,hv with
        | y :: ys,rv :: rvs,ht,hv =>
          obtain ⟨ρ1,a1,a2⟩:=evalPs_app he
          obtain ⟨s1,ds,g1,g2,g3,-⟩:=sGive_ok h1 a1 hr ht.1.2
          obtain ⟨dss,d1,d2⟩:=sGvsS_ok h2 a2 g3 hv.2 (RT.mono (evalPs_pre a1) (Pre.refl _) ht.2) hk
          refine ⟨(b,ds) :: dss,by simp only [gArgs,g2.app_pre (evalPs_pre a2),d1],?_⟩
          simp only [List.map_cons,RetDK]
          refine ⟨trivial,?_⟩
          rw [hv.1]
          exact ⟨ht.1.1,s1,g1,d2⟩
      · cases h
    · cases h
def retKtC (P : Program) (t : TypeId) (rvs : List ResultVar) (ty : List (List (Option (Nat × Nat)))) : Kt:=fun _ e S =>
  match e with
  | .normal | .ret=>(match sRvs P rvs S with
    | some (p,xs,S1)=>(match sGvsS xs ty S1 with
      | some (q,l,S2)=>(match curOf t S2 with | some (_,_,z)=>some (nds ((p ++ q).map .po) (.ret ((false,[z]) :: l))) | none=>none)
      | none=>none)
    | none=>none)
  | _=>none
def isC (t : TypeId) (res : List Rs) (cs' : List DV) (vs : List (Bool × List DV)) : Prop:=∃ x ds,vs = (false,[cvD t x cs']) :: ds∧(ds.map fun d=>(d.1,d.2,true)) = res
theorem retKtC_ok {t : TypeId} {rvs : List ResultVar} {ty : List (List (Option (Nat × Nat)))} {res : List Rs} {cs' : List DV} {L : Lbl} : KOk P (isC t res cs') L ρ (retKC P rvs res t cs') (retKtC P t rvs ty):=by
  intro L' ρ1 hL hp e S pg hpg σ s hr hw
  have key : ∀ p xs S1 q l S2 i st z,sRvs P rvs S = some (p,xs,S1)→sGvsS xs ty S1 = some (q,l,S2)→curOf t S2 = some (i,st,z)→pg = nds ((p ++ q).map .po) (.ret ((false,[z]) :: l))→RetDK P s (curK t cs') rvs res s:=by
    intro p xs S1 q l S2 i st z h1 h2 h3 e
    subst e
    obtain ⟨ρ2,he,hw2,-⟩:=wn_po (w_nds hw)
    simp only [W] at hw2
    obtain ⟨vs,w1,x,ds0,rfl,w2⟩:=hw2
    obtain ⟨ρ3,a1,a2⟩:=evalPs_app he
    obtain ⟨ys,y1,y2,y3⟩:=sRvs_ok h1 a1 hr
    obtain ⟨ds,d1,d2⟩:=sGvsS_ok (P:=P) (s0:=s) (K:=fun s'=>∃ i st x cs,s'.own? i st = some (.cur st true t x cs)∧ρ2[z]? = some (cvD t x cs)) h2 a2 y3 y1 y2 (fun s' hr'=>by
      obtain ⟨st',x,cs,k1,k2⟩:=curOf_ok h3 hr'
      exact ⟨i,st',x,cs,k1,k2⟩)
    simp only [gArgs,gL,d1] at w1
    split at w1
    · rename_i a b hz hb
      injection w1 with w1
      injection w1 with w3 w4
      injection w3 with _ w3
      subst w4
      injection hb with hb
      subst hb
      rw [← w2]
      have mono : ∀ {K K' : AS→Prop},(∀ s,K s→K' s)→∀ {rvs : List ResultVar} {rs : List Rs} {u : AS},RetDK P s K rvs rs u→RetDK P s K' rvs rs u:=by
        intro K K' hKK rvs
        induction rvs with
        | nil=>intro rs u h;cases rs with
          | nil=>exact hKK _ h
          | cons=>exact h.elim
        | cons rv rvs ih =>
          intro rs u h
          cases rs with
          | nil=>exact h.elim
          | cons r rs =>
            obtain ⟨b,ds,dp⟩:=r
            obtain ⟨h1,h2⟩:=h
            refine ⟨h1,?_⟩
            obtain ⟨cs,hcs,s',hg,hd⟩:=rvP_ok h2
            rw [hcs]
            exact ⟨rfl,s',hg,ih hd⟩
      refine mono (fun s' hs=>?_) d2
      obtain ⟨i,st,x',cs,k1,k2⟩:=hs
      have hz' : [cvD t x' cs] = a:=by simpa [k2] using hz
      rw [← hz'] at w3
      injection w3 with w3 _
      unfold cvD at w3
      injection w3 with _ _ w3
      injection w3 with _ w3
      injection w3 with w3 _
      subst w3
      exact ⟨i,st,x',k1⟩
    · cases w1
  unfold retKtC at hpg
  split at hpg
  · split at hpg
    · split at hpg
      · split at hpg
        · injection hpg with hpg;exact key _ _ _ _ _ _ _ _ _ (by assumption) (by assumption) (by assumption) hpg.symm
        · cases hpg
      · cases hpg
    · cases hpg
  · split at hpg
    · split at hpg
      · split at hpg
        · injection hpg with hpg;exact key _ _ _ _ _ _ _ _ _ (by assumption) (by assumption) (by assumption) hpg.symm
        · cases hpg
      · cases hpg
    · cases hpg
  · cases hpg
def initSyC (t : Nat) (sh : List (Bool × Nat)) : Sy:=⟨(0,.p false [.own 0 0]) :: iSl sh 1 1,[(0,.cur 0 true t 0)],1,1,1 + (sh.map (·.2)).sum,[]⟩
theorem initC_rel (t : Nat) (x : DV) (cs : List DV) (rest : List (Bool × List DV)) : Rel (initSyC t (shA rest)) ([cvD t x cs] ++ flatA rest) [0] (initC t x cs rest):=by
  refine ⟨rfl,rfl,?_,fun j y hx=>?_,fun i y hx=>?_,fun i b hb=>by simp [initSyC,alook] at hb⟩
  · simp only [initSyC,sum_flatA,List.length_append,List.length_singleton]
  · simp only [initSyC,alook] at hx
    split at hx
    · rename_i e
      subst e
      injection hx with hx;subst hx
      exact ⟨rfl,⟨rfl,rfl⟩,trivial⟩
    · rename_i e
      obtain ⟨b,ds,m,h1,h2,h3,h4⟩:=iSl_ok (pre:=[cvD t x cs]) hx
      subst h3
      have hj : (initC t x cs rest).sl j = (initS ((true,[]) :: rest)).sl j:=by
        simp only [initC,AS.put,AS.push,upd_at]
        rw [if_neg (by omega)]
      rw [hj]
      have : ((true,[]) :: rest)[j]? = rest[j - 1]?:=by
        obtain ⟨q,rfl⟩:=Nat.exists_eq_succ_of_ne_zero (show j ≠ 0 by omega)
        simp
      simp only [initS,this,h2]
      exact ⟨rfl,RD.toC h4⟩
  · simp only [initSyC,alook] at hx
    split at hx
    · rename_i e
      subst e
      injection hx with hx;subst hx
      refine ⟨Nat.lt_succ_self _,?_⟩
      have : (initC t x cs rest).ob 0 = .cur 0 true t x cs:=by simp only [initC,AS.put,AS.push];exact upd_same _ _ _
      rw [this]
      exact ⟨rfl,rfl,rfl,rfl⟩
    · cases hx
def toUPcf (P : Program) (f : FuncId) (fn : Func) (ow : OwK) (hs : List Hint) (dn : List (Nat × Nat × Bool × List Nat)) (t : Nat) : Option (List (Bool × Nat) × UP) :=
  match fn.body,fn.params.toList with
  | some c,_ :: ts=>if callable P f && decide (ts.length + 1≤fn.ntmps) then
      (match gen P fn.ntmps ow hs (drawP P fn.ntmps ow dn) c 0 (initSyC t (shL P ts)) (retKtC P t fn.results.toList (fn.resultTypes.toList.map (tcl P 9))) with
      | some pg=>(match cv pg (1 + ((shL P ts).map (·.2)).sum) (psh (vars 0 (1 + ((shL P ts).map (·.2)).sum)) []) with | some up=>some (shL P ts,up) | none=>none)
      | none=>none) else none
  | _,_=>none
theorem meets_upcf {ow : OwK} {hs : List Hint} {dn : List (Nat × Nat × Bool × List Nat)} {f : FuncId} {fn : Func} {t : Nat} {x : DV} {cs cs' : List DV} {rest : List (Bool × List DV)} {res : List Rs} {sh : List (Bool × Nat)} {up : UP}
    (hf : P.funcs[f]? = some fn) (hg : toUPcf P f fn ow hs dn t = some (sh,up)) (hsh : shA rest = sh) (hdp : ∀ r ∈ res,r.2.2 = true) (hw : V P (isC t res cs') up [] (psh (flatA ((false,[cvD t x cs]) :: rest)) [])) : MeetsC P f t x cs rest res cs':=by
  unfold toUPcf at hg
  split at hg
  · rename_i c T ts hc hp
    split at hg
    · rename_i hb
      rw [Bool.and_eq_true,decide_eq_true_eq] at hb
      split at hg
      · rename_i pg hp'
        split at hg
        · rename_i up' hu
          injection hg with hg;injection hg with e1 e2;subst e2
          have hlen : rest.length + 1≤fn.ntmps:=by
            have h1:=congrArg List.length (hsh.trans e1.symm)
            simp only [shA,shL,List.length_map] at h1
            rw [h1];exact hb.2
          rw [e1,← hsh] at hp' hu
          refine meetsC_awp hf hc hb.1 hlen hdp (gen_ok (L:=[]) drawP_ok c hp' rfl (initC_rel _ x cs rest) retKtC_ok ?_)
          rw [sum_flatA] at hu
          have hl : (flatA ((false,[cvD t x cs]) :: rest)).length = 1 + (flatA rest).length:=by simp [flatA];omega
          obtain ⟨a1,a2⟩:=Al.many (e:=flatA ((false,[cvD t x cs]) :: rest)) (μ:=[]) (ρ:=[]) (ρ':=[]) (fun p i h=>by simp at h) (by simp)
          rw [hl] at a1 a2
          simp only [List.nil_append,List.length_nil] at a1 a2
          exact cv_ok pg hu (by rw [← hl];rfl) a1 a2 hw
        · cases hg
      · cases hg
    · cases hg
  · cases hg
def dAll : List SC→Option (List Nat)
  | []=>some []
  | .d i :: r=>(match dAll r with | some l=>some (i :: l) | none=>none)
  | _ :: _=>none
theorem dAll_ok : ∀ {cs : List SC} {xs : List Nat} {ys : List AC},dAll cs = some xs→RCs ρ σ cs ys→∃ ds : List DV,ys = ds.map .d∧gL ρ xs = some ds
  | [],xs,ys,h,hc=>by
    simp only [dAll] at h;injection h with h;subst h
    cases ys with
    | nil=>exact ⟨[],rfl,rfl⟩
    | cons=>exact hc.elim
  | .d i :: r,xs,[],h,hc=>hc.elim
  | .d i :: r,xs,y :: ys,h,hc=>by
    simp only [dAll] at h
    split at h
    · rename_i l hl
      injection h with h;subst h
      obtain ⟨x,rfl,hx⟩:=rc_d hc.1
      obtain ⟨ds,rfl,hd⟩:=dAll_ok hl hc.2
      exact ⟨x :: ds,rfl,by simp only [gL,hx,hd]⟩
    · cases h
  | .nil :: r,xs,ys,h,hc=>by simp [dAll] at h
  | .own _ _ :: r,xs,ys,h,hc=>by simp [dAll] at h
  | .ptr _ _ _ :: r,xs,ys,h,hc=>by simp [dAll] at h
  | .elt _ _ _ _ _ :: r,xs,ys,h,hc=>by simp [dAll] at h
  | .rd _ :: r,xs,ys,h,hc=>by simp [dAll] at h
  | .sub _ _ _ _ _ :: r,xs,ys,h,hc=>by simp [dAll] at h
  | .emp :: r,xs,ys,h,hc=>by simp [dAll] at h
def retKtN (P : Program) (t : TypeId) (rv : ResultVar) : Kt:=fun _ e S =>
  match e with
  | .normal | .ret=>(match sRv P S rv with
    | some (p,false,[.ptr i st 0],S1)=>(match S1.own i st with
      | some (.var _ t' cs)=>(match dAll cs with
        | some xs=>if t' = t then some (nds (p.map .po) (.ret [(false,xs)])) else none
        | none=>none)
      | _=>none)
    | _=>none)
  | _=>none
def isN (x : DV) (cs' : List DV) (vs : List (Bool × List DV)) : Prop:=vs = [(false,x :: cs')]
theorem retKtN_ok {t : TypeId} {rv : ResultVar} {x : DV} {cs' : List DV} {L : Lbl} : KOk P (isN x cs') L ρ (retKN P rv t x cs') (retKtN P t rv):=by
  intro L' ρ1 hL hp e S pg hpg σ s hr hw
  have key : ∀ p i st S1 a t' cs xs,sRv P S rv = some (p,false,[.ptr i st 0],S1)→S1.own i st = some (.var a t' cs)→dAll cs = some xs→t' = t→pg = nds (p.map .po) (.ret [(false,xs)])→∃ i st,rvV P s rv = some (.p false [.ptr i st 0])∧s.own? i st = some (.var st t (.d x :: cs'.map .d)):=by
    rintro p i st S1 a t' cs xs h1 h2 h3 rfl e
    subst e
    obtain ⟨ρ2,he,hw2,-⟩:=wn_po (w_nds hw)
    simp only [W] at hw2
    obtain ⟨vs,w1,rfl⟩:=hw2
    obtain ⟨ys,y1,y2,y3⟩:=sRv_ok h1 he hr
    match ys,y2 with
    | [y],y2 =>
      cases y <;> first | exact y2.1.elim | skip
      obtain ⟨⟨rfl,hst,rfl⟩,-⟩:=y2
      obtain ⟨o',k1,k2,-,-⟩:=y3.own h2 hst
      cases o' <;> first | exact k2.elim | skip
      obtain ⟨k5,rfl,k6⟩:=k2
      obtain rfl:=own_stV k1 rfl
      obtain ⟨ds,rfl,hd⟩:=dAll_ok h3 k6
      simp only [gArgs,hd] at w1
      injection w1 with w1
      injection w1 with w1 _
      injection w1 with _ w1
      subst w1
      exact ⟨_,_,y1,k1⟩
  unfold retKtN at hpg
  split at hpg
  · split at hpg
    · split at hpg
      · split at hpg
        · split at hpg
          · injection hpg with hpg;exact key _ _ _ _ _ _ _ _ (by assumption) (by assumption) (by assumption) (by assumption) hpg.symm
          · cases hpg
        · cases hpg
      · cases hpg
    · cases hpg
  · split at hpg
    · split at hpg
      · split at hpg
        · split at hpg
          · injection hpg with hpg;exact key _ _ _ _ _ _ _ _ (by assumption) (by assumption) (by assumption) (by assumption) hpg.symm
          · cases hpg
        · cases hpg
      · cases hpg
    · cases hpg
  · cases hpg
def toUPnf (P : Program) (f : FuncId) (fn : Func) (ow : OwK) (hs : List Hint) (dn : List (Nat × Nat × Bool × List Nat)) (t : Nat) : Option (List (Bool × Nat) × UP) :=
  match fn.body,fn.results.toList with
  | some c,[rv]=>if callable P f && decide (fn.params.toList.length≤fn.ntmps) then
      (match gen P fn.ntmps ow hs (drawP P fn.ntmps ow dn) c 0 (initSy (shP P fn)) (retKtN P t rv) with
      | some pg=>(match cv pg (((shP P fn).map (·.2)).sum) (psh (vars 0 (((shP P fn).map (·.2)).sum)) []) with | some up=>some (shP P fn,up) | none=>none)
      | none=>none) else none
  | _,_=>none
theorem meets_upnf {ow : OwK} {hs : List Hint} {dn : List (Nat × Nat × Bool × List Nat)} {f : FuncId} {fn : Func} {t : Nat} {x : DV} {cs' : List DV} {args : List (Bool × List DV)} {sh : List (Bool × Nat)} {up : UP}
    (hf : P.funcs[f]? = some fn) (hg : toUPnf P f fn ow hs dn t = some (sh,up)) (hsh : shA args = sh) (hfl : Flat cs') (hw : V P (isN x cs') up [] (psh (flatA args) [])) : MeetsN P f args t x cs':=by
  unfold toUPnf at hg
  split at hg
  · rename_i c rv hc hrv
    split at hg
    · rename_i hb
      rw [Bool.and_eq_true,decide_eq_true_eq] at hb
      split at hg
      · rename_i pg hp
        split at hg
        · rename_i up' hu
          injection hg with hg;injection hg with e1 e2;subst e2
          rw [e1,← hsh] at hp hu
          have hlen : args.length≤fn.ntmps:=by
            have h1:=congrArg List.length (hsh.trans e1.symm)
            simp only [shA,shP,List.length_map] at h1
            rw [h1];exact hb.2
          refine meetsN_awp hf hc hb.1 hlen hrv hfl (gen_ok (L:=[]) drawP_ok c hp rfl (init_rel args) retKtN_ok ?_)
          rw [sum_flatA] at hu
          obtain ⟨a1,a2⟩:=Al.many (e:=flatA args) (μ:=[]) (ρ:=[]) (ρ':=[]) (fun p i h=>by simp at h) (by simp)
          simp only [List.nil_append,List.length_nil] at a1 a2
          exact cv_ok pg hu rfl a1 a2 hw
        · cases hg
      · cases hg
    · cases hg
  · cases hg
end
end Go.Proofs.Ytkeoohonidpjeaa
namespace Go.Proofs.Ytkeoohonidpjeaa
open Go.RowKit
set_option maxRecDepth 100000
def owA : OwK:=⟨fun g=>!([] : List FuncId).contains g,false,[],[],[12,13,14,29,30,54],[(11,48)]⟩
def u_laws_FnTokens_h : List Hint:=[⟨3000020,1,⟨[(12,.p false [.d 30]),(88,.p false [.d 28]),(11,.p false [.d 23]),(10,.p false [.own 2 2]),(70,.p false [.d 21]),(9,.p false [.d 16]),(40,.p false [.d 15]),(8,.p false [.d 13]),(36,.p false [.d 11]),(7,.p false [.d 7]),(6,.p false [.own 1 1]),(5,.p false [.d 5]),(4,.p false [.own 0 0]),(3,.p false [.d 3]),(14,.p false [.d 2]),(2,.p false [.d 1]),(0,.p false [.d 0])],[(0,.row 0 29 2 4),(1,.row 1 29 2 6),(2,.row 2 29 2 22)],3,3,31,[(28,false),(25,false),(21,false),(18,false),(15,false),(11,false),(8,false),(2,false),(1,false)]⟩,[]⟩,⟨2000001,1,⟨[(59,.p false [.d 16]),(40,.p false [.d 15]),(8,.p false [.d 13]),(36,.p false [.d 11]),(7,.p false [.d 7]),(6,.p false [.own 1 1]),(5,.p false [.d 5]),(4,.p false [.own 0 0]),(3,.p false [.d 3]),(14,.p false [.d 2]),(2,.p false [.d 1]),(0,.p false [.d 0])],[(0,.row 0 29 2 4),(1,.row 1 29 2 6)],2,2,17,[(15,true),(11,false),(8,false),(2,false),(1,false)]⟩,[]⟩,⟨3000009,1,⟨[(8,.p false [.d 13]),(36,.p false [.d 11]),(7,.p false [.d 7]),(6,.p false [.own 1 1]),(5,.p false [.d 5]),(4,.p false [.own 0 0]),(3,.p false [.d 3]),(14,.p false [.d 2]),(2,.p false [.d 1]),(0,.p false [.d 0])],[(0,.row 0 29 2 4),(1,.row 1 29 2 6)],2,2,14,[(11,false),(8,false),(2,false),(1,false)]⟩,[]⟩]
def u_laws_FnTokens_d : List (Nat × Nat × Bool × List Nat):=[(22,9,false,[]),(11,17,false,[])]
def u_laws_FnTokens_j0 : UP:=.po (.k (.int .i64 1)) <| .po (.bin .add false 4 0) <| .jump 0 [0]
def u_laws_FnTokens_l1 : UP:=.po (.lenL 3) <| .po (.bin .lss false 1 0) <| .ite 0 (.po (.isI 2) <| .po (.chk 2 4 2) <| .po (.idx 2 4 2) <| .po (.sc 1) <| .po (.sc 0) <| .po (.isI 4) <| .po (.chk 2 7 4) <| .po (.idx 2 7 4) <| .po (.sc 1) <| .po (.sc 0) <| .po (.eqS true [.i,.s] [3,2] [1,0]) <| .po (.sc 0) <| .ite 0 (.po (.k (.bool false)) <| .po (.sc 0) <| .ret [(false,[0])]) <| .po (.k (.int .i64 1)) <| .po (.bin .add false 8 0) <| .jump 1 [0]) <| .po (.k (.bool true)) <| .po (.sc 0) <| .ret [(false,[0])]
def u_laws_FnTokens_l2 : UP:=.po (.lenL 2) <| .po (.bin .lss false 1 0) <| .ite 0 (.join 1 u_laws_FnTokens_j0 <| .po (.isI 2) <| .po (.chk 2 5 2) <| .po (.idx 2 5 2) <| .po (.sc 1) <| .po (.sc 0) <| .po (.isI 4) <| .po (.chk 2 6 4) <| .po (.idx 2 6 4) <| .po (.sc 1) <| .po (.sc 0) <| .po (.eqS true [.i,.s] [3,2] [1,0]) <| .po (.sc 0) <| .ite 0 (.po (.k (.bool true)) <| .po (.sc 0) <| .ite 0 (.po (.k (.bool false)) <| .po (.sc 0) <| .ret [(false,[0])]) <| .jump 1 [0]) <| .po (.isI 7) <| .po (.chk 2 9 7) <| .po (.idx 2 9 7) <| .po (.sc 1) <| .po (.sc 0) <| .sel [0,1] <| .cl 8 [(true,[1,0])] [(false,[none],true)] <| .po (.un .not 0) <| .po (.sc 0) <| .po (.sc 0) <| .ite 0 (.po (.k (.bool false)) <| .po (.sc 0) <| .ret [(false,[0])]) <| .jump 1 [0]) <| .sel [4] <| .cl 9 [(false,[0])] [(false,[none],true)] <| .cl 10 [(false,[1])] [(false,[none],true)] <| .po (.bin .neq false 1 0) <| .ite 0 (.po (.k (.bool true)) <| .cl 10 [(false,[4])] [(false,[none],true)] <| .po (.bin .eql false 4 0) <| .po (.sc 0) <| .ret [(false,[0])]) <| .po (.lenS 2) <| .po (.k (.int .i64 600)) <| .po (.bin .gtr false 1 0) <| .ite 0 (.sel [5,6] <| .cl 10 [(false,[1])] [(false,[none],true)] <| .po (.bin .eql false 1 0) <| .po (.sc 0) <| .ret [(false,[0])]) <| .sel [5,6] <| .cl 6 [(false,[0])] [(false,[some (29,2)],true),(false,[none],true)] <| .po (.k (.int .i64 (-1))) <| .po (.bin .neq false 1 0) <| .ite 0 (.po (.k (.bool true)) <| .po (.k (.bool false)) <| .po (.sc 0) <| .ret [(false,[0])]) <| .po (.lenL 3) <| .po (.lenL 6) <| .po (.bin .neq false 1 0) <| .ite 0 (.po (.k (.bool false)) <| .po (.sc 0) <| .ret [(false,[0])]) <| .po (.k (.int .i64 0)) <| .sel [0,7,9] <| .loop [0] u_laws_FnTokens_l1
def u_laws_FnTokens_u : UP:=.po (.k (.bool false)) <| .cl 4 [(false,[1])] [(false,[none],true)] <| .ite 0 (.po (.k (.bool true)) <| .po (.sc 0) <| .ret [(false,[0])]) <| .cl 5 [(false,[2])] [(false,[none],true)] <| .cl 6 [(false,[0])] [(false,[some (29,2)],true),(false,[none],true)] <| .cl 7 [(false,[2])] [(false,[some (29,2)],true),(false,[none],true)] <| .po (.bin .neq false 2 0) <| .ite 0 (.po (.k (.bool true)) <| .po (.k (.bool false)) <| .po (.sc 0) <| .ret [(false,[0])]) <| .po (.lenL 4) <| .po (.lenL 3) <| .po (.bin .neq false 1 0) <| .ite 0 (.po (.k (.bool false)) <| .po (.sc 0) <| .ret [(false,[0])]) <| .po (.k (.int .i64 0)) <| .sel [0,6,8] <| .loop [0] u_laws_FnTokens_l2
theorem u_laws_FnTokens_g : toUPf Try.prog 3 Try.f3 owA u_laws_FnTokens_h u_laws_FnTokens_d = some ([(false,1)],u_laws_FnTokens_u):=by kernel_rfl
def u_laws_big_h : List Hint:=[]
def u_laws_big_d : List (Nat × Nat × Bool × List Nat):=[]
def u_laws_big_u : UP:=.po (.k (.bool false)) <| .po (.lenL 1) <| .po (.k (.int .i64 1048576)) <| .po (.bin .gtr false 1 0) <| .po (.sc 0) <| .ret [(false,[0])]
theorem u_laws_big_g : toUPf Try.prog 4 Try.f4 owA u_laws_big_h u_laws_big_d = some ([(false,1)],u_laws_big_u):=by kernel_rfl
def u_spec_l15Next_h : List Hint:=[⟨38,1,⟨[(237,.p false [.d 13]),(208,.p false [.d 12]),(13,.p false [.d 10]),(12,.p false [.own 1 1]),(18,.p false [.d 6]),(7,.p false [.d 7]),(6,.p false [.d 5]),(5,.p false [.d 4]),(4,.p false [.ptr 0 0 0]),(0,.p false [.d 0]),(1,.p false [.d 1])],[(0,.var 0 29 [.d 2,.d 3]),(1,.row 1 9 1 8)],2,2,14,[(12,true)]⟩,[]⟩,⟨3000036,1,⟨[(13,.p false [.d 10]),(12,.p false [.own 1 1]),(18,.p false [.d 6]),(7,.p false [.d 7]),(6,.p false [.d 5]),(5,.p false [.d 4]),(4,.p false [.ptr 0 0 0]),(0,.p false [.d 0]),(1,.p false [.d 1])],[(0,.var 0 29 [.d 2,.d 3]),(1,.row 1 9 1 8)],2,2,11,[]⟩,[]⟩,⟨2000000,2,⟨[(18,.p false [.d 6]),(7,.p false [.d 7]),(6,.p false [.d 5]),(5,.p false [.d 4]),(4,.p false [.ptr 0 0 0]),(0,.p false [.d 0]),(1,.p false [.d 1])],[(0,.var 0 29 [.d 2,.d 3])],1,1,8,[]⟩,[]⟩,⟨26,1,⟨[(171,.p false [.d 13]),(137,.p false [.d 11]),(98,.p false [.d 10]),(50,.p false [.d 8]),(18,.p false [.d 6]),(7,.p false [.d 12]),(6,.p false [.d 5]),(5,.p false [.d 4]),(4,.p false [.ptr 0 0 0]),(0,.p false [.d 0]),(1,.p false [.d 1])],[(0,.var 0 29 [.d 2,.d 3])],1,1,14,[(11,true),(10,false),(8,false),(6,false)]⟩,[]⟩,⟨3000026,1,⟨[(137,.p false [.d 11]),(98,.p false [.d 10]),(50,.p false [.d 8]),(18,.p false [.d 6]),(7,.p false [.d 12]),(6,.p false [.d 5]),(5,.p false [.d 4]),(4,.p false [.ptr 0 0 0]),(0,.p false [.d 0]),(1,.p false [.d 1])],[(0,.var 0 29 [.d 2,.d 3])],1,1,13,[(11,true),(10,false),(8,false),(6,false)]⟩,[]⟩,⟨25,1,⟨[(137,.p false [.d 11]),(98,.p false [.d 10]),(50,.p false [.d 8]),(18,.p false [.d 6]),(7,.p false [.d 1]),(6,.p false [.d 5]),(5,.p false [.d 4]),(4,.p false [.ptr 0 0 0]),(0,.p false [.d 0]),(1,.p false [.d 1])],[(0,.var 0 29 [.d 2,.d 3])],1,1,12,[(10,false),(8,false),(6,false)]⟩,[]⟩,⟨2000005,2,⟨[(112,.p false [.d 13]),(7,.p false [.d 14]),(98,.p false [.d 10]),(50,.p false [.d 8]),(18,.p false [.d 6]),(6,.p false [.d 5]),(5,.p false [.d 4]),(4,.p false [.ptr 0 0 0]),(0,.p false [.d 0]),(1,.p false [.d 1])],[(0,.var 0 29 [.d 2,.d 3])],1,1,15,[(10,true),(8,false),(6,false)]⟩,[]⟩,⟨3000021,1,⟨[(7,.p false [.d 13]),(98,.p false [.d 10]),(50,.p false [.d 8]),(18,.p false [.d 6]),(6,.p false [.d 5]),(5,.p false [.d 4]),(4,.p false [.ptr 0 0 0]),(0,.p false [.d 0]),(1,.p false [.d 1])],[(0,.var 0 29 [.d 2,.d 3])],1,1,14,[(10,true),(8,false),(6,false)]⟩,[]⟩,⟨2000003,2,⟨[(64,.p false [.d 11]),(7,.p false [.d 12]),(50,.p false [.d 8]),(18,.p false [.d 6]),(6,.p false [.d 5]),(5,.p false [.d 4]),(4,.p false [.ptr 0 0 0]),(0,.p false [.d 0]),(1,.p false [.d 1])],[(0,.var 0 29 [.d 2,.d 3])],1,1,13,[(8,true),(6,false)]⟩,[]⟩,⟨2000004,2,⟨[(7,.p false [.d 17]),(68,.p false [.d 18]),(64,.p false [.d 16]),(50,.p false [.d 8]),(18,.p false [.d 6]),(6,.p false [.d 5]),(5,.p false [.d 4]),(4,.p false [.ptr 0 0 0]),(0,.p false [.d 0]),(1,.p false [.d 1])],[(0,.var 0 29 [.d 2,.d 3])],1,1,19,[(16,true),(13,true),(8,true),(6,false)]⟩,[]⟩,⟨3000011,1,⟨[(7,.p false [.d 11]),(50,.p false [.d 8]),(18,.p false [.d 6]),(6,.p false [.d 5]),(5,.p false [.d 4]),(4,.p false [.ptr 0 0 0]),(0,.p false [.d 0]),(1,.p false [.d 1])],[(0,.var 0 29 [.d 2,.d 3])],1,1,12,[(8,true),(6,false)]⟩,[]⟩,⟨2000001,2,⟨[(30,.p false [.d 7]),(18,.p false [.d 6]),(7,.p false [.d 8]),(6,.p false [.d 5]),(5,.p false [.d 4]),(4,.p false [.ptr 0 0 0]),(0,.p false [.d 0]),(1,.p false [.d 1])],[(0,.var 0 29 [.d 2,.d 3])],1,1,9,[(6,true)]⟩,[]⟩,⟨3000004,1,⟨[(18,.p false [.d 6]),(7,.p false [.d 7]),(6,.p false [.d 5]),(5,.p false [.d 4]),(4,.p false [.ptr 0 0 0]),(0,.p false [.d 0]),(1,.p false [.d 1])],[(0,.var 0 29 [.d 2,.d 3])],1,1,8,[(6,true)]⟩,[]⟩]
def u_spec_l15Next_d : List (Nat × Nat × Bool × List Nat):=[(39,10,true,[2000000,5,6,7,8,9]),(38,27,false,[])]
def u_spec_l15Next_l0 : UP:=.po (.lenS 3) <| .po (.bin .lss false 1 0) <| .ite 0 (.po (.chr 5 2) <| .sel [0,3] <| .cl 39 [(false,[0])] [(false,[none],true)] <| .ite 0 (.po (.k (.int .i64 1)) <| .po (.bin .add false 3 0) <| .jump 2 [0]) <| .jump 1 [0,2]) <| .po (.k (.bool false)) <| .jump 1 [0,3]
def u_spec_l15Next_j1 : UP:=.po (.cutS 4 (some 3) (some 0)) <| .cl 40 [(false,[0])] [(false,[none],true),(false,[none],true)] <| .ite 0 (.po (.cutS 7 (some 6) (some 3)) <| .po (.k (.int .i64 0)) <| .po (.k (.string ⟨#[]⟩)) <| .po (.k (.int .i64 1)) <| .po (.bin .sub false 7 10) <| .po (.sc 1) <| .po (.sc 4) <| .po (.sc 0) <| .ret [(true,[1,4]),(false,[0])]) <| .jump 0 [5,3]
def u_spec_l15Next_j2 : UP:=.jump 2 [1]
def u_spec_l15Next_l3 : UP:=.po (.lenS 4) <| .po (.bin .lss false 1 0) <| .ite 0 (.po (.chr 6 2) <| .po (.k (.int .u8 34)) <| .po (.bin .neq false 1 0) <| .ite 0 (.sel [5,9] <| .join 2 u_spec_l15Next_j2 <| .po (.chr 1 0) <| .po (.k (.int .u8 92)) <| .po (.bin .eql false 1 0) <| .ite 0 (.po (.k (.int .i64 1)) <| .po (.bin .add false 4 0) <| .po (.k (.int .i64 1)) <| .po (.bin .add false 1 0) <| .jump 3 [0,4]) <| .po (.k (.int .i64 1)) <| .po (.bin .add false 4 0) <| .jump 3 [0,2]) <| .jump 1 [0,5]) <| .po (.k (.bool false)) <| .jump 1 [0,3]
def u_spec_l15Next_j4 : UP:=.po (.lenS 5) <| .po (.bin .lss false 1 0) <| .ite 0 (.po (.k (.int .i64 1)) <| .po (.bin .add false 3 0) <| .po (.cutS 9 (some 8) (some 0)) <| .sel [0,5,8,9] <| .cl 41 [(false,[0])] [(false,[none],true),(false,[none],true)] <| .ite 0 (.po (.lenS 1) <| .po (.k (.int .i64 60)) <| .po (.bin .leq false 1 0) <| .ite 0 (.po (.k (.int .i64 0)) <| .po (.k (.string ⟨#[]⟩)) <| .po (.k (.int .i64 2)) <| .po (.k (.int .i64 1)) <| .po (.bin .add false 10 0) <| .po (.bin .sub false 0 13) <| .po (.sc 3) <| .po (.sc 10) <| .po (.sc 0) <| .ret [(true,[3,10]),(false,[0])]) <| .jump 0 [7,6]) <| .po (.k (.bool false)) <| .jump 0 [5,4]) <| .jump 0 [5,2]
def u_spec_l15Next_l5 : UP:=.po (.lenS 4) <| .po (.bin .lss false 1 0) <| .ite 0 (.po (.chr 6 2) <| .po (.k (.int .u8 96)) <| .po (.bin .neq false 1 0) <| .ite 0 (.po (.k (.int .i64 1)) <| .po (.bin .add false 6 0) <| .jump 2 [0]) <| .jump 1 [0,5]) <| .po (.k (.bool false)) <| .jump 1 [0,3]
def u_spec_l15Next_j6 : UP:=.po (.lenS 5) <| .po (.bin .lss false 1 0) <| .ite 0 (.po (.k (.int .i64 1)) <| .po (.bin .add false 7 0) <| .po (.cutS 9 (some 0) (some 4)) <| .sel [0,5,8,9,10] <| .cl 42 [(false,[0])] [(false,[none],true)] <| .ite 0 (.po (.k (.int .i64 1)) <| .po (.bin .add false 5 0) <| .po (.cutS 7 (some 0) (some 4)) <| .po (.k (.int .i64 0)) <| .po (.k (.string ⟨#[]⟩)) <| .po (.k (.int .i64 3)) <| .po (.k (.int .i64 1)) <| .po (.bin .add false 9 0) <| .po (.bin .sub false 0 12) <| .po (.sc 3) <| .po (.sc 6) <| .po (.sc 0) <| .ret [(true,[3,6]),(false,[0])]) <| .jump 0 [3,2]) <| .po (.k (.bool false)) <| .jump 0 [6,3]
def u_spec_l15Next_j7 : UP:=.ite 0 (.po (.k (.int .i64 1)) <| .po (.bin .add false 2 0) <| .jump 1 [0]) <| .po (.cutS 6 (some 5) (some 1)) <| .cl 44 [(false,[0])] [(false,[none],true)] <| .ite 0 (.po (.cutS 8 (some 7) (some 3)) <| .po (.k (.int .i64 0)) <| .po (.k (.string ⟨#[]⟩)) <| .po (.k (.int .i64 4)) <| .po (.bin .sub false 7 11) <| .po (.sc 1) <| .po (.sc 4) <| .po (.sc 0) <| .ret [(true,[1,4]),(false,[0])]) <| .po (.cutS 8 (some 7) (some 3)) <| .sel [0,4,6,8,9] <| .cl 45 [(false,[0])] [(false,[none],true)] <| .ite 0 (.po (.cutS 5 (some 4) (some 2)) <| .po (.k (.int .i64 0)) <| .po (.k (.string ⟨#[]⟩)) <| .po (.k (.int .i64 3)) <| .po (.bin .sub false 6 8) <| .po (.sc 1) <| .po (.sc 4) <| .po (.sc 0) <| .ret [(true,[1,4]),(false,[0])]) <| .jump 0 [3,2]
def u_spec_l15Next_l8 : UP:=.join 1 u_spec_l15Next_j7 <| .po (.lenS 5) <| .po (.bin .lss false 1 0) <| .ite 0 (.po (.chr 7 2) <| .sel [0,3,8] <| .cl 43 [(false,[0])] [(false,[none],true)] <| .ite 0 (.po (.k (.bool true)) <| .po (.k (.bool true)) <| .po (.k (.bool true)) <| .jump 2 [0]) <| .po (.chr 3 2) <| .cl 39 [(false,[0])] [(false,[none],true)] <| .ite 0 (.po (.k (.bool true)) <| .po (.k (.bool true)) <| .jump 2 [0]) <| .po (.chr 5 4) <| .po (.k (.int .u8 46)) <| .po (.bin .eql false 1 0) <| .ite 0 (.po (.k (.bool true)) <| .jump 2 [0]) <| .po (.chr 8 7) <| .po (.k (.int .u8 95)) <| .po (.bin .eql false 1 0) <| .jump 2 [0]) <| .po (.k (.bool false)) <| .jump 2 [0]
def u_spec_l15Next_j9 : UP:=.ite 0 (.loop [3] u_spec_l15Next_l8) <| .po (.k (.int .u8 59)) <| .po (.bin .eql false 3 0) <| .ite 0 (.po (.k (.int .i64 0)) <| .po (.k (.string ⟨#[]⟩)) <| .po (.k (.int .i64 6)) <| .po (.k (.string ⟨#[59]⟩)) <| .po (.k (.int .i64 1)) <| .po (.sc 2) <| .po (.sc 1) <| .po (.sc 0) <| .ret [(true,[2,1]),(false,[0])]) <| .jump 0 [3,5]
def u_spec_l15Next_j10 : UP:=.ite 0 (.po (.isI 3) <| .po (.chk 1 5 3) <| .po (.idx 1 5 3) <| .po (.k (.int .i64 0)) <| .po (.k (.string ⟨#[]⟩)) <| .po (.k (.int .i64 5)) <| .po (.isI 7) <| .po (.chk 1 9 7) <| .po (.idx 1 9 7) <| .po (.lenS 0) <| .po (.flat 11) <| .po (.sc 2) <| .po (.sc 5) <| .po (.sc 0) <| .ret [(true,[2,5]),(false,[0])]) <| .po (.k (.int .i64 1)) <| .po (.bin .add false 4 0) <| .jump 0 [0]
def u_spec_l15Next_l11 : UP:=.po (.lenL 2) <| .po (.bin .lss false 1 0) <| .ite 0 (.join 1 u_spec_l15Next_j10 <| .po (.isI 2) <| .po (.chk 1 4 2) <| .po (.idx 1 4 2) <| .po (.sc 0) <| .po (.lenS 0) <| .po (.sc 0) <| .po (.lenS 8) <| .po (.sc 0) <| .po (.bin .sub false 0 8) <| .po (.sc 0) <| .po (.bin .leq false 2 0) <| .po (.sc 0) <| .ite 0 (.po (.isI 7) <| .po (.chk 1 9 7) <| .po (.idx 1 9 7) <| .po (.sc 0) <| .po (.lenS 0) <| .po (.sc 0) <| .po (.bin .add false 12 0) <| .po (.sc 0) <| .po (.cutS 14 (some 13) (some 0)) <| .po (.sc 0) <| .po (.isI 11) <| .po (.chk 1 13 11) <| .po (.idx 1 13 11) <| .po (.sc 0) <| .po (.bin .eql false 1 0) <| .po (.sc 0) <| .po (.sc 0) <| .jump 1 [0]) <| .po (.k (.bool false)) <| .po (.sc 0) <| .jump 1 [0]) <| .po (.k (.int .i64 0)) <| .po (.k (.string ⟨#[]⟩)) <| .po (.k (.int .i64 0)) <| .po (.sc 2) <| .po (.sc 1) <| .po (.sc 0) <| .ret [(true,[2,1]),(false,[0])]
def u_spec_l15Next_j12 : UP:=.sel [6,7] <| .cl 46 [] [(false,[some (9,1)],true)] <| .po (.k (.int .i64 0)) <| .loop [0] u_spec_l15Next_l11
def u_spec_l15Next_u : UP:=.po (.k (.int .i64 0)) <| .po (.k (.string ⟨#[]⟩)) <| .po (.k (.int .i64 0)) <| .po (.chr 4 3) <| .join 2 u_spec_l15Next_j12 <| .cl 39 [(false,[0])] [(false,[none],true)] <| .ite 0 (.sel [0,5,6] <| .join 2 u_spec_l15Next_j1 <| .loop [1] u_spec_l15Next_l0) <| .po (.k (.int .u8 34)) <| .po (.bin .eql false 2 0) <| .ite 0 (.po (.k (.int .i64 1)) <| .po (.bin .add false 8 0) <| .sel [0,4,9,10] <| .join 2 u_spec_l15Next_j4 <| .loop [0] u_spec_l15Next_l3) <| .po (.k (.int .u8 96)) <| .po (.bin .eql false 4 0) <| .ite 0 (.po (.k (.int .i64 1)) <| .po (.bin .add false 10 0) <| .sel [0,6,11,12] <| .join 2 u_spec_l15Next_j6 <| .loop [0] u_spec_l15Next_l5) <| .sel [4,5,9,10] <| .join 1 u_spec_l15Next_j9 <| .cl 43 [(false,[1])] [(false,[none],true)] <| .ite 0 (.po (.k (.bool true)) <| .jump 1 [0]) <| .po (.k (.int .u8 46)) <| .po (.bin .eql false 3 0) <| .jump 1 [0]
theorem u_spec_l15Next_g : toUPf Try.prog 18 Try.f18 owA u_spec_l15Next_h u_spec_l15Next_d = some ([(false,1),(false,1)],u_spec_l15Next_u):=by kernel_rfl
def u_impl_nextToken_h : List Hint:=[⟨23,1,⟨[(109,.p false [.d 11]),(70,.p false [.d 10]),(42,.p false [.d 8]),(19,.p false [.d 6]),(6,.p false [.d 5]),(5,.p false [.d 4]),(4,.p false [.ptr 0 0 0]),(0,.p false [.d 0]),(1,.p false [.d 1])],[(0,.var 0 29 [.d 2,.d 3])],1,1,12,[(10,false),(8,false),(6,false)]⟩,[]⟩,⟨2000001,2,⟨[(84,.p false [.d 13]),(13,.p false [.d 14]),(70,.p false [.d 10]),(42,.p false [.d 8]),(19,.p false [.d 6]),(6,.p false [.d 5]),(5,.p false [.d 4]),(4,.p false [.ptr 0 0 0]),(0,.p false [.d 0]),(1,.p false [.d 1])],[(0,.var 0 29 [.d 2,.d 3])],1,1,15,[(10,true),(8,false),(6,false)]⟩,[]⟩,⟨3000018,1,⟨[(13,.p false [.d 13]),(70,.p false [.d 10]),(42,.p false [.d 8]),(19,.p false [.d 6]),(6,.p false [.d 5]),(5,.p false [.d 4]),(4,.p false [.ptr 0 0 0]),(0,.p false [.d 0]),(1,.p false [.d 1])],[(0,.var 0 29 [.d 2,.d 3])],1,1,14,[(10,true),(8,false),(6,false)]⟩,[]⟩]
def u_impl_nextToken_d : List (Nat × Nat × Bool × List Nat):=[]
def u_impl_nextToken_l0 : UP:=.po (.lenS 3) <| .po (.bin .lss false 1 0) <| .ite 0 (.po (.chr 5 2) <| .po (.k (.int .u8 96)) <| .po (.bin .neq false 1 0) <| .ite 0 (.po (.k (.int .i64 1)) <| .po (.bin .add false 6 0) <| .jump 1 [0]) <| .jump 0 [0,5]) <| .po (.k (.bool false)) <| .jump 0 [0,3]
def u_impl_nextToken_j1 : UP:=.po (.lenS 4) <| .po (.bin .eql false 1 0) <| .ite 0 (.po (.k (.bool true)) <| .po (.k (.int .i64 0)) <| .po (.k (.string ⟨#[]⟩)) <| .po (.k (.int .i64 (-1))) <| .po (.sc 2) <| .po (.sc 1) <| .po (.sc 0) <| .ret [(true,[2,1]),(false,[0])]) <| .po (.k (.int .i64 1)) <| .po (.bin .add false 6 0) <| .po (.cutS 8 (some 0) (some 4)) <| .sel [0,5,8,9] <| .cl 21 [(false,[0])] [(false,[none],true)] <| .po (.un .not 0) <| .ite 0 (.po (.k (.int .i64 0)) <| .po (.k (.string ⟨#[]⟩)) <| .po (.k (.int .i64 (-1))) <| .po (.sc 2) <| .po (.sc 1) <| .po (.sc 0) <| .ret [(true,[2,1]),(false,[0])]) <| .po (.k (.int .i64 1)) <| .po (.bin .add false 5 0) <| .po (.cutS 7 (some 0) (some 5)) <| .po (.k (.int .i64 0)) <| .po (.k (.string ⟨#[]⟩)) <| .po (.k (.int .i64 3)) <| .po (.k (.int .i64 1)) <| .po (.bin .add false 10 0) <| .po (.sc 2) <| .po (.sc 5) <| .po (.sc 0) <| .ret [(true,[2,5]),(false,[0])]
def u_impl_nextToken_j2 : UP:=.ite 0 (.cl 36 [(false,[3]),(false,[2])] [(false,[none],true)] <| .po (.cutS 4 (some 3) (some 0)) <| .cl 22 [(false,[0])] [(false,[none],true)] <| .ite 0 (.po (.cutS 6 (some 5) (some 2)) <| .po (.k (.int .i64 0)) <| .po (.k (.string ⟨#[]⟩)) <| .po (.k (.int .i64 4)) <| .po (.sc 0) <| .po (.sc 3) <| .po (.sc 6) <| .ret [(true,[0,3]),(false,[6])]) <| .po (.cutS 6 (some 5) (some 2)) <| .sel [0,3,6,7] <| .cl 37 [(false,[0])] [(false,[none],true)] <| .po (.un .not 0) <| .ite 0 (.po (.k (.int .i64 0)) <| .po (.k (.string ⟨#[]⟩)) <| .po (.k (.int .i64 (-1))) <| .po (.sc 2) <| .po (.sc 1) <| .po (.sc 0) <| .ret [(true,[2,1]),(false,[0])]) <| .po (.cutS 5 (some 4) (some 3)) <| .po (.k (.int .i64 0)) <| .po (.k (.string ⟨#[]⟩)) <| .po (.k (.int .i64 3)) <| .po (.sc 0) <| .po (.sc 3) <| .po (.sc 7) <| .ret [(true,[0,3]),(false,[7])]) <| .po (.k (.int .u8 59)) <| .po (.bin .eql false 2 0) <| .ite 0 (.po (.k (.int .i64 0)) <| .po (.k (.string ⟨#[]⟩)) <| .po (.k (.int .i64 6)) <| .po (.k (.string ⟨#[59]⟩)) <| .po (.k (.int .i64 1)) <| .po (.bin .add false 9 0) <| .po (.sc 3) <| .po (.sc 2) <| .po (.sc 0) <| .ret [(true,[3,2]),(false,[0])]) <| .sel [4,5] <| .cl 38 [(false,[1]),(false,[0])] [(false,[none],true)] <| .po (.k (.string ⟨#[]⟩)) <| .po (.bin .eql false 1 0) <| .ite 0 (.po (.k (.int .i64 0)) <| .po (.k (.string ⟨#[]⟩)) <| .po (.k (.int .i64 (-1))) <| .po (.sc 2) <| .po (.sc 1) <| .po (.sc 0) <| .ret [(true,[2,1]),(false,[0])]) <| .po (.k (.int .i64 0)) <| .po (.k (.string ⟨#[]⟩)) <| .po (.k (.int .i64 5)) <| .po (.lenS 5) <| .po (.bin .add false 7 0) <| .po (.sc 2) <| .po (.sc 7) <| .po (.sc 0) <| .ret [(true,[2,7]),(false,[0])]
def u_impl_nextToken_u : UP:=.po (.k (.int .i64 0)) <| .po (.k (.string ⟨#[]⟩)) <| .po (.k (.int .i64 0)) <| .po (.chr 4 3) <| .cl 31 [(false,[0])] [(false,[none],true)] <| .ite 0 (.sel [5,6] <| .cl 32 [(false,[1]),(false,[0])] [(false,[none],true)] <| .po (.cutS 2 (some 1) (some 0)) <| .cl 20 [(false,[0])] [(false,[none],true),(false,[none],true)] <| .po (.un .not 0) <| .ite 0 (.po (.k (.int .i64 0)) <| .po (.k (.string ⟨#[]⟩)) <| .po (.k (.int .i64 (-1))) <| .po (.sc 2) <| .po (.sc 1) <| .po (.sc 0) <| .ret [(true,[2,1]),(false,[0])]) <| .po (.cutS 6 (some 5) (some 4)) <| .po (.k (.int .i64 0)) <| .po (.k (.string ⟨#[]⟩)) <| .po (.k (.int .i64 1)) <| .po (.sc 0) <| .po (.sc 3) <| .po (.sc 8) <| .ret [(true,[0,3]),(false,[8])]) <| .po (.k (.int .u8 34)) <| .po (.bin .eql false 2 0) <| .ite 0 (.sel [7,8] <| .cl 33 [(false,[1]),(false,[0])] [(false,[none],true)] <| .po (.k (.int .i64 0)) <| .po (.bin .lss false 1 0) <| .ite 0 (.po (.k (.int .i64 0)) <| .po (.k (.string ⟨#[]⟩)) <| .po (.k (.int .i64 (-1))) <| .po (.sc 2) <| .po (.sc 1) <| .po (.sc 0) <| .ret [(true,[2,1]),(false,[0])]) <| .po (.cutS 4 (some 3) (some 2)) <| .sel [0,3] <| .cl 34 [(false,[0])] [(false,[none],true),(false,[none],true)] <| .po (.un .not 0) <| .ite 0 (.po (.k (.bool true)) <| .po (.k (.int .i64 0)) <| .po (.k (.string ⟨#[]⟩)) <| .po (.k (.int .i64 (-1))) <| .po (.sc 2) <| .po (.sc 1) <| .po (.sc 0) <| .ret [(true,[2,1]),(false,[0])]) <| .po (.lenS 2) <| .po (.k (.int .i64 60)) <| .po (.bin .gtr false 1 0) <| .ite 0 (.po (.k (.int .i64 0)) <| .po (.k (.string ⟨#[]⟩)) <| .po (.k (.int .i64 (-1))) <| .po (.sc 2) <| .po (.sc 1) <| .po (.sc 0) <| .ret [(true,[2,1]),(false,[0])]) <| .po (.k (.int .i64 0)) <| .po (.k (.string ⟨#[]⟩)) <| .po (.k (.int .i64 2)) <| .po (.sc 0) <| .po (.sc 8) <| .po (.sc 10) <| .ret [(true,[0,8]),(false,[10])]) <| .po (.k (.int .u8 96)) <| .po (.bin .eql false 4 0) <| .ite 0 (.po (.k (.int .i64 1)) <| .po (.bin .add false 10 0) <| .sel [0,11,12] <| .join 2 u_impl_nextToken_j1 <| .loop [0] u_impl_nextToken_l0) <| .sel [5,9,10] <| .join 1 u_impl_nextToken_j2 <| .cl 35 [(false,[0])] [(false,[none],true)] <| .ite 0 (.po (.k (.bool true)) <| .jump 0 [0]) <| .po (.k (.int .u8 46)) <| .po (.bin .eql false 2 0) <| .jump 0 [0]
theorem u_impl_nextToken_g : toUPf Try.prog 16 Try.f16 owA u_impl_nextToken_h u_impl_nextToken_d = some ([(false,1),(false,1)],u_impl_nextToken_u):=by kernel_rfl
def u_impl_digitsEnd_h : List Hint:=[⟨3000001,1,⟨[(4,.p false [.d 2]),(0,.p false [.d 0]),(1,.p false [.d 3])],[],0,0,4,[]⟩,[]⟩]
def u_impl_digitsEnd_d : List (Nat × Nat × Bool × List Nat):=[]
def u_impl_digitsEnd_l0 : UP:=.po (.lenS 3) <| .po (.bin .lss false 1 0) <| .ite 0 (.po (.chr 5 2) <| .sel [0,3] <| .cl 31 [(false,[0])] [(false,[none],true)] <| .ite 0 (.po (.k (.int .i64 1)) <| .po (.bin .add false 3 0) <| .jump 0 [0]) <| .po (.sc 2) <| .ret [(false,[2])]) <| .po (.k (.bool false)) <| .po (.sc 3) <| .ret [(false,[3])]
def u_impl_digitsEnd_u : UP:=.po (.k (.int .i64 0)) <| .loop [1] u_impl_digitsEnd_l0
theorem u_impl_digitsEnd_g : toUPf Try.prog 32 Try.f32 owA u_impl_digitsEnd_h u_impl_digitsEnd_d = some ([(false,1),(false,1)],u_impl_digitsEnd_u):=by kernel_rfl
def u_impl_endsExpression_h : List Hint:=[]
def u_impl_endsExpression_d : List (Nat × Nat × Bool × List Nat):=[]
def u_impl_endsExpression_u : UP:=.po (.k (.bool false)) <| .po (.k (.int .i64 6)) <| .po (.bin .eql false 3 0) <| .ite 0 (.po (.k (.bool false)) <| .po (.sc 0) <| .ret [(false,[0])]) <| .po (.k (.int .i64 4)) <| .po (.bin .eql false 5 0) <| .ite 0 (.po (.k (.string ⟨#[101,108,115,101]⟩)) <| .po (.bin .neq false 6 0) <| .po (.sc 0) <| .ret [(false,[0])]) <| .po (.k (.int .i64 5)) <| .po (.bin .eql false 7 0) <| .ite 0 (.po (.k (.string ⟨#[41]⟩)) <| .po (.bin .eql false 8 0) <| .ite 0 (.po (.k (.bool true)) <| .po (.k (.bool true)) <| .po (.sc 0) <| .ret [(false,[0])]) <| .po (.k (.string ⟨#[93]⟩)) <| .po (.bin .eql false 10 0) <| .ite 0 (.po (.k (.bool true)) <| .po (.sc 0) <| .ret [(false,[0])]) <| .po (.k (.string ⟨#[125]⟩)) <| .po (.bin .eql false 12 0) <| .po (.sc 0) <| .ret [(false,[0])]) <| .po (.k (.bool true)) <| .po (.sc 0) <| .ret [(false,[0])]
theorem u_impl_endsExpression_g : toUPf Try.prog 15 Try.f15 owA u_impl_endsExpression_h u_impl_endsExpression_d = some ([(true,2)],u_impl_endsExpression_u):=by kernel_rfl
def u_impl_signAt_h : List Hint:=[⟨2000001,2,⟨[(30,.p false [.d 8]),(6,.p false [.d 9]),(10,.p false [.d 7]),(9,.p false [.d 6]),(8,.p false [.d 4]),(7,.p false [.own 0 0]),(4,.p false [.d 2]),(0,.p false [.d 0]),(1,.p false [.d 1])],[(0,.row 0 9 1 3)],1,1,10,[(7,true)]⟩,[]⟩,⟨3000002,1,⟨[(9,.p false [.d 6]),(8,.p false [.d 4]),(7,.p false [.own 0 0]),(4,.p false [.d 2]),(0,.p false [.d 0]),(1,.p false [.d 1])],[(0,.row 0 9 1 3)],1,1,7,[]⟩,[]⟩]
def u_impl_signAt_d : List (Nat × Nat × Bool × List Nat):=[]
def u_impl_signAt_j0 : UP:=.po (.k (.int .i64 1)) <| .po (.bin .add false 3 0) <| .jump 0 [0]
def u_impl_signAt_l1 : UP:=.po (.bin .lss false 0 2) <| .ite 0 (.sel [1,4,6,7] <| .join 2 u_impl_signAt_j0 <| .po (.isI 0) <| .po (.chk 1 1 0) <| .po (.idx 1 1 0) <| .po (.lenS 0) <| .po (.bin .add false 4 0) <| .po (.lenS 6) <| .po (.bin .leq false 1 0) <| .ite 0 (.po (.lenS 4) <| .po (.bin .add false 8 0) <| .po (.cutS 10 (some 9) (some 0)) <| .po (.bin .eql false 0 7) <| .ite 0 (.po (.sc 8) <| .ret [(false,[8])]) <| .jump 1 [0,8]) <| .po (.k (.bool false)) <| .jump 1 [0,5]) <| .po (.k (.string ⟨#[]⟩)) <| .po (.sc 0) <| .ret [(false,[0])]
def u_impl_signAt_u : UP:=.po (.k (.string ⟨#[]⟩)) <| .cl 51 [] [(false,[some (9,1)],true)] <| .po (.lenL 0) <| .po (.k (.int .i64 0)) <| .loop [0] u_impl_signAt_l1
theorem u_impl_signAt_g : toUPf Try.prog 38 Try.f38 owA u_impl_signAt_h u_impl_signAt_d = some ([(false,1),(false,1)],u_impl_signAt_u):=by kernel_rfl
def u_impl_stringEnd_h : List Hint:=[⟨2000001,2,⟨[(5,.p false [.d 8]),(17,.p false [.d 9]),(11,.p false [.d 7]),(4,.p false [.d 2]),(0,.p false [.d 0]),(1,.p false [.d 1])],[],0,0,10,[(7,true)]⟩,[]⟩,⟨3000002,1,⟨[(5,.p false [.d 5]),(4,.p false [.d 2]),(0,.p false [.d 0]),(1,.p false [.d 1])],[],0,0,6,[]⟩,[]⟩]
def u_impl_stringEnd_d : List (Nat × Nat × Bool × List Nat):=[]
def u_impl_stringEnd_j0 : UP:=.po (.k (.int .i64 1)) <| .po (.bin .add false 2 0) <| .jump 0 [0]
def u_impl_stringEnd_l1 : UP:=.po (.lenS 5) <| .po (.bin .lss false 1 0) <| .ite 0 (.sel [2,7] <| .join 2 u_impl_stringEnd_j0 <| .po (.chr 1 0) <| .po (.k (.int .u8 92)) <| .po (.bin .eql false 1 0) <| .ite 0 (.po (.k (.int .i64 1)) <| .po (.bin .add false 4 0) <| .jump 1 [0,2]) <| .po (.chr 4 3) <| .po (.k (.int .u8 34)) <| .po (.bin .eql false 1 0) <| .ite 0 (.po (.k (.int .i64 1)) <| .po (.bin .add false 7 0) <| .po (.sc 0) <| .ret [(false,[0])]) <| .jump 1 [6,3]) <| .po (.k (.int .i64 (-1))) <| .po (.sc 0) <| .ret [(false,[0])]
def u_impl_stringEnd_u : UP:=.po (.k (.int .i64 0)) <| .po (.k (.int .i64 1)) <| .po (.bin .add false 2 0) <| .loop [0] u_impl_stringEnd_l1
theorem u_impl_stringEnd_g : toUPf Try.prog 33 Try.f33 owA u_impl_stringEnd_h u_impl_stringEnd_d = some ([(false,1),(false,1)],u_impl_stringEnd_u):=by kernel_rfl
def u_impl_wordEnd_h : List Hint:=[⟨1,1,⟨[(32,.p false [.d 4]),(4,.p false [.d 2]),(0,.p false [.d 0]),(1,.p false [.d 3])],[],0,0,5,[]⟩,[]⟩,⟨3000001,1,⟨[(4,.p false [.d 2]),(0,.p false [.d 0]),(1,.p false [.d 3])],[],0,0,4,[]⟩,[]⟩]
def u_impl_wordEnd_d : List (Nat × Nat × Bool × List Nat):=[]
def u_impl_wordEnd_j0 : UP:=.ite 0 (.po (.k (.int .i64 1)) <| .po (.bin .add false 2 0) <| .jump 0 [0]) <| .po (.sc 1) <| .ret [(false,[1])]
def u_impl_wordEnd_l1 : UP:=.join 1 u_impl_wordEnd_j0 <| .po (.lenS 3) <| .po (.bin .lss false 1 0) <| .ite 0 (.po (.chr 5 2) <| .sel [0,3,6] <| .cl 35 [(false,[0])] [(false,[none],true)] <| .ite 0 (.po (.k (.bool true)) <| .po (.k (.bool true)) <| .po (.k (.bool true)) <| .jump 1 [0]) <| .po (.chr 3 2) <| .cl 31 [(false,[0])] [(false,[none],true)] <| .ite 0 (.po (.k (.bool true)) <| .po (.k (.bool true)) <| .jump 1 [0]) <| .po (.chr 5 4) <| .po (.k (.int .u8 46)) <| .po (.bin .eql false 1 0) <| .ite 0 (.po (.k (.bool true)) <| .jump 1 [0]) <| .po (.chr 8 7) <| .po (.k (.int .u8 95)) <| .po (.bin .eql false 1 0) <| .jump 1 [0]) <| .po (.k (.bool false)) <| .jump 1 [0]
def u_impl_wordEnd_u : UP:=.po (.k (.int .i64 0)) <| .loop [1] u_impl_wordEnd_l1
theorem u_impl_wordEnd_g : toUPf Try.prog 36 Try.f36 owA u_impl_wordEnd_h u_impl_wordEnd_d = some ([(false,1),(false,1)],u_impl_wordEnd_u):=by kernel_rfl
def u_spec_l15Open_h : List Hint:=[]
def u_spec_l15Open_d : List (Nat × Nat × Bool × List Nat):=[]
def u_spec_l15Open_u : UP:=.po (.k (.bool false)) <| .po (.k (.int .i64 6)) <| .po (.bin .eql false 3 0) <| .ite 0 (.po (.k (.bool true)) <| .po (.k (.bool true)) <| .po (.sc 0) <| .ret [(false,[0])]) <| .po (.k (.int .i64 4)) <| .po (.bin .eql false 5 0) <| .ite 0 (.po (.k (.string ⟨#[101,108,115,101]⟩)) <| .po (.bin .eql false 6 0) <| .ite 0 (.po (.k (.bool true)) <| .po (.sc 0) <| .ret [(false,[0])]) <| .po (.k (.int .i64 5)) <| .po (.bin .eql false 9 0) <| .ite 0 (.po (.k (.string ⟨#[41]⟩)) <| .po (.k (.string ⟨#[93]⟩)) <| .po (.k (.string ⟨#[125]⟩)) <| .po (.sc 2) <| .po (.sc 1) <| .po (.sc 0) <| .po (.mk 9 1 [[2],[1],[0]]) <| .sel [0,13] <| .cl 19 [(false,[0]),(false,[1])] [(false,[none],true)] <| .po (.un .not 0) <| .po (.sc 0) <| .ret [(false,[0])]) <| .po (.k (.bool false)) <| .po (.sc 0) <| .ret [(false,[0])]) <| .po (.k (.bool false)) <| .po (.k (.int .i64 5)) <| .po (.bin .eql false 8 0) <| .ite 0 (.po (.k (.string ⟨#[41]⟩)) <| .po (.k (.string ⟨#[93]⟩)) <| .po (.k (.string ⟨#[125]⟩)) <| .po (.sc 2) <| .po (.sc 1) <| .po (.sc 0) <| .po (.mk 9 1 [[2],[1],[0]]) <| .sel [0,12] <| .cl 19 [(false,[0]),(false,[1])] [(false,[none],true)] <| .po (.un .not 0) <| .po (.sc 0) <| .ret [(false,[0])]) <| .po (.k (.bool false)) <| .po (.sc 0) <| .ret [(false,[0])]
theorem u_spec_l15Open_g : toUPf Try.prog 17 Try.f17 owA u_spec_l15Open_h u_spec_l15Open_d = some ([(true,2)],u_spec_l15Open_u):=by kernel_rfl
def u_impl_UnquoteString_h : List Hint:=[⟨2000001,3,⟨[(6,.p false [.d 27]),(5,.p false [.own 0 0]),(35,.p false [.d 28]),(31,.p false [.d 26]),(4,.p false [.d 20]),(22,.p false [.d 15]),(3,.p false [.d 2]),(2,.p false [.d 1]),(0,.p false [.d 0])],[(0,.row 0 5 1 29)],1,1,30,[(26,true),(15,false),(9,false),(5,false),(2,false)]⟩,[]⟩,⟨3000006,2,⟨[(5,.p false [.own 0 0]),(6,.p false [.d 23]),(4,.p false [.d 20]),(22,.p false [.d 15]),(3,.p false [.d 2]),(2,.p false [.d 1]),(0,.p false [.d 0])],[(0,.row 0 5 1 24)],1,1,25,[(15,false),(9,false),(5,false),(2,false)]⟩,[⟨true,5,0,5,1⟩]⟩]
def u_impl_UnquoteString_d : List (Nat × Nat × Bool × List Nat):=[(21,15,false,[])]
def u_impl_UnquoteString_j0 : UP:=.jump 0 [2,0]
def u_impl_UnquoteString_l1 : UP:=.po (.lenS 4) <| .po (.bin .lss false 2 0) <| .ite 0 (.sel [2,3,6] <| .join 3 u_impl_UnquoteString_j0 <| .po (.chr 2 1) <| .po (.k (.int .u8 92)) <| .po (.bin .neq false 1 0) <| .ite 0 (.po (.chr 5 4) <| .po (.sc 0) <| .po (.mk 5 1 [[0]]) <| .po (.flat 0) <| .po (.app 5 1 1 5 0) <| .po (.k (.int .i64 1)) <| .po (.bin .add false 8 0) <| .jump 1 [0,5,2]) <| .po (.k (.int .i64 1)) <| .po (.bin .add false 5 0) <| .po (.lenS 7) <| .po (.bin .geq false 1 0) <| .ite 0 (.po (.k (.string ⟨#[]⟩)) <| .po (.k (.bool false)) <| .po (.sc 1) <| .po (.sc 0) <| .ret [(false,[1]),(false,[0])]) <| .po (.k (.int .i64 1)) <| .po (.bin .add false 9 0) <| .po (.chr 11 0) <| .po (.k (.int .u8 110)) <| .po (.bin .eql false 1 0) <| .ite 0 (.po (.k (.int .u8 10)) <| .po (.sc 0) <| .po (.mk 5 1 [[0]]) <| .po (.flat 0) <| .po (.app 5 1 1 14 0) <| .po (.k (.int .i64 2)) <| .po (.bin .add false 17 0) <| .jump 1 [0,14,2]) <| .po (.k (.int .u8 120)) <| .po (.bin .eql false 3 0) <| .ite 0 (.po (.k (.int .i64 3)) <| .po (.bin .add false 16 0) <| .po (.lenS 18) <| .po (.bin .geq false 1 0) <| .ite 0 (.po (.k (.bool true)) <| .po (.k (.bool true)) <| .po (.k (.string ⟨#[]⟩)) <| .po (.k (.bool false)) <| .po (.sc 1) <| .po (.sc 0) <| .ret [(false,[1]),(false,[0])]) <| .po (.k (.int .i64 2)) <| .po (.bin .add false 20 0) <| .po (.chr 22 0) <| .sel [0,18,21,22,23] <| .cl 55 [(false,[0])] [(false,[none],true)] <| .po (.k (.int .i64 0)) <| .po (.bin .lss false 1 0) <| .ite 0 (.po (.k (.bool true)) <| .po (.k (.string ⟨#[]⟩)) <| .po (.k (.bool false)) <| .po (.sc 1) <| .po (.sc 0) <| .ret [(false,[1]),(false,[0])]) <| .po (.k (.int .i64 3)) <| .po (.bin .add false 7 0) <| .po (.chr 9 0) <| .sel [0,7,8,9,10] <| .cl 55 [(false,[0])] [(false,[none],true)] <| .po (.k (.int .i64 0)) <| .po (.bin .lss false 1 0) <| .ite 0 (.po (.k (.string ⟨#[]⟩)) <| .po (.k (.bool false)) <| .po (.sc 1) <| .po (.sc 0) <| .ret [(false,[1]),(false,[0])]) <| .po (.k (.int .i64 2)) <| .po (.bin .add false 7 0) <| .po (.sc 0) <| .po (.chr 9 0) <| .po (.sc 0) <| .sel [0,7,8,9,10] <| .cl 55 [(false,[0])] [(false,[none],true)] <| .po (.k (.int .i64 16)) <| .po (.bin .mul false 0 1) <| .po (.sc 0) <| .po (.k (.int .i64 3)) <| .po (.bin .add false 7 0) <| .po (.sc 0) <| .po (.chr 9 0) <| .po (.sc 0) <| .sel [0,3,7,8,9] <| .cl 55 [(false,[0])] [(false,[none],true)] <| .po (.bin .add false 2 0) <| .po (.sc 0) <| .po (.cvI .u8 0) <| .po (.sc 0) <| .po (.mk 5 1 [[0]]) <| .po (.sc 1) <| .po (.mk 5 1 [[1]]) <| .po (.flat 0) <| .po (.app 5 1 1 8 0) <| .po (.k (.int .i64 4)) <| .po (.bin .add false 11 0) <| .jump 1 [0,10,2]) <| .po (.k (.int .i64 1)) <| .po (.bin .add false 16 0) <| .po (.chr 18 0) <| .po (.sc 0) <| .po (.mk 5 1 [[0]]) <| .po (.flat 0) <| .po (.app 5 1 1 18 0) <| .po (.k (.int .i64 2)) <| .po (.bin .add false 21 0) <| .jump 1 [0,18,2]) <| .po (.cvB 2) <| .sel [0,3,8] <| .cl 24 [(false,[0])] [(false,[none],true)] <| .po (.bin .neq false 0 3) <| .ite 0 (.po (.k (.string ⟨#[]⟩)) <| .po (.k (.bool false)) <| .po (.sc 1) <| .po (.sc 0) <| .ret [(false,[1]),(false,[0])]) <| .po (.cvB 3) <| .po (.k (.bool true)) <| .po (.sc 1) <| .po (.sc 0) <| .ret [(false,[1]),(false,[0])]
def u_impl_UnquoteString_u : UP:=.po (.k (.string ⟨#[]⟩)) <| .po (.k (.bool false)) <| .po (.lenS 2) <| .po (.k (.int .i64 2)) <| .po (.bin .lss false 1 0) <| .ite 0 (.po (.k (.bool true)) <| .po (.k (.bool true)) <| .po (.k (.string ⟨#[]⟩)) <| .po (.k (.bool false)) <| .po (.sc 1) <| .po (.sc 0) <| .ret [(false,[1]),(false,[0])]) <| .po (.k (.int .i64 0)) <| .po (.chr 6 0) <| .po (.k (.int .u8 34)) <| .po (.bin .neq false 1 0) <| .ite 0 (.po (.k (.bool true)) <| .po (.k (.string ⟨#[]⟩)) <| .po (.k (.bool false)) <| .po (.sc 1) <| .po (.sc 0) <| .ret [(false,[1]),(false,[0])]) <| .po (.lenS 9) <| .po (.k (.int .i64 1)) <| .po (.bin .sub false 1 0) <| .po (.chr 12 0) <| .po (.k (.int .u8 34)) <| .po (.bin .neq false 1 0) <| .ite 0 (.po (.k (.string ⟨#[]⟩)) <| .po (.k (.bool false)) <| .po (.sc 1) <| .po (.sc 0) <| .ret [(false,[1]),(false,[0])]) <| .po (.lenS 15) <| .po (.k (.int .i64 1)) <| .po (.bin .sub false 1 0) <| .po (.k (.int .i64 1)) <| .po (.cutS 19 (some 0) (some 1)) <| .po (.k (.int .i64 0)) <| .po (.e 5 1) <| .sel [0,1,2,22] <| .loop [1,0] u_impl_UnquoteString_l1
theorem u_impl_UnquoteString_g : toUPf Try.prog 34 Try.f34 owA u_impl_UnquoteString_h u_impl_UnquoteString_d = some ([(false,1)],u_impl_UnquoteString_u):=by kernel_rfl
def u_spec_UnquoteString_h : List Hint:=[⟨2000001,4,⟨[(4,.p false [.d 11]),(6,.p false [.d 12]),(5,.p false [.d 13]),(28,.p false [.d 14]),(11,.p false [.d 10]),(3,.p false [.d 2]),(2,.p false [.d 1]),(0,.p false [.d 0])],[],0,0,15,[(10,true),(2,false)]⟩,[]⟩,⟨3000003,2,⟨[(5,.p false [.d 5]),(4,.p false [.d 6]),(3,.p false [.d 2]),(2,.p false [.d 1]),(0,.p false [.d 0])],[],0,0,7,[(2,false)]⟩,[]⟩]
def u_spec_UnquoteString_d : List (Nat × Nat × Bool × List Nat):=[(12,16,false,[])]
def u_spec_UnquoteString_j0 : UP:=.po (.k (.int .i64 1)) <| .po (.bin .add false 2 0) <| .jump 0 [0,5]
def u_spec_UnquoteString_l1 : UP:=.po (.lenS 6) <| .po (.k (.int .i64 1)) <| .po (.bin .sub false 1 0) <| .po (.bin .lss false 4 0) <| .ite 0 (.sel [4,5,10] <| .join 4 u_spec_UnquoteString_j0 <| .po (.k (.int .i64 1)) <| .po (.bin .add false 2 0) <| .po (.cutS 4 (some 3) (some 0)) <| .po (.k (.string ⟨#[92]⟩)) <| .po (.bin .eql false 1 0) <| .ite 0 (.po (.k (.int .i64 1)) <| .po (.bin .add false 7 0) <| .po (.lenS 9) <| .po (.k (.int .i64 1)) <| .po (.bin .sub false 1 0) <| .po (.bin .lss false 3 0) <| .ite 0 (.po (.k (.int .i64 1)) <| .po (.bin .add false 13 0) <| .po (.k (.int .i64 1)) <| .po (.bin .add false 1 0) <| .po (.cutS 17 (some 2) (some 0)) <| .po (.k (.string ⟨#[110]⟩)) <| .po (.bin .eql false 1 0) <| .ite 0 (.po (.k (.string ⟨#[10]⟩)) <| .po (.bin .add false 19 0) <| .jump 1 [0,1,7,9]) <| .po (.k (.string ⟨#[120]⟩)) <| .po (.bin .eql false 3 0) <| .ite 0 (.po (.k (.int .i64 2)) <| .po (.bin .add false 8 0) <| .po (.lenS 24) <| .po (.k (.int .i64 1)) <| .po (.bin .sub false 1 0) <| .po (.bin .lss false 3 0) <| .ite 0 (.po (.k (.int .i64 1)) <| .po (.bin .add false 14 0) <| .po (.sc 0) <| .po (.chr 30 0) <| .po (.sc 0) <| .sel [0,16,18,29,31] <| .cl 57 [(false,[0])] [(false,[none],true)] <| .po (.k (.int .i64 16)) <| .po (.bin .mul false 1 0) <| .po (.sc 0) <| .po (.k (.int .i64 2)) <| .po (.bin .add false 5 0) <| .po (.sc 0) <| .po (.chr 9 0) <| .po (.sc 0) <| .sel [0,3,7,8,9] <| .cl 57 [(false,[0])] [(false,[none],true)] <| .po (.bin .add false 2 0) <| .po (.sc 0) <| .po (.cvI .u8 0) <| .po (.sc 0) <| .po (.mk 5 1 [[0]]) <| .po (.cvB 0) <| .po (.sc 0) <| .po (.sc 0) <| .po (.sc 2) <| .po (.mk 5 1 [[2]]) <| .po (.k (.int .i64 2)) <| .po (.bin .add false 9 0) <| .po (.bin .add false 12 3) <| .jump 1 [0,4,1,12]) <| .po (.bin .add false 26 10) <| .jump 1 [0,11,14,16]) <| .po (.k (.bool false)) <| .po (.bin .add false 21 5) <| .jump 1 [0,6,9,11]) <| .po (.bin .add false 11 8) <| .jump 1 [0,9,13,1]) <| .po (.k (.bool false)) <| .po (.bin .add false 6 3) <| .jump 1 [0,4,8,1]) <| .sel [4,10] <| .cl 52 [(false,[0])] [(false,[none],true)] <| .po (.bin .neq false 0 2) <| .ite 0 (.po (.k (.string ⟨#[]⟩)) <| .po (.k (.bool false)) <| .po (.sc 1) <| .po (.sc 0) <| .ret [(false,[1]),(false,[0])]) <| .po (.k (.bool true)) <| .po (.sc 3) <| .po (.sc 0) <| .ret [(false,[3]),(false,[0])]
def u_spec_UnquoteString_u : UP:=.po (.k (.string ⟨#[]⟩)) <| .po (.k (.bool false)) <| .po (.k (.string ⟨#[]⟩)) <| .po (.k (.int .i64 1)) <| .loop [0,1] u_spec_UnquoteString_l1
theorem u_spec_UnquoteString_g : toUPf Try.prog 41 Try.f41 owA u_spec_UnquoteString_h u_spec_UnquoteString_d = some ([(false,1)],u_spec_UnquoteString_u):=by kernel_rfl
def u_impl_hexValue_h : List Hint:=[⟨3000002,1,⟨[(3,.p false [.d 3]),(2,.p false [.d 1]),(0,.p false [.d 0])],[],0,0,4,[]⟩,[]⟩]
def u_impl_hexValue_d : List (Nat × Nat × Bool × List Nat):=[]
def u_impl_hexValue_l0 : UP:=.po (.k (.int .i64 16)) <| .po (.bin .lss false 1 0) <| .ite 0 (.po (.k (.string ⟨#[48,49,50,51,52,53,54,55,56,57,97,98,99,100,101,102]⟩)) <| .po (.chr 0 3) <| .po (.bin .eql false 0 7) <| .ite 0 (.po (.sc 5) <| .ret [(false,[5])]) <| .po (.k (.int .i64 1)) <| .po (.bin .add false 6 0) <| .jump 0 [0]) <| .po (.k (.int .i64 (-1))) <| .po (.sc 0) <| .ret [(false,[0])]
def u_impl_hexValue_u : UP:=.po (.k (.int .i64 0)) <| .po (.k (.int .i64 0)) <| .loop [0] u_impl_hexValue_l0
theorem u_impl_hexValue_g : toUPf Try.prog 55 Try.f55 owA u_impl_hexValue_h u_impl_hexValue_d = some ([(false,1)],u_impl_hexValue_u):=by kernel_rfl
def u_spec_l1Nibble_h : List Hint:=[⟨3000002,1,⟨[(3,.p false [.d 3]),(2,.p false [.d 1]),(0,.p false [.d 0])],[],0,0,4,[]⟩,[]⟩]
def u_spec_l1Nibble_d : List (Nat × Nat × Bool × List Nat):=[]
def u_spec_l1Nibble_l0 : UP:=.po (.k (.int .i64 16)) <| .po (.bin .lss false 1 0) <| .ite 0 (.po (.k (.string ⟨#[48,49,50,51,52,53,54,55,56,57,97,98,99,100,101,102]⟩)) <| .po (.chr 0 3) <| .po (.bin .eql false 0 7) <| .ite 0 (.po (.sc 5) <| .ret [(false,[5])]) <| .po (.k (.int .i64 1)) <| .po (.bin .add false 6 0) <| .jump 0 [0]) <| .po (.k (.int .i64 0)) <| .po (.sc 0) <| .ret [(false,[0])]
def u_spec_l1Nibble_u : UP:=.po (.k (.int .i64 0)) <| .po (.k (.int .i64 0)) <| .loop [0] u_spec_l1Nibble_l0
theorem u_spec_l1Nibble_g : toUPf Try.prog 57 Try.f57 owA u_spec_l1Nibble_h u_spec_l1Nibble_d = some ([(false,1)],u_spec_l1Nibble_u):=by kernel_rfl
def u_impl_QuoteString_h : List Hint:=[⟨11,1,⟨[(37,.p false [.d 16]),(31,.p false [.d 15]),(20,.p false [.d 13]),(5,.p false [.d 9]),(10,.p false [.d 8]),(4,.p false [.d 5]),(3,.p false [.own 0 0]),(2,.p false [.d 1]),(0,.p false [.d 0])],[(0,.row 0 5 1 6)],1,1,17,[(15,false),(13,false),(11,false),(8,true)]⟩,[]⟩,⟨2000001,3,⟨[(3,.p false [.own 0 0]),(20,.p false [.d 9]),(5,.p false [.d 10]),(10,.p false [.d 8]),(4,.p false [.d 5]),(2,.p false [.d 1]),(0,.p false [.d 0])],[(0,.row 0 5 1 11)],1,1,12,[(8,true)]⟩,[]⟩,⟨3000003,2,⟨[(4,.p false [.d 5]),(3,.p false [.own 0 0]),(2,.p false [.d 1]),(0,.p false [.d 0])],[(0,.row 0 5 1 6)],1,1,7,[]⟩,[]⟩]
def u_impl_QuoteString_d : List (Nat × Nat × Bool × List Nat):=[(12,8,false,[])]
def u_impl_QuoteString_j0 : UP:=.ite 0 (.po (.k (.int .u8 16)) <| .po (.bin .quo false 3 0) <| .po (.sc 0) <| .po (.k (.string ⟨#[48,49,50,51,52,53,54,55,56,57,97,98,99,100,101,102]⟩)) <| .po (.chr 0 1) <| .po (.sc 0) <| .po (.k (.int .u8 16)) <| .po (.bin .rem false 7 0) <| .po (.sc 0) <| .po (.k (.string ⟨#[48,49,50,51,52,53,54,55,56,57,97,98,99,100,101,102]⟩)) <| .po (.chr 0 1) <| .po (.sc 0) <| .po (.k (.int .u8 92)) <| .po (.k (.int .u8 120)) <| .po (.k (.int .u8 92)) <| .po (.k (.int .u8 120)) <| .po (.mk 5 1 [[3],[2],[8],[4]]) <| .po (.sc 2) <| .po (.sc 1) <| .po (.sc 9) <| .po (.sc 5) <| .po (.mk 5 1 [[2],[1],[9],[5]]) <| .po (.flat 0) <| .po (.app 5 1 1 17 0) <| .jump 1 [16,17,0]) <| .po (.sc 2) <| .po (.mk 5 1 [[2]]) <| .po (.flat 0) <| .po (.app 5 1 1 4 0) <| .jump 1 [3,4,0]
def u_impl_QuoteString_j1 : UP:=.po (.k (.int .i64 1)) <| .po (.bin .add false 5 0) <| .jump 0 [0,2]
def u_impl_QuoteString_l2 : UP:=.po (.lenS 6) <| .po (.bin .lss false 2 0) <| .ite 0 (.sel [2,3,8] <| .join 3 u_impl_QuoteString_j1 <| .po (.chr 2 1) <| .po (.k (.int .u8 34)) <| .po (.bin .eql false 1 0) <| .ite 0 (.po (.k (.bool true)) <| .po (.k (.int .u8 92)) <| .po (.sc 0) <| .po (.sc 4) <| .po (.mk 5 1 [[0],[4]]) <| .po (.flat 0) <| .po (.app 5 1 1 6 0) <| .jump 1 [3,6,0]) <| .po (.k (.int .u8 92)) <| .po (.bin .eql false 3 0) <| .ite 0 (.po (.k (.int .u8 92)) <| .po (.sc 0) <| .po (.sc 5) <| .po (.mk 5 1 [[0],[5]]) <| .po (.flat 0) <| .po (.app 5 1 1 7 0) <| .jump 1 [3,7,0]) <| .po (.k (.int .u8 10)) <| .po (.bin .eql false 5 0) <| .ite 0 (.po (.k (.int .u8 92)) <| .po (.k (.int .u8 110)) <| .po (.sc 1) <| .po (.sc 0) <| .po (.mk 5 1 [[1],[0]]) <| .po (.flat 0) <| .po (.app 5 1 1 10 0) <| .jump 1 [6,10,0]) <| .sel [2,6,7] <| .join 1 u_impl_QuoteString_j0 <| .po (.k (.int .u8 32)) <| .po (.bin .lss false 2 0) <| .ite 0 (.po (.k (.bool true)) <| .jump 2 [0]) <| .po (.k (.int .u8 126)) <| .po (.bin .gtr false 4 0) <| .jump 2 [0]) <| .po (.k (.int .u8 34)) <| .po (.sc 0) <| .po (.mk 5 1 [[0]]) <| .po (.flat 0) <| .po (.app 5 1 1 4 0) <| .po (.cvB 0) <| .po (.sc 0) <| .ret [(false,[0])]
def u_impl_QuoteString_u : UP:=.po (.k (.string ⟨#[]⟩)) <| .po (.k (.int .u8 34)) <| .po (.sc 0) <| .po (.mk 5 1 [[0]]) <| .po (.k (.int .i64 0)) <| .loop [0,1] u_impl_QuoteString_l2
theorem u_impl_QuoteString_g : toUPf Try.prog 24 Try.f24 owA u_impl_QuoteString_h u_impl_QuoteString_d = some ([(false,1)],u_impl_QuoteString_u):=by kernel_rfl
def u_spec_QuoteString_h : List Hint:=[⟨2000001,3,⟨[(3,.p false [.d 8]),(23,.p false [.d 9]),(5,.p false [.d 10]),(9,.p false [.d 7]),(4,.p false [.d 4]),(2,.p false [.d 1]),(0,.p false [.d 0])],[],0,0,11,[(7,true)]⟩,[]⟩,⟨3000003,2,⟨[(4,.p false [.d 4]),(3,.p false [.d 5]),(2,.p false [.d 1]),(0,.p false [.d 0])],[],0,0,6,[]⟩,[]⟩]
def u_spec_QuoteString_d : List (Nat × Nat × Bool × List Nat):=[]
def u_spec_QuoteString_j0 : UP:=.po (.k (.int .i64 1)) <| .po (.bin .add false 5 0) <| .jump 0 [0,4]
def u_spec_QuoteString_l1 : UP:=.po (.lenS 5) <| .po (.bin .lss false 2 0) <| .ite 0 (.sel [2,3,7] <| .join 3 u_spec_QuoteString_j0 <| .po (.chr 2 1) <| .po (.cvI .i64 0) <| .po (.k (.int .i64 34)) <| .po (.bin .eql false 1 0) <| .ite 0 (.po (.k (.bool true)) <| .po (.k (.string ⟨#[92]⟩)) <| .po (.bin .add false 6 0) <| .po (.k (.int .i64 1)) <| .po (.bin .add false 9 0) <| .po (.cutS 11 (some 10) (some 0)) <| .po (.bin .add false 3 0) <| .jump 1 [0,6,9]) <| .po (.k (.int .i64 92)) <| .po (.bin .eql false 3 0) <| .ite 0 (.po (.k (.string ⟨#[92]⟩)) <| .po (.bin .add false 7 0) <| .po (.k (.int .i64 1)) <| .po (.bin .add false 10 0) <| .po (.cutS 12 (some 11) (some 0)) <| .po (.bin .add false 3 0) <| .jump 1 [0,6,10]) <| .po (.k (.int .i64 10)) <| .po (.bin .eql false 5 0) <| .ite 0 (.po (.k (.string ⟨#[92,110]⟩)) <| .po (.bin .add false 9 0) <| .jump 1 [0,4,8]) <| .po (.k (.int .i64 32)) <| .po (.bin .lss false 7 0) <| .ite 0 (.po (.k (.bool true)) <| .po (.k (.string ⟨#[92,120]⟩)) <| .po (.bin .add false 12 0) <| .po (.k (.int .u64 4)) <| .po (.bin .shr false 12 0) <| .sel [0,2,9,13] <| .cl 60 [(false,[0])] [(false,[none],true)] <| .po (.bin .add false 2 0) <| .po (.k (.int .i64 15)) <| .po (.bin .and false 6 0) <| .sel [0,2,6,7] <| .cl 60 [(false,[0])] [(false,[none],true)] <| .po (.bin .add false 2 0) <| .jump 1 [0,4,5]) <| .po (.k (.int .i64 126)) <| .po (.bin .gtr false 9 0) <| .ite 0 (.po (.k (.string ⟨#[92,120]⟩)) <| .po (.bin .add false 13 0) <| .po (.k (.int .u64 4)) <| .po (.bin .shr false 13 0) <| .sel [0,2,10,14] <| .cl 60 [(false,[0])] [(false,[none],true)] <| .po (.bin .add false 2 0) <| .po (.k (.int .i64 15)) <| .po (.bin .and false 6 0) <| .sel [0,2,6,7] <| .cl 60 [(false,[0])] [(false,[none],true)] <| .po (.bin .add false 2 0) <| .jump 1 [0,4,5]) <| .po (.k (.int .i64 1)) <| .po (.bin .add false 14 0) <| .po (.cutS 16 (some 15) (some 0)) <| .po (.bin .add false 15 0) <| .jump 1 [0,10,14]) <| .po (.k (.string ⟨#[34]⟩)) <| .po (.bin .add false 3 0) <| .po (.sc 0) <| .ret [(false,[0])]
def u_spec_QuoteString_u : UP:=.po (.k (.string ⟨#[]⟩)) <| .po (.k (.string ⟨#[34]⟩)) <| .po (.k (.int .i64 0)) <| .loop [0,1] u_spec_QuoteString_l1
theorem u_spec_QuoteString_g : toUPf Try.prog 52 Try.f52 owA u_spec_QuoteString_h u_spec_QuoteString_d = some ([(false,1)],u_spec_QuoteString_u):=by kernel_rfl
def u_spec_l1Hex_h : List Hint:=[]
def u_spec_l1Hex_d : List (Nat × Nat × Bool × List Nat):=[]
def u_spec_l1Hex_u : UP:=.po (.k (.string ⟨#[]⟩)) <| .po (.k (.int .i64 1)) <| .po (.bin .add false 2 0) <| .po (.k (.string ⟨#[48,49,50,51,52,53,54,55,56,57,97,98,99,100,101,102]⟩)) <| .po (.cutS 0 (some 4) (some 1)) <| .po (.sc 0) <| .ret [(false,[0])]
theorem u_spec_l1Hex_g : toUPf Try.prog 60 Try.f60 owA u_spec_l1Hex_h u_spec_l1Hex_d = some ([(false,1)],u_spec_l1Hex_u):=by kernel_rfl
def u_impl_FormatInt_h : List Hint:=[⟨3000014,3,⟨[(7,.p false [.d 16]),(6,.p false [.d 17]),(3,.p false [.own 0 0]),(28,.p false [.d 5]),(13,.p false [.d 10]),(4,.p false [.d 5]),(9,.p false [.d 3]),(2,.p false [.d 1]),(0,.p false [.d 7])],[(0,.row 0 5 1 18)],1,1,19,[(10,false),(3,false)]⟩,[]⟩,⟨1000012,1,⟨[(3,.p false [.own 0 0]),(28,.p false [.d 5]),(13,.p false [.d 10]),(4,.p false [.d 5]),(9,.p false [.d 3]),(2,.p false [.d 1]),(0,.p false [.d 7])],[(0,.row 0 5 1 11)],1,1,12,[(10,false),(3,false)]⟩,[]⟩,⟨2000001,4,⟨[(0,.p false [.d 11]),(3,.p false [.own 0 0]),(5,.p false [.d 12]),(17,.p false [.d 13]),(13,.p false [.d 10]),(4,.p false [.d 5]),(9,.p false [.d 3]),(2,.p false [.d 1])],[(0,.row 0 5 1 14)],1,1,15,[(10,true),(3,false)]⟩,[]⟩,⟨3000005,2,⟨[(3,.p false [.own 0 0]),(4,.p false [.d 5]),(9,.p false [.d 3]),(2,.p false [.d 1]),(0,.p false [.d 7])],[(0,.row 0 5 1 8)],1,1,9,[(3,false)]⟩,[⟨true,3,0,5,1⟩]⟩]
def u_impl_FormatInt_d : List (Nat × Nat × Bool × List Nat):=[(16,13,false,[2,3])]
def u_impl_FormatInt_j0 : UP:=.jump 0 [3,0]
def u_impl_FormatInt_l1 : UP:=.po (.bin .lss false 1 2) <| .ite 0 (.po (.isI 3) <| .po (.chk 1 1 3) <| .po (.idx 1 1 3) <| .po (.sc 0) <| .po (.isI 3) <| .po (.chk 1 2 3) <| .po (.idx 1 2 3) <| .po (.sc 0) <| .po (.isI 4) <| .po (.chk 1 3 4) <| .po (.sc 1) <| .po (.set 1 3 4 0 [1]) <| .po (.isI 6) <| .po (.chk 1 0 6) <| .po (.sc 1) <| .po (.set 1 0 6 0 [1]) <| .po (.k (.int .i64 1)) <| .po (.bin .add false 7 0) <| .po (.k (.int .i64 1)) <| .po (.bin .sub false 10 0) <| .jump 1 [0,2,4]) <| .po (.cvB 1) <| .po (.sc 0) <| .ret [(false,[0])]
def u_impl_FormatInt_j2 : UP:=.po (.lenL 0) <| .po (.k (.int .i64 1)) <| .po (.bin .sub false 1 0) <| .po (.k (.int .i64 0)) <| .sel [0,1,4] <| .loop [1,0,2] u_impl_FormatInt_l1
def u_impl_FormatInt_l3 : UP:=.po (.k (.int .i64 0)) <| .po (.bin .neq false 2 0) <| .ite 0 (.sel [2,3] <| .join 4 u_impl_FormatInt_j0 <| .po (.k (.int .i64 10)) <| .po (.bin .rem false 2 0) <| .po (.k (.int .i64 0)) <| .po (.bin .lss false 1 0) <| .ite 0 (.po (.un .neg 2) <| .po (.k (.int .i64 48)) <| .po (.bin .add false 0 1) <| .po (.cvI .u8 0) <| .po (.sc 0) <| .po (.mk 5 1 [[0]]) <| .po (.flat 0) <| .po (.app 5 1 1 9 0) <| .po (.k (.int .i64 10)) <| .po (.bin .quo false 12 0) <| .jump 1 [0,7,8,2]) <| .po (.k (.int .i64 48)) <| .po (.bin .add false 0 3) <| .po (.cvI .u8 0) <| .po (.sc 0) <| .po (.mk 5 1 [[0]]) <| .po (.flat 0) <| .po (.app 5 1 1 8 0) <| .po (.k (.int .i64 10)) <| .po (.bin .quo false 11 0) <| .jump 1 [0,9,7,2]) <| .sel [2,5] <| .join 1 u_impl_FormatInt_j2 <| .ite 1 (.po (.k (.int .u8 45)) <| .po (.sc 0) <| .po (.mk 5 1 [[0]]) <| .po (.flat 0) <| .po (.app 5 1 1 2 0) <| .jump 1 [0]) <| .jump 1 [0]
def u_impl_FormatInt_u : UP:=.po (.k (.string ⟨#[]⟩)) <| .po (.k (.int .i64 0)) <| .po (.bin .eql false 2 0) <| .ite 0 (.po (.k (.string ⟨#[48]⟩)) <| .po (.sc 0) <| .ret [(false,[0])]) <| .po (.k (.int .i64 0)) <| .po (.bin .lss false 4 0) <| .po (.e 5 1) <| .sel [0,1,6] <| .loop [2,0] u_impl_FormatInt_l3
theorem u_impl_FormatInt_g : toUPf Try.prog 48 Try.f48 owA u_impl_FormatInt_h u_impl_FormatInt_d = some ([(false,1)],u_impl_FormatInt_u):=by kernel_rfl
def u_spec_FormatInt_h : List Hint:=[⟨2000001,3,⟨[(3,.p false [.d 7]),(5,.p false [.d 8]),(14,.p false [.d 9]),(8,.p false [.d 6]),(4,.p false [.d 3]),(2,.p false [.d 1]),(0,.p false [.d 0])],[],0,0,10,[(6,true)]⟩,[]⟩,⟨3000003,2,⟨[(4,.p false [.d 3]),(3,.p false [.d 4]),(2,.p false [.d 1]),(0,.p false [.d 0])],[],0,0,5,[]⟩,[]⟩]
def u_spec_FormatInt_d : List (Nat × Nat × Bool × List Nat):=[]
def u_spec_FormatInt_j0 : UP:=.po (.k (.int .i64 10)) <| .po (.bin .quo false 5 0) <| .jump 0 [0,4]
def u_spec_FormatInt_l1 : UP:=.po (.k (.int .i64 0)) <| .po (.bin .neq false 2 0) <| .ite 0 (.sel [2,3] <| .join 3 u_spec_FormatInt_j0 <| .po (.k (.int .i64 10)) <| .po (.bin .rem false 2 0) <| .po (.k (.int .i64 0)) <| .po (.bin .lss false 1 0) <| .ite 0 (.po (.un .neg 2) <| .po (.k (.int .i64 1)) <| .po (.bin .add false 1 0) <| .po (.k (.string ⟨#[48,49,50,51,52,53,54,55,56,57]⟩)) <| .po (.cutS 0 (some 3) (some 1)) <| .po (.bin .add false 0 9) <| .jump 1 [0,5,6]) <| .po (.k (.int .i64 1)) <| .po (.bin .add false 3 0) <| .po (.k (.string ⟨#[48,49,50,51,52,53,54,55,56,57]⟩)) <| .po (.cutS 0 (some 5) (some 1)) <| .po (.bin .add false 0 8) <| .jump 1 [0,7,5]) <| .po (.k (.int .i64 0)) <| .po (.bin .eql false 7 0) <| .ite 0 (.po (.k (.string ⟨#[48]⟩)) <| .po (.sc 0) <| .ret [(false,[0])]) <| .po (.k (.int .i64 0)) <| .po (.bin .lss false 9 0) <| .ite 0 (.po (.k (.string ⟨#[45]⟩)) <| .po (.bin .add false 0 7) <| .po (.sc 0) <| .ret [(false,[0])]) <| .po (.sc 6) <| .ret [(false,[6])]
def u_spec_FormatInt_u : UP:=.po (.k (.string ⟨#[]⟩)) <| .po (.k (.string ⟨#[]⟩)) <| .loop [2,0] u_spec_FormatInt_l1
theorem u_spec_FormatInt_g : toUPf Try.prog 56 Try.f56 owA u_spec_FormatInt_h u_spec_FormatInt_d = some ([(false,1)],u_spec_FormatInt_u):=by kernel_rfl
def u_impl_FormatName_h : List Hint:=[]
def u_impl_FormatName_d : List (Nat × Nat × Bool × List Nat):=[]
def u_impl_FormatName_u : UP:=.po (.k (.string ⟨#[]⟩)) <| .cl 37 [(false,[1])] [(false,[none],true)] <| .ite 0 (.po (.sc 2) <| .ret [(false,[2])]) <| .cl 21 [(false,[2])] [(false,[none],true)] <| .ite 0 (.po (.k (.string ⟨#[96]⟩)) <| .po (.bin .add false 0 4) <| .po (.k (.string ⟨#[96]⟩)) <| .po (.bin .add false 1 0) <| .po (.sc 0) <| .ret [(false,[0])]) <| .po (.k (.string ⟨#[]⟩)) <| .po (.sc 0) <| .ret [(false,[0])]
theorem u_impl_FormatName_g : toUPf Try.prog 25 Try.f25 owA u_impl_FormatName_h u_impl_FormatName_d = some ([(false,1)],u_impl_FormatName_u):=by kernel_rfl
def u_impl_IsSyntacticName_h : List Hint:=[⟨2000001,1,⟨[(64,.p false [.d 8]),(38,.p false [.d 7]),(3,.p false [.d 5]),(34,.p false [.d 3]),(21,.p false [.d 2]),(2,.p false [.d 1]),(0,.p false [.d 0])],[],0,0,9,[(7,true),(3,false),(2,false),(1,false)]⟩,[]⟩,⟨3000006,1,⟨[(3,.p false [.d 5]),(34,.p false [.d 3]),(21,.p false [.d 2]),(2,.p false [.d 1]),(0,.p false [.d 0])],[],0,0,6,[(3,false),(2,false),(1,false)]⟩,[]⟩,⟨3,1,⟨[(34,.p false [.d 3]),(21,.p false [.d 2]),(2,.p false [.d 1]),(0,.p false [.d 0])],[],0,0,4,[(2,false),(1,false)]⟩,[]⟩,⟨1,1,⟨[(21,.p false [.d 2]),(2,.p false [.d 1]),(0,.p false [.d 0])],[],0,0,3,[(1,false)]⟩,[]⟩]
def u_impl_IsSyntacticName_d : List (Nat × Nat × Bool × List Nat):=[]
def u_impl_IsSyntacticName_j0 : UP:=.po (.k (.int .i64 1)) <| .po (.bin .add false 2 0) <| .jump 0 [0]
def u_impl_IsSyntacticName_l1 : UP:=.po (.lenS 5) <| .po (.bin .lss false 1 0) <| .ite 0 (.sel [2,7] <| .join 1 u_impl_IsSyntacticName_j0 <| .po (.chr 1 0) <| .cl 35 [(false,[0])] [(false,[none],true)] <| .po (.un .not 0) <| .ite 0 (.po (.chr 4 3) <| .cl 31 [(false,[0])] [(false,[none],true)] <| .po (.un .not 0) <| .ite 0 (.po (.chr 7 6) <| .po (.k (.int .u8 46)) <| .po (.bin .neq false 1 0) <| .ite 0 (.po (.chr 10 9) <| .po (.k (.int .u8 95)) <| .po (.bin .neq false 1 0) <| .ite 0 (.po (.k (.bool false)) <| .po (.sc 0) <| .ret [(false,[0])]) <| .jump 1 [0]) <| .po (.k (.bool false)) <| .jump 1 [0]) <| .po (.k (.bool false)) <| .po (.k (.bool false)) <| .jump 1 [0]) <| .po (.k (.bool false)) <| .po (.k (.bool false)) <| .po (.k (.bool false)) <| .jump 1 [0]) <| .po (.k (.bool true)) <| .po (.sc 0) <| .ret [(false,[0])]
def u_impl_IsSyntacticName_j2 : UP:=.ite 0 (.po (.k (.bool false)) <| .po (.sc 0) <| .ret [(false,[0])]) <| .po (.k (.int .i64 0)) <| .loop [0] u_impl_IsSyntacticName_l1
def u_impl_IsSyntacticName_j3 : UP:=.ite 0 (.po (.k (.bool false)) <| .po (.sc 0) <| .ret [(false,[0])]) <| .join 1 u_impl_IsSyntacticName_j2 <| .po (.k (.int .i64 0)) <| .po (.chr 3 0) <| .po (.k (.int .u8 46)) <| .po (.bin .eql false 1 0) <| .ite 0 (.po (.lenS 6) <| .po (.k (.int .i64 1)) <| .po (.bin .gtr false 1 0) <| .ite 0 (.po (.k (.int .i64 1)) <| .po (.chr 10 0) <| .sel [0] <| .cl 31 [(false,[0])] [(false,[none],true)] <| .jump 0 [0]) <| .po (.k (.bool false)) <| .jump 0 [0]) <| .po (.k (.bool false)) <| .po (.k (.bool false)) <| .jump 0 [0]
def u_impl_IsSyntacticName_u : UP:=.po (.k (.bool false)) <| .join 1 u_impl_IsSyntacticName_j3 <| .cl 21 [(false,[1])] [(false,[none],true)] <| .po (.un .not 0) <| .ite 0 (.po (.k (.bool true)) <| .po (.k (.bool true)) <| .jump 0 [0]) <| .cl 49 [(false,[3])] [(false,[none],true)] <| .ite 0 (.po (.k (.bool true)) <| .jump 0 [0]) <| .po (.k (.int .i64 0)) <| .po (.chr 5 0) <| .sel [0,6] <| .cl 35 [(false,[0])] [(false,[none],true)] <| .po (.un .not 0) <| .ite 0 (.po (.k (.int .i64 0)) <| .po (.chr 4 0) <| .po (.k (.int .u8 46)) <| .po (.bin .neq false 1 0) <| .jump 0 [0]) <| .po (.k (.bool false)) <| .jump 0 [0]
theorem u_impl_IsSyntacticName_g : toUPf Try.prog 37 Try.f37 owA u_impl_IsSyntacticName_h u_impl_IsSyntacticName_d = some ([(false,1)],u_impl_IsSyntacticName_u):=by kernel_rfl
def u_impl_isDigit_h : List Hint:=[]
def u_impl_isDigit_d : List (Nat × Nat × Bool × List Nat):=[]
def u_impl_isDigit_u : UP:=.po (.k (.bool false)) <| .po (.k (.int .u8 48)) <| .po (.bin .geq false 2 0) <| .ite 0 (.po (.k (.int .u8 57)) <| .po (.bin .leq false 4 0) <| .po (.sc 0) <| .ret [(false,[0])]) <| .po (.k (.bool false)) <| .po (.sc 0) <| .ret [(false,[0])]
theorem u_impl_isDigit_g : toUPf Try.prog 31 Try.f31 owA u_impl_isDigit_h u_impl_isDigit_d = some ([(false,1)],u_impl_isDigit_u):=by kernel_rfl
def u_impl_isLetter_h : List Hint:=[]
def u_impl_isLetter_d : List (Nat × Nat × Bool × List Nat):=[]
def u_impl_isLetter_u : UP:=.po (.k (.bool false)) <| .po (.k (.int .u8 97)) <| .po (.bin .geq false 2 0) <| .ite 0 (.po (.k (.int .u8 122)) <| .po (.bin .leq false 4 0) <| .ite 0 (.po (.k (.bool true)) <| .po (.sc 0) <| .ret [(false,[0])]) <| .po (.k (.int .u8 65)) <| .po (.bin .geq false 6 0) <| .ite 0 (.po (.k (.int .u8 90)) <| .po (.bin .leq false 8 0) <| .po (.sc 0) <| .ret [(false,[0])]) <| .po (.k (.bool false)) <| .po (.sc 0) <| .ret [(false,[0])]) <| .po (.k (.bool false)) <| .po (.k (.int .u8 65)) <| .po (.bin .geq false 5 0) <| .ite 0 (.po (.k (.int .u8 90)) <| .po (.bin .leq false 7 0) <| .po (.sc 0) <| .ret [(false,[0])]) <| .po (.k (.bool false)) <| .po (.sc 0) <| .ret [(false,[0])]
theorem u_impl_isLetter_g : toUPf Try.prog 35 Try.f35 owA u_impl_isLetter_h u_impl_isLetter_d = some ([(false,1)],u_impl_isLetter_u):=by kernel_rfl
def u_impl_isReserved_h : List Hint:=[⟨1000003,1,⟨[(4,.p false [.d 4]),(3,.p false [.d 0]),(2,.p false [.d 1]),(0,.p false [.d 0])],[],0,0,5,[(1,false)]⟩,[]⟩]
def u_impl_isReserved_d : List (Nat × Nat × Bool × List Nat):=[]
def u_impl_isReserved_j0 : UP:=.ite 0 (.po (.k (.bool true)) <| .po (.sc 0) <| .ret [(false,[0])]) <| .po (.k (.bool false)) <| .po (.sc 0) <| .ret [(false,[0])]
def u_impl_isReserved_u : UP:=.po (.k (.bool false)) <| .po (.k (.string ⟨#[105,102]⟩)) <| .po (.bin .eql false 2 0) <| .join 1 u_impl_isReserved_j0 <| .ite 0 (.jump 0 [0]) <| .po (.k (.string ⟨#[101,108,115,101]⟩)) <| .po (.bin .eql false 4 0) <| .ite 0 (.jump 0 [0]) <| .po (.k (.string ⟨#[102,111,114]⟩)) <| .po (.bin .eql false 6 0) <| .ite 0 (.jump 0 [0]) <| .po (.k (.string ⟨#[105,110]⟩)) <| .po (.bin .eql false 8 0) <| .ite 0 (.jump 0 [0]) <| .po (.k (.string ⟨#[119,104,105,108,101]⟩)) <| .po (.bin .eql false 10 0) <| .ite 0 (.jump 0 [0]) <| .po (.k (.string ⟨#[98,114,101,97,107]⟩)) <| .po (.bin .eql false 12 0) <| .ite 0 (.jump 0 [0]) <| .po (.k (.string ⟨#[110,101,120,116]⟩)) <| .po (.bin .eql false 14 0) <| .ite 0 (.jump 0 [0]) <| .po (.k (.string ⟨#[102,117,110,99,116,105,111,110]⟩)) <| .po (.bin .eql false 16 0) <| .ite 0 (.jump 0 [0]) <| .po (.k (.string ⟨#[114,101,116,117,114,110]⟩)) <| .po (.bin .eql false 18 0) <| .ite 0 (.jump 0 [0]) <| .po (.k (.string ⟨#[84,82,85,69]⟩)) <| .po (.bin .eql false 20 0) <| .ite 0 (.jump 0 [0]) <| .po (.k (.string ⟨#[70,65,76,83,69]⟩)) <| .po (.bin .eql false 22 0) <| .ite 0 (.jump 0 [0]) <| .po (.k (.string ⟨#[78,85,76,76]⟩)) <| .po (.bin .eql false 24 0) <| .ite 0 (.jump 0 [0]) <| .po (.k (.string ⟨#[78,65]⟩)) <| .po (.bin .eql false 26 0) <| .ite 0 (.jump 0 [0]) <| .po (.k (.string ⟨#[78,65,95,110,117,109,98,101,114,95]⟩)) <| .po (.bin .eql false 28 0) <| .ite 0 (.jump 0 [0]) <| .po (.k (.string ⟨#[78,65,95,99,104,97,114,97,99,116,101,114,95]⟩)) <| .po (.bin .eql false 30 0) <| .ite 0 (.jump 0 [0]) <| .po (.k (.string ⟨#[116,114,121,67,97,116,99,104]⟩)) <| .po (.bin .eql false 32 0) <| .ite 0 (.jump 0 [0]) <| .po (.k (.string ⟨#[119,105,116,104,67,97,108,108,105,110,103,72,97,110,100,108,101,114,115]⟩)) <| .po (.bin .eql false 34 0) <| .ite 0 (.jump 0 [0]) <| .po (.k (.string ⟨#[119,105,116,104,82,101,115,116,97,114,116]⟩)) <| .po (.bin .eql false 36 0) <| .ite 0 (.jump 0 [0]) <| .po (.k (.string ⟨#[105,110,118,111,107,101,82,101,115,116,97,114,116]⟩)) <| .po (.bin .eql false 38 0) <| .ite 0 (.jump 0 [0]) <| .po (.k (.string ⟨#[109,105,115,115,105,110,103]⟩)) <| .po (.bin .eql false 40 0) <| .ite 0 (.jump 0 [0]) <| .po (.k (.string ⟨#[111,110,46,101,120,105,116]⟩)) <| .po (.bin .eql false 42 0) <| .ite 0 (.jump 0 [0]) <| .po (.k (.string ⟨#[85,115,101,77,101,116,104,111,100]⟩)) <| .po (.bin .eql false 44 0) <| .ite 0 (.jump 0 [0]) <| .po (.k (.string ⟨#[78,101,120,116,77,101,116,104,111,100]⟩)) <| .po (.bin .eql false 46 0) <| .jump 0 [0]
theorem u_impl_isReserved_g : toUPf Try.prog 49 Try.f49 owA u_impl_isReserved_h u_impl_isReserved_d = some ([(false,1)],u_impl_isReserved_u):=by kernel_rfl
def u_spec_FormatName_h : List Hint:=[]
def u_spec_FormatName_d : List (Nat × Nat × Bool × List Nat):=[]
def u_spec_FormatName_u : UP:=.po (.k (.string ⟨#[]⟩)) <| .cl 42 [(false,[1])] [(false,[none],true)] <| .po (.un .not 0) <| .ite 0 (.po (.k (.string ⟨#[]⟩)) <| .po (.sc 0) <| .ret [(false,[0])]) <| .cl 45 [(false,[3])] [(false,[none],true)] <| .ite 0 (.po (.sc 4) <| .ret [(false,[4])]) <| .po (.k (.string ⟨#[96]⟩)) <| .po (.bin .add false 0 5) <| .po (.k (.string ⟨#[96]⟩)) <| .po (.bin .add false 1 0) <| .po (.sc 0) <| .ret [(false,[0])]
theorem u_spec_FormatName_g : toUPf Try.prog 53 Try.f53 owA u_spec_FormatName_h u_spec_FormatName_d = some ([(false,1)],u_spec_FormatName_u):=by kernel_rfl
def u_spec_IsSyntacticName_h : List Hint:=[⟨2000001,1,⟨[(37,.p false [.d 6]),(7,.p false [.d 5]),(3,.p false [.d 3]),(2,.p false [.d 1]),(0,.p false [.d 0])],[],0,0,7,[(5,true),(1,false)]⟩,[]⟩,⟨3000002,1,⟨[(3,.p false [.d 3]),(2,.p false [.d 1]),(0,.p false [.d 0])],[],0,0,4,[(1,false)]⟩,[]⟩]
def u_spec_IsSyntacticName_d : List (Nat × Nat × Bool × List Nat):=[]
def u_spec_IsSyntacticName_j0 : UP:=.po (.k (.int .i64 1)) <| .po (.bin .add false 2 0) <| .jump 0 [0]
def u_spec_IsSyntacticName_l1 : UP:=.po (.lenS 3) <| .po (.bin .lss false 1 0) <| .ite 0 (.sel [2,5] <| .join 1 u_spec_IsSyntacticName_j0 <| .po (.chr 1 0) <| .cl 43 [(false,[0])] [(false,[none],true)] <| .po (.un .not 0) <| .ite 0 (.po (.chr 4 3) <| .po (.k (.int .u8 46)) <| .po (.bin .neq false 1 0) <| .ite 0 (.po (.k (.int .i64 0)) <| .po (.bin .eql false 7 0) <| .ite 0 (.po (.k (.bool true)) <| .po (.k (.bool false)) <| .po (.sc 0) <| .ret [(false,[0])]) <| .po (.chr 9 8) <| .sel [0,9,10] <| .cl 39 [(false,[0])] [(false,[none],true)] <| .po (.un .not 0) <| .ite 0 (.po (.chr 4 3) <| .po (.k (.int .u8 95)) <| .po (.bin .neq false 1 0) <| .ite 0 (.po (.k (.bool false)) <| .po (.sc 0) <| .ret [(false,[0])]) <| .jump 1 [0]) <| .po (.k (.bool false)) <| .jump 1 [0]) <| .po (.k (.bool false)) <| .jump 1 [0]) <| .po (.k (.bool false)) <| .po (.k (.bool false)) <| .jump 1 [0]) <| .sel [5] <| .cl 42 [(false,[0])] [(false,[none],true)] <| .ite 0 (.cl 44 [(false,[1])] [(false,[none],true)] <| .po (.un .not 0) <| .ite 0 (.po (.k (.int .i64 0)) <| .po (.chr 4 0) <| .po (.k (.int .u8 46)) <| .po (.bin .neq false 1 0) <| .ite 0 (.po (.k (.bool true)) <| .po (.k (.bool true)) <| .po (.sc 0) <| .ret [(false,[0])]) <| .po (.lenS 7) <| .po (.k (.int .i64 1)) <| .po (.bin .eql false 1 0) <| .ite 0 (.po (.k (.bool true)) <| .po (.sc 0) <| .ret [(false,[0])]) <| .po (.k (.int .i64 1)) <| .po (.chr 11 0) <| .sel [0] <| .cl 39 [(false,[0])] [(false,[none],true)] <| .po (.un .not 0) <| .po (.sc 0) <| .ret [(false,[0])]) <| .po (.k (.bool false)) <| .po (.sc 0) <| .ret [(false,[0])]) <| .po (.k (.bool false)) <| .po (.k (.bool false)) <| .po (.sc 0) <| .ret [(false,[0])]
def u_spec_IsSyntacticName_u : UP:=.po (.k (.bool false)) <| .po (.k (.int .i64 0)) <| .loop [0] u_spec_IsSyntacticName_l1
theorem u_spec_IsSyntacticName_g : toUPf Try.prog 45 Try.f45 owA u_spec_IsSyntacticName_h u_spec_IsSyntacticName_d = some ([(false,1)],u_spec_IsSyntacticName_u):=by kernel_rfl
def u_spec_l1Digit_h : List Hint:=[]
def u_spec_l1Digit_d : List (Nat × Nat × Bool × List Nat):=[]
def u_spec_l1Digit_u : UP:=.po (.k (.bool false)) <| .po (.k (.int .u8 48)) <| .po (.bin .geq false 2 0) <| .ite 0 (.po (.k (.int .u8 57)) <| .po (.bin .leq false 4 0) <| .po (.sc 0) <| .ret [(false,[0])]) <| .po (.k (.bool false)) <| .po (.sc 0) <| .ret [(false,[0])]
theorem u_spec_l1Digit_g : toUPf Try.prog 39 Try.f39 owA u_spec_l1Digit_h u_spec_l1Digit_d = some ([(false,1)],u_spec_l1Digit_u):=by kernel_rfl
def u_spec_l1Letter_h : List Hint:=[]
def u_spec_l1Letter_d : List (Nat × Nat × Bool × List Nat):=[]
def u_spec_l1Letter_u : UP:=.po (.k (.bool false)) <| .po (.k (.int .u8 97)) <| .po (.bin .geq false 2 0) <| .ite 0 (.po (.k (.int .u8 122)) <| .po (.bin .leq false 4 0) <| .ite 0 (.po (.k (.bool true)) <| .po (.sc 0) <| .ret [(false,[0])]) <| .po (.k (.int .u8 65)) <| .po (.bin .geq false 6 0) <| .ite 0 (.po (.k (.int .u8 90)) <| .po (.bin .leq false 8 0) <| .po (.sc 0) <| .ret [(false,[0])]) <| .po (.k (.bool false)) <| .po (.sc 0) <| .ret [(false,[0])]) <| .po (.k (.bool false)) <| .po (.k (.int .u8 65)) <| .po (.bin .geq false 5 0) <| .ite 0 (.po (.k (.int .u8 90)) <| .po (.bin .leq false 7 0) <| .po (.sc 0) <| .ret [(false,[0])]) <| .po (.k (.bool false)) <| .po (.sc 0) <| .ret [(false,[0])]
theorem u_spec_l1Letter_g : toUPf Try.prog 43 Try.f43 owA u_spec_l1Letter_h u_spec_l1Letter_d = some ([(false,1)],u_spec_l1Letter_u):=by kernel_rfl
def u_spec_l1Reserved_h : List Hint:=[]
def u_spec_l1Reserved_d : List (Nat × Nat × Bool × List Nat):=[]
def u_spec_l1Reserved_u : UP:=.po (.k (.bool false)) <| .po (.k (.string ⟨#[105,102]⟩)) <| .po (.k (.string ⟨#[101,108,115,101]⟩)) <| .po (.k (.string ⟨#[102,111,114]⟩)) <| .po (.k (.string ⟨#[105,110]⟩)) <| .po (.k (.string ⟨#[119,104,105,108,101]⟩)) <| .po (.k (.string ⟨#[98,114,101,97,107]⟩)) <| .po (.k (.string ⟨#[110,101,120,116]⟩)) <| .po (.k (.string ⟨#[102,117,110,99,116,105,111,110]⟩)) <| .po (.k (.string ⟨#[114,101,116,117,114,110]⟩)) <| .po (.k (.string ⟨#[84,82,85,69]⟩)) <| .po (.k (.string ⟨#[70,65,76,83,69]⟩)) <| .po (.k (.string ⟨#[78,85,76,76]⟩)) <| .po (.k (.string ⟨#[78,65]⟩)) <| .po (.k (.string ⟨#[78,65,95,110,117,109,98,101,114,95]⟩)) <| .po (.k (.string ⟨#[78,65,95,99,104,97,114,97,99,116,101,114,95]⟩)) <| .po (.k (.string ⟨#[116,114,121,67,97,116,99,104]⟩)) <| .po (.k (.string ⟨#[119,105,116,104,67,97,108,108,105,110,103,72,97,110,100,108,101,114,115]⟩)) <| .po (.k (.string ⟨#[119,105,116,104,82,101,115,116,97,114,116]⟩)) <| .po (.k (.string ⟨#[105,110,118,111,107,101,82,101,115,116,97,114,116]⟩)) <| .po (.k (.string ⟨#[109,105,115,115,105,110,103]⟩)) <| .po (.k (.string ⟨#[111,110,46,101,120,105,116]⟩)) <| .po (.k (.string ⟨#[85,115,101,77,101,116,104,111,100]⟩)) <| .po (.k (.string ⟨#[78,101,120,116,77,101,116,104,111,100]⟩)) <| .po (.sc 22) <| .po (.sc 21) <| .po (.sc 20) <| .po (.sc 19) <| .po (.sc 18) <| .po (.sc 17) <| .po (.sc 16) <| .po (.sc 15) <| .po (.sc 14) <| .po (.sc 13) <| .po (.sc 12) <| .po (.sc 11) <| .po (.sc 10) <| .po (.sc 9) <| .po (.sc 8) <| .po (.sc 7) <| .po (.sc 6) <| .po (.sc 5) <| .po (.sc 4) <| .po (.sc 3) <| .po (.sc 2) <| .po (.sc 1) <| .po (.sc 0) <| .po (.mk 9 1 [[22],[21],[20],[19],[18],[17],[16],[15],[14],[13],[12],[11],[10],[9],[8],[7],[6],[5],[4],[3],[2],[1],[0]]) <| .sel [0,25] <| .cl 19 [(false,[0]),(false,[1])] [(false,[none],true)] <| .po (.sc 0) <| .ret [(false,[0])]
theorem u_spec_l1Reserved_g : toUPf Try.prog 44 Try.f44 owA u_spec_l1Reserved_h u_spec_l1Reserved_d = some ([(false,1)],u_spec_l1Reserved_u):=by kernel_rfl
def u_impl_IsName_h : List Hint:=[⟨3000002,1,⟨[(3,.p false [.d 3]),(2,.p false [.d 1]),(0,.p false [.d 0])],[],0,0,4,[(1,false)]⟩,[]⟩]
def u_impl_IsName_d : List (Nat × Nat × Bool × List Nat):=[]
def u_impl_IsName_l0 : UP:=.po (.lenS 3) <| .po (.bin .lss false 1 0) <| .ite 0 (.po (.chr 5 2) <| .po (.k (.int .u8 33)) <| .po (.bin .lss false 1 0) <| .ite 0 (.po (.k (.bool true)) <| .po (.k (.bool true)) <| .po (.k (.bool false)) <| .po (.sc 0) <| .ret [(false,[0])]) <| .po (.chr 8 5) <| .po (.k (.int .u8 126)) <| .po (.bin .gtr false 1 0) <| .ite 0 (.po (.k (.bool true)) <| .po (.k (.bool false)) <| .po (.sc 0) <| .ret [(false,[0])]) <| .po (.chr 11 8) <| .po (.k (.int .u8 96)) <| .po (.bin .eql false 1 0) <| .ite 0 (.po (.k (.bool false)) <| .po (.sc 0) <| .ret [(false,[0])]) <| .po (.k (.int .i64 1)) <| .po (.bin .add false 12 0) <| .jump 0 [0]) <| .po (.lenS 5) <| .po (.k (.int .i64 1)) <| .po (.bin .geq false 1 0) <| .ite 0 (.po (.lenS 8) <| .po (.k (.int .i64 20)) <| .po (.bin .leq false 1 0) <| .po (.sc 0) <| .ret [(false,[0])]) <| .po (.k (.bool false)) <| .po (.sc 0) <| .ret [(false,[0])]
def u_impl_IsName_u : UP:=.po (.k (.bool false)) <| .po (.k (.int .i64 0)) <| .loop [0] u_impl_IsName_l0
theorem u_impl_IsName_g : toUPf Try.prog 21 Try.f21 owA u_impl_IsName_h u_impl_IsName_d = some ([(false,1)],u_impl_IsName_u):=by kernel_rfl
def u_impl_hasText_h : List Hint:=[]
def u_impl_hasText_d : List (Nat × Nat × Bool × List Nat):=[]
def u_impl_hasText_u : UP:=.po (.k (.bool false)) <| .cl 59 [(false,[2]),(false,[1])] [(false,[none],true)] <| .po (.k (.int .i64 0)) <| .po (.bin .geq false 1 0) <| .po (.sc 0) <| .ret [(false,[0])]
theorem u_impl_hasText_g : toUPf Try.prog 50 Try.f50 owA u_impl_hasText_h u_impl_hasText_d = some ([(false,1),(false,1)],u_impl_hasText_u):=by kernel_rfl
def u_impl_textIndex_h : List Hint:=[⟨3000002,1,⟨[(9,.p false [.d 5]),(8,.p false [.d 3]),(7,.p false [.d 0]),(4,.p false [.d 2]),(0,.p false [.d 0]),(1,.p false [.d 1])],[],0,0,6,[]⟩,[]⟩]
def u_impl_textIndex_d : List (Nat × Nat × Bool × List Nat):=[]
def u_impl_textIndex_l0 : UP:=.po (.bin .lss false 0 2) <| .ite 0 (.po (.isI 1) <| .po (.idx 1 6 1) <| .po (.bin .eql false 0 6) <| .ite 0 (.po (.sc 3) <| .ret [(false,[3])]) <| .po (.k (.int .i64 1)) <| .po (.bin .add false 4 0) <| .jump 0 [0]) <| .po (.k (.int .i64 (-1))) <| .po (.sc 0) <| .ret [(false,[0])]
def u_impl_textIndex_u : UP:=.po (.k (.int .i64 0)) <| .po (.lenL 2) <| .po (.k (.int .i64 0)) <| .loop [0] u_impl_textIndex_l0
theorem u_impl_textIndex_g : toUPf Try.prog 59 Try.f59 owA u_impl_textIndex_h u_impl_textIndex_d = some ([(false,1),(false,1)],u_impl_textIndex_u):=by kernel_rfl
def u_spec_IsName_h : List Hint:=[⟨3000002,1,⟨[(3,.p false [.d 3]),(2,.p false [.d 1]),(0,.p false [.d 0])],[],0,0,4,[(1,false)]⟩,[]⟩]
def u_spec_IsName_d : List (Nat × Nat × Bool × List Nat):=[]
def u_spec_IsName_l0 : UP:=.po (.lenS 3) <| .po (.bin .lss false 1 0) <| .ite 0 (.po (.chr 5 2) <| .po (.k (.int .u8 33)) <| .po (.bin .lss false 1 0) <| .ite 0 (.po (.k (.bool true)) <| .po (.k (.bool true)) <| .po (.k (.bool false)) <| .po (.sc 0) <| .ret [(false,[0])]) <| .po (.chr 8 5) <| .po (.k (.int .u8 126)) <| .po (.bin .gtr false 1 0) <| .ite 0 (.po (.k (.bool true)) <| .po (.k (.bool false)) <| .po (.sc 0) <| .ret [(false,[0])]) <| .po (.chr 11 8) <| .po (.k (.int .u8 96)) <| .po (.bin .eql false 1 0) <| .ite 0 (.po (.k (.bool false)) <| .po (.sc 0) <| .ret [(false,[0])]) <| .po (.k (.int .i64 1)) <| .po (.bin .add false 12 0) <| .jump 0 [0]) <| .po (.lenS 5) <| .po (.k (.int .i64 1)) <| .po (.k (.int .i64 20)) <| .sel [0,1,2] <| .cl 58 [(false,[2]),(false,[1]),(false,[0])] [(false,[none],true)] <| .po (.sc 0) <| .ret [(false,[0])]
def u_spec_IsName_u : UP:=.po (.k (.bool false)) <| .po (.k (.int .i64 0)) <| .loop [0] u_spec_IsName_l0
theorem u_spec_IsName_g : toUPf Try.prog 42 Try.f42 owA u_spec_IsName_h u_spec_IsName_d = some ([(false,1)],u_spec_IsName_u):=by kernel_rfl
def u_spec_l1Find_h : List Hint:=[⟨3000002,1,⟨[(5,.p false [.d 4]),(4,.p false [.d 2]),(0,.p false [.d 0]),(1,.p false [.d 1])],[],0,0,5,[]⟩,[]⟩]
def u_spec_l1Find_d : List (Nat × Nat × Bool × List Nat):=[]
def u_spec_l1Find_l0 : UP:=.po (.lenL 4) <| .po (.bin .lss false 1 0) <| .ite 0 (.po (.isI 2) <| .po (.idx 1 6 2) <| .po (.bin .eql false 0 6) <| .ite 0 (.po (.sc 4) <| .ret [(false,[4])]) <| .po (.k (.int .i64 1)) <| .po (.bin .add false 5 0) <| .jump 0 [0]) <| .po (.k (.int .i64 (-1))) <| .po (.sc 0) <| .ret [(false,[0])]
def u_spec_l1Find_u : UP:=.po (.k (.int .i64 0)) <| .po (.k (.int .i64 0)) <| .loop [0] u_spec_l1Find_l0
theorem u_spec_l1Find_g : toUPf Try.prog 47 Try.f47 owA u_spec_l1Find_h u_spec_l1Find_d = some ([(false,1),(false,1)],u_spec_l1Find_u):=by kernel_rfl
def u_spec_l1Has_h : List Hint:=[]
def u_spec_l1Has_d : List (Nat × Nat × Bool × List Nat):=[]
def u_spec_l1Has_u : UP:=.po (.k (.bool false)) <| .cl 47 [(false,[2]),(false,[1])] [(false,[none],true)] <| .po (.k (.int .i64 0)) <| .po (.bin .geq false 1 0) <| .po (.sc 0) <| .ret [(false,[0])]
theorem u_spec_l1Has_g : toUPf Try.prog 19 Try.f19 owA u_spec_l1Has_h u_spec_l1Has_d = some ([(false,1),(false,1)],u_spec_l1Has_u):=by kernel_rfl
def u_spec_l1In_h : List Hint:=[]
def u_spec_l1In_d : List (Nat × Nat × Bool × List Nat):=[]
def u_spec_l1In_u : UP:=.po (.k (.bool false)) <| .po (.bin .geq false 3 2) <| .ite 0 (.po (.bin .leq false 4 2) <| .po (.sc 0) <| .ret [(false,[0])]) <| .po (.k (.bool false)) <| .po (.sc 0) <| .ret [(false,[0])]
theorem u_spec_l1In_g : toUPf Try.prog 58 Try.f58 owA u_spec_l1In_h u_spec_l1In_d = some ([(false,1),(false,1),(false,1)],u_spec_l1In_u):=by kernel_rfl
section
variable {P : Program} {R : List (Bool × List DV)→Prop} {k a b : UP} {L : Lbl} {ρ : List DV}
def Bd (P : Program) (R : List (Bool × List DV)→Prop) (k : UP) (L : Lbl) (ρ : List DV) : Option (List DV)→Prop
  | some out=>V P R k L (psh out ρ)
  | none=>False
def Cl (P : Program) (R : List (Bool × List DV)→Prop) (f : FuncId) (sh : Sh) (k : UP) (L : Lbl) (ρ : List DV) (x : Option (List (Bool × List DV))) : Prop :=
  ∃ ys res,x = some ys∧MeetsX P f ys res∧shOk sh res = true∧V P R k L (psh (flatR res) ρ)
def Br (P : Program) (R : List (Bool × List DV)→Prop) (a b : UP) (L : Lbl) (ρ : List DV) : Option DV→Prop
  | some (.sc (.bool c))=>(match c with | true=>V P R a L ρ | false=>V P R b L ρ)
  | _=>False
def Jp : Option (List DV→Prop)→Option (List DV)→Prop
  | some J,some vs=>J vs
  | _,_=>False
def Rt (R : List (Bool × List DV)→Prop) : Option (List (Bool × List DV))→Prop
  | some vs=>R vs
  | none=>False
def Sl (P : Program) (R : List (Bool × List DV)→Prop) (k : UP) (L : Lbl) : Option (List DV)→Prop
  | some vs=>V P R k L vs
  | none=>False
theorem v_po {o : PO} : V P R (.po o k) L ρ = Bd P R k L ρ (evalP ρ o):=by
  rw [V];unfold Bd;split <;> simp_all
theorem bd_some {out : List DV} : Bd P R k L ρ (some out) = V P R k L (psh out ρ):=rfl
theorem v_cl {f : FuncId} {ar : List (Bool × List Nat)} {sh : Sh} : V P R (.cl f ar sh k) L ρ = Cl P R f sh k L ρ (gArgs ρ ar):=rfl
theorem v_ite {x : Nat} : V P R (.ite x a b) L ρ = Br P R a b L ρ (ρ[x]?):=by
  rw [V];unfold Br;rfl
theorem br_true : Br P R a b L ρ (some (.sc (.bool true))) = V P R a L ρ:=rfl
theorem br_false : Br P R a b L ρ (some (.sc (.bool false))) = V P R b L ρ:=rfl
theorem br_dec {p : Prop} [Decidable p] : Br P R a b L ρ (some (.sc (.bool (decide p)))) = ((p→V P R a L ρ)∧(¬ p→V P R b L ρ)):=by
  by_cases h : p
  · simp [h,br_true]
  · simp [h,br_false]
theorem br_bool {c : Bool} : Br P R a b L ρ (some (.sc (.bool c))) = ((c = true→V P R a L ρ)∧(c = false→V P R b L ρ)):=by
  cases c <;> simp [br_true,br_false]
theorem br_if {p : Prop} [Decidable p] (h1 : p→V P R a L ρ) (h2 : ¬ p→V P R b L ρ) : Br P R a b L ρ (some (.sc (.bool (decide p)))):=by rw [br_dec];exact ⟨h1,h2⟩
class BrD (c : Bool) {α : Type} (x y : α) (p q : outParam Prop) (u v : outParam α) : Prop where
  t : c = true→(p∧u = x) ∨ (q∧v = x)
  f : c = false→(p∧u = y) ∨ (q∧v = y)
instance (priority:=1200) {α : Type} {x y : α} {p : Prop} [Decidable p] : BrD (decide p) x y p (¬ p) x y:=⟨fun h=>.inl ⟨of_decide_eq_true h,rfl⟩,fun h=>.inr ⟨of_decide_eq_false h,rfl⟩⟩
instance (priority:=1200) {α : Type} {x y : α} {p : Prop} [Decidable p] : BrD (!decide p) x y p (¬ p) y x:=⟨fun h=>.inr ⟨by simpa using h,rfl⟩,fun h=>.inl ⟨by simpa using h,rfl⟩⟩
instance (priority:=900) {α : Type} {x y : α} {c : Bool} : BrD (!c) x y (c = true) (c = false) y x:=⟨fun h=>.inr ⟨by simpa using h,rfl⟩,fun h=>.inl ⟨by simpa using h,rfl⟩⟩
instance (priority:=100) {α : Type} {x y : α} {c : Bool} : BrD c x y (c = true) (c = false) x y:=⟨fun h=>.inl ⟨h,rfl⟩,fun h=>.inr ⟨h,rfl⟩⟩
theorem br_x {c : Bool} {p q : Prop} {u v : UP} [i : BrD c a b p q u v] (h1 : p→V P R u L ρ) (h2 : q→V P R v L ρ) : Br P R a b L ρ (some (.sc (.bool c))):=by
  rw [br_bool]
  refine ⟨fun h=>?_,fun h=>?_⟩
  · rcases i.t h with ⟨g,rfl⟩ | ⟨g,rfl⟩
    · exact h1 g
    · exact h2 g
  · rcases i.f h with ⟨g,rfl⟩ | ⟨g,rfl⟩
    · exact h1 g
    · exact h2 g
theorem v_jump {l : Nat} {xs : List Nat} : V P R (.jump l xs) L ρ = Jp (L[l]?) (gL ρ xs):=by
  rw [V]
  cases h1 : L[l]? <;> cases h2 : gL ρ xs <;> simp [Jp]
theorem jp_some {J : List DV→Prop} {vs : List DV} : Jp (some J) (some vs) = J vs:=rfl
theorem v_ret {xs : List (Bool × List Nat)} : V P R (.ret xs) L ρ = Rt R (gArgs ρ xs):=by
  rw [V]
  cases h : gArgs ρ xs <;> simp [Rt]
theorem rt_some {vs : List (Bool × List DV)} : Rt R (some vs) = R vs:=rfl
theorem v_sel {xs : List Nat} : V P R (.sel xs k) L ρ = Sl P R k L (gL ρ xs):=by
  rw [V];unfold Sl;split <;> simp_all
theorem sl_some {vs : List DV} : Sl P R k L (some vs) = V P R k L vs:=rfl
theorem cl_ok {f : FuncId} {sh : Sh} {ys : List (Bool × List DV)} {res : List Rs} (hm : Meets P f ys res) (hs : shOk sh res = true) (hk : V P R k L (psh (flatR res) ρ)) : Cl P R f sh k L ρ (some ys):=⟨ys,res,rfl,.n hm,hs,hk⟩
theorem cl_okC {f : FuncId} {t : TypeId} {x : DV} {cs cs' : List DV} {sh : Sh} {ys : List (Bool × List DV)} {res : List Rs} (hm : MeetsC P f t x cs ys res cs') (hs : shOk sh (res ++ [(false,[cvD t x cs'],true)]) = true) (hk : V P R k L (psh (flatR (res ++ [(false,[cvD t x cs'],true)])) ρ)) : Cl P R (f + 2000000) sh k L ρ (some ((false,[cvD t x cs]) :: ys)):=by rw [Nat.add_comm];exact ⟨_,_,rfl,.c hm,hs,hk⟩
theorem cl_okN {f : FuncId} {t : TypeId} {x : DV} {cs' : List DV} {sh : Sh} {ys : List (Bool × List DV)} (hm : MeetsN P f ys t x cs') (hs : shOk sh [(false,[cvD t x cs'],true)] = true) (hk : V P R k L (psh [cvD t x cs'] ρ)) : Cl P R (f + 3000000) sh k L ρ (some ys):=by rw [Nat.add_comm];exact ⟨_,_,rfl,.w hm,hs,hk⟩
theorem cl_okP {f : FuncId} {sh : Sh} {ys : List (Bool × List DV)} {res : List Rs} (hm : MeetsP P f ys res) (hs : shOk sh res = true) (hk : V P R k L (psh (flatR res) ρ)) : Cl P R (f + 1000000) sh k L ρ (some ys):=by rw [Nat.add_comm];exact ⟨ys,res,rfl,.p hm,hs,hk⟩
def Mk (P : Program) (R : List (Bool × List DV)→Prop) (f : FuncId) (b : Bool) (xs : List (Nat × Nat)) (k : UP) (L : Lbl) (ρ : List DV) (x : Option (List DV)) (y : Option DV) : Prop :=
  ∃ ds ds' n n',x = some ds∧y = some (.sc (.int .i64 n))∧Marks P f b ds n ds' n'∧mkEq xs ds ds'∧V P R k L (psh (ds' ++ [.sc (.int .i64 n')]) ρ)
theorem v_mk {f : FuncId} {b : Bool} {xs : List (Nat × Nat)} {j : Nat} : V P R (.mk f b xs j k) L ρ = Mk P R f b xs k L ρ (gL ρ (xs.map (·.1))) (ρ[j]?):=rfl
def LLe (L L' : Lbl) : Prop:=∀ (l : Nat) J,L[l]? = some J→∃ J',L'[l]? = some J'∧∀ vs,J vs→J' vs
theorem LLe.snoc {L L' : Lbl} {J J' : List DV→Prop} (h : LLe L L') (hl : L.length = L'.length) (hj : ∀ vs,J vs→J' vs) : LLe (L ++ [J]) (L' ++ [J']):=by
  intro l X hX
  rcases Nat.lt_or_ge l L.length with hlt | hge
  · rw [List.getElem?_append_left hlt] at hX
    obtain ⟨X',h1,h2⟩:=h l X hX
    exact ⟨X',by rw [List.getElem?_append_left (by omega)];exact h1,h2⟩
  · have : l = L.length:=by
      have:=(List.getElem?_eq_some_iff.1 hX).1;simp at this;omega
    subst this
    simp at hX;subst hX
    exact ⟨J',by rw [hl];simp,hj⟩
theorem v_mono : ∀ (up : UP) {L L' : Lbl} {ρ : List DV},LLe L L'→L.length = L'.length→V P R up L ρ→V P R up L' ρ:=by
  intro up
  induction up with
  | po o k ih=>intro L L' ρ h hl hv;rw [v_po] at hv ⊢;cases he : evalP ρ o with
    | none=>rw [he] at hv;exact hv
    | some out=>rw [he] at hv;exact ih h hl hv
  | cl f ar sh k ih=>intro L L' ρ h hl hv;obtain ⟨ys,res,h1,h2,h3,h4⟩:=hv;exact ⟨ys,res,h1,h2,h3,ih h hl h4⟩
  | mk f b xs j k ih=>intro L L' ρ h hl hv;obtain ⟨ds,ds',n,n',h1,h2,h3,h4,h5⟩:=hv;exact ⟨ds,ds',n,n',h1,h2,h3,h4,ih h hl h5⟩
  | ite x a b iha ihb =>
    intro L L' ρ h hl hv
    simp only [V] at hv ⊢
    split at hv
    · rename_i c hc
      cases c with
      | true=>exact iha h hl hv
      | false=>exact ihb h hl hv
    · exact hv.elim
  | jump l xs=>intro L L' ρ h hl hv;obtain ⟨J,vs,h1,h2,h3⟩:=hv;obtain ⟨J',h4,h5⟩:=h l J h1;exact ⟨J',vs,h4,h2,h5 vs h3⟩
  | join n rest k ihr ihk=>intro L L' ρ h hl hv;obtain ⟨J,h1,h2⟩:=hv;exact ⟨J,fun vs a b=>ihr h hl (h1 vs a b),ihk (h.snoc hl fun _ h=>h) (by simp [hl]) h2⟩
  | loop xs body ih=>intro L L' ρ h hl hv;obtain ⟨I,m,vs,h1,h2,h3⟩:=hv;exact ⟨I,m,vs,h1,h2,fun vs m a b=>ih (h.snoc hl fun _ h=>h) (by simp [hl]) (h3 vs m a b)⟩
  | ret xs=>intro L L' ρ h hl hv;exact hv
  | sel xs k ih=>intro L L' ρ h hl hv;rw [v_sel] at hv ⊢;cases he : gL ρ xs with
    | none=>rw [he] at hv;exact hv
    | some out=>rw [he] at hv;exact ih h hl hv
theorem lp {xs : List Nat} {body : UP} {α : Type} (enc : α→List DV) (I : α→Prop) (m : α→Nat) (a0 : α) (h0 : gL ρ xs = some (enc a0)) (hI : I a0)
    (hb : ∀ a,I a→V P R body (L ++ [fun vs'=>∃ a',vs' = enc a'∧I a'∧m a' < m a]) (psh (enc a) ρ)) : V P R (.loop xs body) L ρ:=by
  refine ⟨fun vs n=>∃ a,vs = enc a∧I a∧n = m a,m a0,enc a0,h0,⟨a0,rfl,hI,rfl⟩,?_⟩
  rintro vs n _ ⟨a,rfl,hIa,rfl⟩
  have:=hb a hIa
  refine v_mono body ?_ ?_ this
  · exact LLe.snoc (fun l J h=>⟨J,h,fun _ h=>h⟩) rfl (fun vs' ⟨a',h1,h2,h3⟩=>⟨m a',h3,a',h1,h2,rfl⟩)
  · simp
theorem lp_n {xs : List Nat} {body : UP} (n : Nat) (st : Nat→List DV) (h0 : gL ρ xs = some (st 0))
    (hb : ∀ i,i≤n→V P R body (L ++ [fun vs'=>vs' = st (i + 1)∧i < n]) (psh (st i) ρ)) : V P R (.loop xs body) L ρ:=by
  refine lp st (·≤n) (n - ·) 0 h0 (Nat.zero_le _) fun i hi=>?_
  have:=hb i hi
  refine v_mono body ?_ ?_ this
  · exact LLe.snoc (fun l J h=>⟨J,h,fun _ h=>h⟩) rfl (fun vs' ⟨h1,h2⟩=>⟨i + 1,h1,h2,by omega⟩)
  · simp
end
section
variable {ρ : List DV}
def eBin (op : BinOp) (b : Bool) : Option DV→Option DV→Option (List DV)
  | some (.sc x),some (.sc y)=>sc1 (binG op b x y)
  | _,_=>none
theorem ev_k {v : Value} : evalP ρ (.k v) = if isSc v then some [.sc v] else none:=rfl
theorem ev_e {t k : Nat} : evalP ρ (.e t k) = some [.sl t k []]:=rfl
theorem ev_bin {op : BinOp} {b : Bool} {x y : Nat} : evalP ρ (.bin op b x y) = eBin op b ρ[x]? ρ[y]?:=by
  simp only [evalP,eBin];split <;> simp_all
variable {b : Bool} {k : IntKind} {x y : Int}
theorem e_add : eBin .add b (some (.sc (.int k x))) (some (.sc (.int k y))) = some [.sc (.int k (k.wrap (x + y)))]:=by simp [eBin,binG,intF,sc1]
theorem e_sub : eBin .sub b (some (.sc (.int k x))) (some (.sc (.int k y))) = some [.sc (.int k (k.wrap (x - y)))]:=by simp [eBin,binG,intF,sc1]
theorem e_mul : eBin .mul b (some (.sc (.int k x))) (some (.sc (.int k y))) = some [.sc (.int k (k.wrap (x * y)))]:=by simp [eBin,binG,intF,sc1]
theorem e_quo (h : y ≠ 0) : eBin .quo b (some (.sc (.int k x))) (some (.sc (.int k y))) = some [.sc (.int k (k.wrap (x.tdiv y)))]:=by simp [eBin,binG,intF,sc1,h]
theorem e_rem (h : y ≠ 0) : eBin .rem b (some (.sc (.int k x))) (some (.sc (.int k y))) = some [.sc (.int k (x.tmod y))]:=by simp [eBin,binG,intF,sc1,h]
theorem e_eql : eBin .eql b (some (.sc (.int k x))) (some (.sc (.int k y))) = some [.sc (.bool (decide (x = y)))]:=by simp [eBin,binG,intF,sc1]
theorem e_neq : eBin .neq b (some (.sc (.int k x))) (some (.sc (.int k y))) = some [.sc (.bool (!decide (x = y)))]:=by simp [eBin,binG,intF,sc1]
theorem e_lss : eBin .lss b (some (.sc (.int k x))) (some (.sc (.int k y))) = some [.sc (.bool (decide (x < y)))]:=by simp [eBin,binG,intF,sc1]
theorem e_leq : eBin .leq b (some (.sc (.int k x))) (some (.sc (.int k y))) = some [.sc (.bool (decide (x≤y)))]:=by simp [eBin,binG,intF,sc1]
theorem e_gtr : eBin .gtr b (some (.sc (.int k x))) (some (.sc (.int k y))) = some [.sc (.bool (decide (y < x)))]:=by simp [eBin,binG,intF,sc1]
theorem e_geq : eBin .geq b (some (.sc (.int k x))) (some (.sc (.int k y))) = some [.sc (.bool (decide (y≤x)))]:=by simp [eBin,binG,intF,sc1]
variable {s t : ByteArray}
theorem e_cat (h : s.size + t.size≤maxLen) : eBin .add b (some (.sc (.string s))) (some (.sc (.string t))) = some [.sc (.string (s ++ t))]:=by simp [eBin,binG,strF,sc1,h]
theorem e_seq : eBin .eql b (some (.sc (.string s))) (some (.sc (.string t))) = some [.sc (.bool (decide (s = t)))]:=by simp [eBin,binG,strF,sc1]
theorem e_sne : eBin .neq b (some (.sc (.string s))) (some (.sc (.string t))) = some [.sc (.bool (!decide (s = t)))]:=by simp [eBin,binG,strF,sc1]
theorem e_slt : eBin .lss b (some (.sc (.string s))) (some (.sc (.string t))) = some [.sc (.bool (Op.bytesLess s.toList t.toList))]:=by simp [eBin,binG,strF,sc1]
theorem e_sgt : eBin .gtr b (some (.sc (.string s))) (some (.sc (.string t))) = some [.sc (.bool (!(Op.bytesLess s.toList t.toList || decide (s = t))))]:=by simp [eBin,binG,strF,sc1]
variable {c d : Bool}
theorem e_beq : eBin .eql true (some (.sc (.bool c))) (some (.sc (.bool d))) = some [.sc (.bool (c == d))]:=by simp [eBin,binG,sc1]
theorem e_bne : eBin .neq true (some (.sc (.bool c))) (some (.sc (.bool d))) = some [.sc (.bool (!(c == d)))]:=by simp [eBin,binG,sc1]
def eUn (op : UnOp) : Option DV→Option (List DV)
  | some (.sc x)=>sc1 (unF op x)
  | _=>none
theorem ev_un {op : UnOp} {x : Nat} : evalP ρ (.un op x) = eUn op ρ[x]?:=by
  simp only [evalP,eUn];split <;> simp_all
theorem e_neg : eUn .neg (some (.sc (.int k x))) = some [.sc (.int k (k.wrap (0 - x)))]:=by simp [eUn,unF,sc1]
theorem e_not : eUn .not (some (.sc (.bool c))) = some [.sc (.bool (!c))]:=by simp [eUn,unF,sc1]
theorem wrap_id {z : Int} (h : -9223372036854775808≤z) (h2 : z≤9223372036854775807) : IntKind.i64.wrap z = z:=by
  simp only [IntKind.wrap,IntKind.bits,IntKind.signed]
  have e : z.bmod (2 ^ 64) = z:=Int.bmod_eq_of_le (by omega) (by omega)
  first
    | simpa using e
    | (simp;omega)
end
end Go.Proofs.Ytkeoohonidpjeaa
namespace Go.Proofs.Ytkeoohonidpjeaa
open Go.RowKit
section
variable {ρ : List DV} {k t : Nat} {kd : IntKind} {z : Int} {es fs : List (List DV)}
def eIsI : Option DV→Option (List DV)
  | some (.sc (.int _ _))=>some []
  | _=>none
theorem ev_isI {x : Nat} : evalP ρ (.isI x) = eIsI ρ[x]?:=by simp only [evalP,eIsI];split <;> simp_all <;> rfl
theorem e_isI : eIsI (some (.sc (.int kd z))) = some []:=rfl
def eSc : Option DV→Option (List DV)
  | some d=>if isScD d then some [] else none
  | none=>none
theorem ev_sc {x : Nat} : evalP ρ (.sc x) = eSc ρ[x]?:=by simp only [evalP,eSc];split <;> simp_all <;> rfl
theorem e_scI : eSc (some (.sc (.int kd z))) = some []:=rfl
theorem e_scS {s : ByteArray} : eSc (some (.sc (.string s))) = some []:=rfl
theorem e_scB {b : Bool} : eSc (some (.sc (.bool b))) = some []:=rfl
theorem k_int {n : Int} : isSc (.int kd n) = true:=rfl
theorem k_str {s : ByteArray} : isSc (.string s) = true:=rfl
theorem k_bool {b : Bool} : isSc (.bool b) = true:=rfl
def eFlat : Option DV→Option (List DV)
  | some (.sl _ _ es)=>if es.flatten.all isScD then some [] else none
  | _=>none
theorem ev_flat {x : Nat} : evalP ρ (.flat x) = eFlat ρ[x]?:=by simp only [evalP,eFlat];split <;> simp_all <;> rfl
theorem e_flat (h : es.flatten.all isScD = true) : eFlat (some (.sl t k es)) = some []:=by simp only [eFlat,h,if_true]
theorem e_flat0 : eFlat (some (.sl t k [])) = some []:=rfl
theorem e_flat_map {α : Type} {e : α→List DV} {l : List α} (h : ∀ x,(e x).all isScD = true) : eFlat (some (.sl t k (l.map e))) = some []:=by
  refine e_flat (List.all_eq_true.2 fun d hd=>?_)
  obtain ⟨c,hc,hd⟩:=List.mem_flatten.1 hd
  obtain ⟨x,_,rfl⟩:=List.mem_map.1 hc
  exact List.all_eq_true.1 (h x) d hd
def eCvI (k : IntKind) : Option DV→Option (List DV)
  | some (.sc (.int _ n))=>some [.sc (.int k (k.wrap n))]
  | _=>none
theorem ev_cvI {k : IntKind} {x : Nat} : evalP ρ (.cvI k x) = eCvI k ρ[x]?:=by simp only [evalP,eCvI];split <;> simp_all <;> rfl
theorem e_cvI {k : IntKind} : eCvI k (some (.sc (.int kd z))) = some [.sc (.int k (k.wrap z))]:=rfl
def eCvS : Option DV→Option (List DV)
  | some (.sc (.string s))=>some [.sc (.string s)]
  | _=>none
theorem ev_cvS {x : Nat} : evalP ρ (.cvS x) = eCvS ρ[x]?:=by simp only [evalP,eCvS];split <;> simp_all <;> rfl
theorem e_cvS {s : ByteArray} : eCvS (some (.sc (.string s))) = some [.sc (.string s)]:=rfl
def eCvB : Option DV→Option (List DV)
  | some (.sl _ 1 es)=>(match numsOf es with | some xs=>some [.sc (.string (strOfNums xs))] | none=>none)
  | _=>none
theorem ev_cvB {x : Nat} : evalP ρ (.cvB x) = eCvB ρ[x]?:=by unfold evalP eCvB;rfl
theorem e_cvB {xs : List Int} (h : numsOf es = some xs) : eCvB (some (.sl t 1 es)) = some [.sc (.string (strOfNums xs))]:=by simp only [eCvB,h]
def eLenS : Option DV→Option (List DV)
  | some (.sc (.string s))=>some [.sc (.int .i64 s.size)]
  | _=>none
theorem ev_lenS {x : Nat} : evalP ρ (.lenS x) = eLenS ρ[x]?:=by simp only [evalP,eLenS];split <;> simp_all <;> rfl
theorem e_lenS {s : ByteArray} : eLenS (some (.sc (.string s))) = some [.sc (.int .i64 s.size)]:=rfl
def eLenL : Option DV→Option (List DV)
  | some (.sl _ _ es)=>some [.sc (.int .i64 es.length)]
  | _=>none
theorem ev_lenL {x : Nat} : evalP ρ (.lenL x) = eLenL ρ[x]?:=by simp only [evalP,eLenL];split <;> simp_all <;> rfl
theorem e_lenL : eLenL (some (.sl t k es)) = some [.sc (.int .i64 es.length)]:=rfl
def eChr : Option DV→Option DV→Option (List DV)
  | some (.sc (.string s)),some (.sc (.int _ z))=>if 0≤z then (match s[z.toNat]? with | some u=>some [.sc (.int .u8 u.toNat)] | none=>none) else none
  | _,_=>none
theorem ev_chr {x i : Nat} : evalP ρ (.chr x i) = eChr ρ[x]? ρ[i]?:=by simp only [evalP,eChr];split <;> simp_all <;> rfl
theorem e_chr {s : ByteArray} {u : UInt8} (h : 0≤z) (hu : s[z.toNat]? = some u) : eChr (some (.sc (.string s))) (some (.sc (.int kd z))) = some [.sc (.int .u8 u.toNat)]:=by simp only [eChr,if_pos h,hu]
def byteAt (s : ByteArray) (i : Nat) : Nat:=((s[i]?).map UInt8.toNat).getD 0
theorem e_chr' {s : ByteArray} (h : 0≤z) (hu : z < s.size) : eChr (some (.sc (.string s))) (some (.sc (.int kd z))) = some [.sc (.int .u8 (byteAt s z.toNat))]:=by
  have hz : z.toNat < s.size:=by omega
  rw [e_chr h (getElem?_pos s z.toNat hz)]
  unfold byteAt
  rw [getElem?_pos s z.toNat hz];rfl
def eIdx (k : Nat) : Option DV→Option DV→Option (List DV)
  | some (.sl _ k' es),some (.sc (.int _ z))=>if k' = k∧0≤z then (match es[z.toNat]? with | some e=>if e.length = k then some e else none | none=>none) else none
  | _,_=>none
theorem ev_idx {x i : Nat} : evalP ρ (.idx k x i) = eIdx k ρ[x]? ρ[i]?:=by simp only [evalP,eIdx];split <;> simp_all <;> rfl
theorem e_idx {e : List DV} (h : 0≤z) (he : es[z.toNat]? = some e) (hk : e.length = k) : eIdx k (some (.sl t k es)) (some (.sc (.int kd z))) = some e:=by
  simp [eIdx,h,he,hk]
theorem e_idx_map {α : Type} [Inhabited α] {e : α→List DV} {l : List α} (hk : ∀ x,(e x).length = k) (h : 0≤z) (h1 : z < l.length) : eIdx k (some (.sl t k (l.map e))) (some (.sc (.int kd z))) = some (e (l.getD z.toNat default)):=by
  have hz : z.toNat < l.length:=by omega
  refine e_idx h ?_ (hk _)
  rw [List.getElem?_map,List.getElem?_eq_getElem hz,List.getD_eq_getElem?_getD,List.getElem?_eq_getElem hz];rfl
def eChk (k : Nat) : Option DV→Option DV→Option (List DV)
  | some (.sl _ k' es),some (.sc (.int _ z))=>if k' = k∧0≤z∧z.toNat < es.length then some [] else none
  | _,_=>none
theorem ev_chk {x i : Nat} : evalP ρ (.chk k x i) = eChk k ρ[x]? ρ[i]?:=by simp only [evalP,eChk];split <;> simp_all <;> rfl
theorem e_chk (h : 0≤z) (h1 : z < es.length) : eChk k (some (.sl t k es)) (some (.sc (.int kd z))) = some []:=by
  have : z.toNat < es.length:=by omega
  simp [eChk,h,this]
theorem e_chk_map {α : Type} {e : α→List DV} {l : List α} (h : 0≤z) (h1 : z < l.length) : eChk k (some (.sl t k (l.map e))) (some (.sc (.int kd z))) = some []:=e_chk h (by simpa using h1)
def eCutS : Option DV→Option (Option Int)→Option (Option Int)→Option (List DV)
  | some (.sc (.string s)),some l,some h=>(match cutF l h s.size with | some (a,b)=>some [.sc (.string (s.extract a b))] | none=>none)
  | _,_,_=>none
theorem ev_cutS {x : Nat} {lo hi : Option Nat} : evalP ρ (.cutS x lo hi) = eCutS ρ[x]? (gIo ρ lo) (gIo ρ hi):=by simp only [evalP,eCutS];split <;> simp_all <;> rfl
theorem e_cutS {s : ByteArray} {lo hi : Option Int} (h1 : 0≤lo.getD 0) (h2 : lo.getD 0≤hi.getD s.size) (h3 : hi.getD s.size≤s.size) : eCutS (some (.sc (.string s))) (some lo) (some hi) = some [.sc (.string (s.extract (lo.getD 0).toNat (hi.getD s.size).toNat))]:=by
  simp [eCutS,cutF,h1,h2,h3]
def eCutL (k : Nat) : Option DV→Option (Option Int)→Option (Option Int)→Option (List DV)
  | some (.sl t k' es),some l,some h=>if k' = k then (match cutF l h es.length with | some (a,b)=>some [.sl t k ((es.drop a).take (b - a))] | none=>none) else none
  | _,_,_=>none
theorem ev_cutL {x : Nat} {lo hi : Option Nat} : evalP ρ (.cutL k x lo hi) = eCutL k ρ[x]? (gIo ρ lo) (gIo ρ hi):=by simp only [evalP,eCutL];split <;> simp_all <;> rfl
theorem e_cutL {lo hi : Option Int} (h1 : 0≤lo.getD 0) (h2 : lo.getD 0≤hi.getD es.length) (h3 : hi.getD es.length≤es.length) : eCutL k (some (.sl t k es)) (some lo) (some hi) = some [.sl t k ((es.drop (lo.getD 0).toNat).take ((hi.getD es.length).toNat - (lo.getD 0).toNat))]:=by
  simp [eCutL,cutF,h1,h2,h3]
theorem e_cutL_map {α : Type} {e : α→List DV} {l : List α} {lo hi : Option Int} (h1 : 0≤lo.getD 0) (h2 : lo.getD 0≤hi.getD l.length) (h3 : hi.getD l.length≤l.length) :
    eCutL k (some (.sl t k (l.map e))) (some lo) (some hi) = some [.sl t k (((l.drop (lo.getD 0).toNat).take ((hi.getD l.length).toNat - (lo.getD 0).toNat)).map e)]:=by
  rw [e_cutL h1 (by simpa using h2) (by simpa using h3)]
  simp [List.map_take,List.map_drop]
section
variable {α : Type} {e : α→List DV} {l : List α} {a b : Int} {s : ByteArray}
theorem e_cL (h1 : 0≤a) (h2 : a≤b) (h3 : b≤l.length) : eCutL k (some (.sl t k (l.map e))) (some (some a)) (some (some b)) = some [.sl t k (((l.drop a.toNat).take (b.toNat - a.toNat)).map e)]:=e_cutL_map h1 h2 h3
theorem e_cL1 (h1 : 0≤a) (h2 : a≤l.length) : eCutL k (some (.sl t k (l.map e))) (some (some a)) (some none) = some [.sl t k ((l.drop a.toNat).map e)]:=by
  rw [e_cutL_map (lo:=some a) (hi:=none) h1 h2 (by simp)]
  simp only [Option.getD_some,Option.getD_none,Int.toNat_natCast]
  rw [List.take_of_length_le (by simp)]
theorem e_cL2 (h1 : 0≤b) (h2 : b≤l.length) : eCutL k (some (.sl t k (l.map e))) (some none) (some (some b)) = some [.sl t k ((l.take b.toNat).map e)]:=by
  rw [e_cutL_map (lo:=none) (hi:=some b) (by simp) h1 h2]
  simp
theorem e_cS (h1 : 0≤a) (h2 : a≤b) (h3 : b≤s.size) : eCutS (some (.sc (.string s))) (some (some a)) (some (some b)) = some [.sc (.string (s.extract a.toNat b.toNat))]:=e_cutS h1 h2 h3
theorem e_cS1 (h1 : 0≤a) (h2 : a≤s.size) : eCutS (some (.sc (.string s))) (some (some a)) (some none) = some [.sc (.string (s.extract a.toNat s.size))]:=by
  rw [e_cutS (lo:=some a) (hi:=none) h1 h2 (by simp)];simp
theorem e_cS2 (h1 : 0≤b) (h2 : b≤s.size) : eCutS (some (.sc (.string s))) (some none) (some (some b)) = some [.sc (.string (s.extract 0 b.toNat))]:=by
  rw [e_cutS (lo:=none) (hi:=some b) (by simp) h1 h2];simp
end
def gIE : Option DV→Option Int
  | some (.sc (.int _ z))=>some z
  | _=>none
theorem gI_e {i : Nat} : gI ρ i = gIE ρ[i]?:=by unfold gI gIE;rfl
theorem gIE_some : gIE (some (.sc (.int kd z))) = some z:=rfl
theorem gIo_none : gIo ρ none = some none:=rfl
theorem gIo_some {i : Nat} : gIo ρ (some i) = (gI ρ i).map some:=rfl
def eApp (el k b : Nat) : Option DV→Option DV→Option (List DV)
  | some (.sl t1 k1 es),some (.sl _ k2 fs)=>if t1 = el∧k1 = k∧k2 = k∧es.length + fs.length≤9223372036854775807∧(es.length + fs.length) * b≤140737488355328 then some [.sl el k (es ++ fs)] else none
  | _,_=>none
theorem ev_app {el b x y : Nat} : evalP ρ (.app el k b x y) = eApp el k b ρ[x]? ρ[y]?:=by simp only [evalP,eApp];split <;> simp_all <;> rfl
theorem e_app {el b : Nat} (h : es.length + fs.length≤1000000000000) (hb : b≤140) : eApp el k b (some (.sl el k es)) (some (.sl t k fs)) = some [.sl el k (es ++ fs)]:=by
  have h1 : (es.length + fs.length) * b≤1000000000000 * 140:=Nat.mul_le_mul h hb
  have h2 : (es.length + fs.length) * b≤140737488355328:=by omega
  have h3 : es.length + fs.length≤9223372036854775807:=by omega
  simp [eApp,h2,h3]
theorem e_app1 {α : Type} {e : α→List DV} {l : List α} {el b : Nat} {x : List DV} (h : l.length≤100000000000) (hb : b≤140) : eApp el k b (some (.sl el k (l.map e))) (some (.sl t k [x])) = some [.sl el k (l.map e ++ [x])]:=e_app (by simp;omega) hb
theorem e_appm {α : Type} {e : α→List DV} {l m : List α} {el b : Nat} (h : l.length≤100000000000) (h' : m.length≤100000000000) (hb : b≤140) : eApp el k b (some (.sl el k (l.map e))) (some (.sl t k (m.map e))) = some [.sl el k ((l ++ m).map e)]:=by
  rw [e_app (by simp;omega) hb,List.map_append]
theorem e_app0 {α : Type} {e : α→List DV} {m : List α} {el b : Nat} (h' : m.length≤100000000000) (hb : b≤140) : eApp el k b (some (.sl el k [])) (some (.sl t k (m.map e))) = some [.sl el k (m.map e)]:=by
  rw [e_app (by simp;omega) hb];rfl
theorem e_app01 {el b : Nat} {x : List DV} (hb : b≤140) : eApp el k b (some (.sl el k [])) (some (.sl t k [x])) = some [.sl el k [x]]:=by
  rw [e_app (by simp) hb];rfl
def eMk (el k : Nat) : Option (List (List DV))→Option (List DV)
  | some es=>if es.all (fun e=>e.length == k) then some [.sl el k es] else none
  | none=>none
theorem ev_mk {el : Nat} {rows : List (List Nat)} : evalP ρ (.mk el k rows) = eMk el k (gLL ρ rows):=by simp only [evalP,eMk];split <;> simp_all <;> rfl
def eMake (el k b : Nat) (zz : List DV) : Option DV→Option (List DV)
  | some (.sc (.int .i64 n))=>if 0≤n∧b * n.toNat≤281474976710656∧n.toNat≤9223372036854775807 then some [.sl el k (List.replicate n.toNat zz)] else none
  | _=>none
theorem ev_make {el b n : Nat} {zz : List DV} : evalP ρ (.make el k b zz n) = eMake el k b zz ρ[n]?:=by simp only [evalP,eMake];split <;> simp_all <;> rfl
theorem e_make {el b : Nat} {zz : List DV} (h0 : 0≤z) (h1 : z≤1000000000000) (hb : b≤140) : eMake el k b zz (some (.sc (.int .i64 z))) = some [.sl el k (List.replicate z.toNat zz)]:=by
  have h2 : b * z.toNat≤140 * 1000000000000:=Nat.mul_le_mul hb (by omega)
  have h3 : b * z.toNat≤281474976710656:=by omega
  have h4 : z.toNat≤9223372036854775807:=by omega
  simp [eMake,h0,h3,h4]
def eSet (k off : Nat) : Option DV→Option DV→Option (List DV)→Option (List DV)
  | some (.sl t k' es),some (.sc (.int _ z)),some ds=>if k' = k∧0≤z∧off + ds.length≤k then (match es[z.toNat]? with | some e=>some [.sl t k (es.set z.toNat (plug off ds e))] | none=>none) else none
  | _,_,_=>none
theorem ev_set {x j off : Nat} {vs : List Nat} : evalP ρ (.set k x j off vs) = eSet k off ρ[x]? ρ[j]? (gL ρ vs):=by simp only [evalP,eSet];split <;> simp_all <;> rfl
theorem e_set {off : Nat} {ds e : List DV} (h0 : 0≤z) (hl : off + ds.length≤k) (he : es[z.toNat]? = some e) : eSet k off (some (.sl t k es)) (some (.sc (.int kd z))) (some ds) = some [.sl t k (es.set z.toNat (plug off ds e))]:=by
  simp [eSet,h0,hl,he]
theorem e_set_map {α : Type} {e : α→List DV} {l : List α} {ds : List DV} (hk : ∀ x,(e x).length = k) (h0 : 0≤z) (h1 : z < l.length) (hl : ds.length = k) :
    eSet k 0 (some (.sl t k (l.map e))) (some (.sc (.int kd z))) (some ds) = some [.sl t k ((l.map e).set z.toNat ds)]:=by
  have hz : z.toNat < l.length:=by omega
  rw [e_set h0 (by omega) (e:=e l[z.toNat]) (by rw [List.getElem?_map,List.getElem?_eq_getElem hz];rfl)]
  have : plug 0 ds (e l[z.toNat]) = ds:=by
    unfold plug
    simp only [List.take_zero,List.nil_append,Nat.zero_add]
    rw [List.drop_of_length_le (by rw [hk,hl];exact Nat.le_refl _),List.append_nil]
  rw [this]
def eMm (mx : Bool) : Option DV→Option DV→Option (List DV)
  | some (.sc (.int k a)),some (.sc (.int k' b))=>if k = k' then some [.sc (.int k (mmF mx a b))] else none
  | _,_=>none
theorem ev_mm {mx : Bool} {x y : Nat} : evalP ρ (.mm mx x y) = eMm mx ρ[x]? ρ[y]?:=by simp only [evalP,eMm];split <;> simp_all <;> rfl
theorem e_max {a b : Int} : eMm true (some (.sc (.int kd a))) (some (.sc (.int kd b))) = some [.sc (.int kd (max a b))]:=by simp [eMm,mmF]
theorem e_min {a b : Int} : eMm false (some (.sc (.int kd a))) (some (.sc (.int kd b))) = some [.sc (.int kd (min a b))]:=by simp [eMm,mmF]
def eEqS (neg : Bool) (ks : List Kd) : Option (List DV)→Option (List DV)→Option (List DV)
  | some ds,some es=>(match eqKD ks ds es with | some b=>some [.sc (.bool (if neg then !b else b))] | none=>none)
  | _,_=>none
theorem ev_eqS {neg : Bool} {ks : List Kd} {xs ys : List Nat} : evalP ρ (.eqS neg ks xs ys) = eEqS neg ks (gL ρ xs) (gL ρ ys):=by simp only [evalP,eEqS];split <;> simp_all <;> rfl
def eCutI : Option DV→Option (Option Int)→Option (Option Int)→Option (List DV)
  | some (.sl _ _ es),some l,some h=>(match cutF l h es.length with | some (a,b)=>some [.sc (.int .i64 a),.sc (.int .i64 ((b - a : Nat) : Int))] | none=>none)
  | _,_,_=>none
theorem ev_cutI {x : Nat} {lo hi : Option Nat} : evalP ρ (.cutI x lo hi) = eCutI ρ[x]? (gIo ρ lo) (gIo ρ hi):=by simp only [evalP,eCutI];split <;> simp_all <;> rfl
theorem e_cI {a b : Int} (h1 : 0≤a) (h2 : a≤b) (h3 : b≤es.length) : eCutI (some (.sl t k es)) (some (some a)) (some (some b)) = some [.sc (.int .i64 a),.sc (.int .i64 (b - a))]:=by
  simp only [eCutI,cutF,Option.getD_some]
  rw [if_pos ⟨h1,h2,h3⟩]
  simp only [Option.some.injEq,List.cons.injEq,DV.sc.injEq,Value.int.injEq,true_and,and_true]
  omega
theorem e_cI1 {a : Int} (h1 : 0≤a) (h2 : a≤es.length) : eCutI (some (.sl t k es)) (some (some a)) (some none) = some [.sc (.int .i64 a),.sc (.int .i64 (es.length - a))]:=by
  simp only [eCutI,cutF,Option.getD_some,Option.getD_none]
  rw [if_pos ⟨h1,h2,Int.le_refl _⟩]
  simp only [Option.some.injEq,List.cons.injEq,DV.sc.injEq,Value.int.injEq,true_and,and_true]
  omega
theorem e_cI2 {b : Int} (h1 : 0≤b) (h2 : b≤es.length) : eCutI (some (.sl t k es)) (some none) (some (some b)) = some [.sc (.int .i64 0),.sc (.int .i64 b)]:=by
  simp only [eCutI,cutF,Option.getD_some,Option.getD_none]
  rw [if_pos ⟨Int.le_refl _,h1,h2⟩]
  simp only [Option.some.injEq,List.cons.injEq,DV.sc.injEq,Value.int.injEq,true_and,and_true]
  omega
def eAtJ : Option DV→Option DV→Option DV→Option (List DV)
  | some (.sc (.int .i64 u)),some (.sc (.int .i64 v)),some (.sc (.int _ j))=>if 0≤u∧0≤j∧j < v then some [.sc (.int .i64 (u + j))] else none
  | _,_,_=>none
theorem ev_atJ {x y i : Nat} : evalP ρ (.atJ x y i) = eAtJ ρ[x]? ρ[y]? ρ[i]?:=by simp only [evalP,eAtJ];split <;> simp_all <;> rfl
theorem e_atJ {u v j : Int} (h1 : 0≤u) (h2 : 0≤j) (h3 : j < v) : eAtJ (some (.sc (.int .i64 u))) (some (.sc (.int .i64 v))) (some (.sc (.int kd j))) = some [.sc (.int .i64 (u + j))]:=by simp [eAtJ,h1,h2,h3]
def eViewD : Option DV→Option DV→Option DV→Option (List DV)
  | some (.sl t k es),some (.sc (.int .i64 u)),some (.sc (.int .i64 v))=>some [.sl t k ((es.drop u.toNat).take v.toNat)]
  | _,_,_=>none
theorem ev_viewD {x y i : Nat} : evalP ρ (.viewD x y i) = eViewD ρ[x]? ρ[y]? ρ[i]?:=by simp only [evalP,eViewD];split <;> simp_all <;> rfl
theorem e_viewD {u v : Int} : eViewD (some (.sl t k es)) (some (.sc (.int .i64 u))) (some (.sc (.int .i64 v))) = some [.sl t k ((es.drop u.toNat).take v.toNat)]:=rfl
theorem e_viewM {α : Type} {e : α→List DV} {l : List α} {u v : Int} : eViewD (some (.sl t k (l.map e))) (some (.sc (.int .i64 u))) (some (.sc (.int .i64 v))) = some [.sl t k (((l.drop u.toNat).take v.toNat).map e)]:=by
  rw [e_viewD,List.map_take,List.map_drop]
def eCutP : Option DV→Option DV→Option DV→Option (List DV)
  | some (.sl t k es),some (.sc (.int .i64 u)),some (.sc (.int .i64 v))=>if u = 0∧v.toNat≤es.length then some [.sl t k (es.take v.toNat)] else none
  | _,_,_=>none
theorem ev_cutP {x y i : Nat} : evalP ρ (.cutP x y i) = eCutP ρ[x]? ρ[y]? ρ[i]?:=by simp only [evalP,eCutP];split <;> simp_all <;> rfl
theorem e_cutP {α : Type} {e : α→List DV} {l : List α} {v : Int} (h : v≤l.length) : eCutP (some (.sl t k (l.map e))) (some (.sc (.int .i64 0))) (some (.sc (.int .i64 v))) = some [.sl t k ((l.take v.toNat).map e)]:=by
  have : v.toNat≤(l.map e).length:=by rw [List.length_map];omega
  simp only [eCutP,this,true_and,if_true,List.map_take]
def eEmpD : Option DV→Option (List DV)
  | some (.sl _ _ es)=>some [.sc (.bool es.isEmpty)]
  | _=>none
theorem ev_emp {x : Nat} : evalP ρ (.emp x) = eEmpD ρ[x]?:=by simp only [evalP,eEmpD];split <;> simp_all <;> rfl
theorem e_emp {α : Type} {e : α→List DV} {l : List α} : eEmpD (some (.sl t k (l.map e))) = some [.sc (.bool l.isEmpty)]:=by simp [eEmpD]
def eUnc (n : Nat) : Option DV→Option (List DV)
  | some (.sl _ 0 [[x],cs])=>if cs.length + 1 = n then some (x :: cs) else none
  | _=>none
theorem ev_unc {z n : Nat} : evalP ρ (.unc z n) = eUnc n ρ[z]?:=by simp only [evalP,eUnc];split <;> simp_all <;> rfl
def eCuS (off : Nat) : Option DV→Option DV→Option (List DV)
  | some (.sl t 0 [[x],cs]),some (.sc u)=>if isSc u = true∧0 < off∧off - 1 < cs.length then some [.sl t 0 [[x],cs.set (off - 1) (.sc u)]] else none
  | _,_=>none
theorem ev_cuS {z off v : Nat} : evalP ρ (.cuS z off v) = eCuS off ρ[z]? ρ[v]?:=by simp only [evalP,eCuS];split <;> simp_all <;> rfl
theorem e_cuS {ty off : Nat} {x : DV} {cs : List DV} {u : Value} (h : isSc u = true) (ho : off < cs.length) : eCuS (off + 1) (some (cvD ty x cs)) (some (.sc u)) = some [cvD ty x (cs.set off (.sc u))]:=by simp [eCuS,cvD,h,ho]
def eCpy (k : Nat) : Option DV→Option DV→Option DV→Option DV→Option DV→Option (List DV)
  | some (.sl t k' es),some (.sc (.int .i64 a)),some (.sc (.int .i64 m)),some (.sc (.int .i64 b)),some (.sc (.int .i64 m')) =>
    if k' = k∧es.flatten.all isScD = true then some [.sl t k (cpyL es a.toNat m.toNat b.toNat m'.toNat),.sc (.int .i64 ((min m'.toNat m.toNat : Nat) : Int))] else none
  | _,_,_,_,_=>none
theorem ev_cpy {k x lo n lo' n' : Nat} : evalP ρ (.cpy k x lo n lo' n') = eCpy k ρ[x]? ρ[lo]? ρ[n]? ρ[lo']? ρ[n']?:=by simp only [evalP,eCpy];split <;> simp_all <;> rfl
theorem nat1 {n : Nat} : (n : Int) + 1 = ((n + 1 : Nat) : Int):=rfl
end
theorem lnA : (∀ (α : Type) (l : List α) (n : Nat),(l.take n).length = min n l.length)∧(∀ (α : Type) (l : List α) (n : Nat),(l.drop n).length = l.length - n)∧(∀ (α : Type) (l m : List α),(l ++ m).length = l.length + m.length) ∧
    (∀ (α β : Type) (f : α→β) (x : α) (l : List α),(x :: l).map f = f x :: l.map f)∧(∀ (α β : Type) (f : α→β),([] : List α).map f = [])∧(∀ (α β : Type) (f : α→β) (l : List α),(l.map f).length = l.length) ∧
    (∀ (α : Type) (x : α) (l : List α),(x :: l).length = l.length + 1)∧(∀ α : Type,([] : List α).length = 0)∧(∀ (α : Type) (l : List α) (n : Nat) (x : α),(l.set n x).length = l.length)∧(∀ (α : Type) (n : Nat) (x : α),(List.replicate n x).length = n) :=
  ⟨fun _ _ _=>List.length_take,fun _ _ _=>List.length_drop,fun _ _ _=>List.length_append,fun _ _ _ _ _=>rfl,fun _ _ _=>rfl,fun _ _ _ _=>List.length_map _,fun _ _ _=>rfl,fun _=>rfl,fun _ _ _ _=>List.length_set,fun _ _ _=>List.length_replicate⟩
theorem lnB : (∀ (α : Type) (x : α) (l : List α),(x :: l).length = l.length + 1)∧(∀ α : Type,([] : List α).length = 0)∧(∀ n : Nat,0 + n = n):=⟨fun _ _ _=>rfl,fun _=>rfl,Nat.zero_add⟩
attribute [go_sem] v_po bd_some v_cl v_mk v_ite br_true br_false v_jump jp_some v_ret rt_some v_sel sl_some ev_k ev_e ev_bin
attribute [go_sem] e_add e_sub e_mul e_eql e_neq e_lss e_leq e_gtr e_geq e_seq e_sne e_slt e_sgt e_beq e_bne ev_un
attribute [go_sem] e_neg e_not wrap_id ev_isI e_isI ev_sc e_scI e_scS e_scB k_int k_str k_bool ev_flat e_flat0 ev_cvI e_cvI
attribute [go_sem] ev_cvS e_cvS ev_cvB ev_lenS e_lenS ev_lenL e_lenL ev_chr e_chr' ev_idx ev_chk e_chk_map ev_cutS e_cS e_cS1 e_cS2
attribute [go_sem] ev_cutL e_cL e_cL1 e_cL2 gI_e gIE_some gIo_none gIo_some ev_app e_app1 e_appm e_app0 e_app01 ev_mk eMk ev_make
attribute [go_sem] ev_cutI e_cI e_cI1 e_cI2 ev_atJ e_atJ ev_viewD e_viewM ev_cutP e_cutP ev_emp e_emp ev_unc ev_cuS ev_cpy
attribute [go_sem] e_make ev_set ev_eqS ev_mm e_max e_min e_cat e_quo e_rem psh flatA flatR gL gLL gArgs List.getElem?_cons_zero
attribute [go_sem] List.getElem?_cons_succ List.getElem?_nil List.map_cons List.map_nil List.length_map List.length_cons List.length_nil List.nil_append List.cons_append Option.map_some Option.getD_some Option.getD_none Int.toNat_natCast Int.natCast_zero if_true Bool.not_true
attribute [go_sem] Bool.not_false not_false_eq_true not_true_eq_false true_implies false_implies implies_true and_true true_and Nat.add_sub_cancel_left decide_true decide_false List.all_cons List.all_nil Bool.and_true beq_self_eq_true Bool.and_self
end Go.Proofs.Ytkeoohonidpjeaa

