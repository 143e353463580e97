/- Proved: for every input the law 'FnExactRenameName' returns true and its arguments read behind the call as before: part 3 of its proof. No condition. -/
import Derived.WalkKit
import Derived.Lib.Hide
import Derived.WalkSpells
import Derived.Laws.OwnMore
import Derived.Deep.AppendLies
import Derived.Deep.Draws
import Derived.Maps.AppendAt
import Derived.RegionTactic
import Derived.OwnWalk
import Derived.Below
import Derived.Laws.AppendOwnNone
import Derived.Deep.QuietTactic
import Derived.BigQuiet
import Derived.StillTailTactics
import Derived.Laws.Cells
import Derived.Laws.IdiomCopy
import Derived.ChangeKeysEq
import Derived.Laws.BytesArg
import Derived.Laws.StructEq
import Derived.Laws.Tables
import Derived.Great.BuildSlice
import Derived.StillTail
import Derived.OrdersHeld
import Derived.Test.YtboheedjhnbnhaaProg
import Derived.Test.YtboheedjhnbnhaaExRenameNameQ2
set_option linter.unusedVariables false
set_option linter.unusedSimpArgs false
namespace Go.Proofs.Ytboheedjhnbnhaa
open Go.RowKit
theorem plug_one {α : Type} {off : Nat} {d : α} {e : List α} (h : off < e.length) : plug off [d] e = e.set off d:=by
  unfold plug
  rw [List.set_eq_take_append_cons_drop,if_pos h];simp
section
variable {P : Program} {N : Nat} {o : Oper} {ρ ρ' : List DV} {σ σ' : List Nat} {S S' : Sy} {s s' : AS} {ps : List PO} {K : List DV→Prop}
def sPut (S : Sy) (i st k x : Nat) (q : Nat × Nat × Nat × Nat) : Option (List PO × Sy) :=
  match S.own q.2.2.1 q.2.2.2 with
  | some (.row _ _ _ y)=>if q.2.2.1 ≠ i then some ([.flat y,.set k x q.1 q.2.1 [y]],{ S.bind 1 with ob:=(i,.opn st k S.m none) :: (q.2.2.1,.dead) :: S.ob }) else none
  | _=>none
theorem set_eval {k x j off y : Nat} {out : List DV} (h : evalP ρ (.set k x j off [y]) = some out) : ∃ t es kd z e d,ρ[x]? = some (.sl t k es)∧ρ[j]? = some (.sc (.int kd z))∧0≤z∧es[z.toNat]? = some e∧ρ[y]? = some d∧out = [.sl t k (es.set z.toNat (plug off [d] e))]:=by
  simp only [evalP,gL] at h
  split at h
  · rename_i t k' es kd z ds h1 h2 h3
    split at h
    · rename_i hc
      obtain ⟨rfl,h0,-⟩:=hc
      split at h
      · rename_i e he
        injection h with h;subst h
        cases hy : ρ[y]? with
        | none=>simp [hy] at h3
        | some d=>simp [hy] at h3;subst h3;exact ⟨t,es,kd,z,e,d,h1,h2,h0,he,rfl,rfl⟩
      · cases h
    · cases h
  · cases h
theorem sPut_ok {i st st' k x : Nat} {q : Nat × Nat × Nat × Nat} (h : sPut S i st k x q = some (ps,S')) (he : evalPs ps ρ = some ρ') (hr : Rel S ρ σ s) {a0 : Nat} (ho : S.own i st = some (.opn a0 k x (some q))) (hst : σ[st]? = some st') :
    ∃ s',Fz s s'∧Rel S' ρ' σ s'∧S'.own i st = some (.opn st k S.m none)∧s'.sl = s.sl:=by
  unfold sPut at h
  split at h
  · rename_i a t' k' y hn
    split at h
    · rename_i hne
      injection h with h;injection h with e1 e2;subst e1 e2
      obtain ⟨ρ1,a1,a2⟩:=evalPs_app (ps:=[.flat y]) (qs:=[.set k x q.1 q.2.1 [y]]) he
      obtain ⟨rfl,hfl⟩:=flat_eval a1
      obtain ⟨out,o1,rfl⟩:=evalPs_one a2
      obtain ⟨t,es,kd,z,e,d,b1,b2,b3,b4,b5,rfl⟩:=set_eval o1
      have b:=0
      · obtain ⟨o',k1,k2,k3,k4⟩:=hr.own ho hst
        cases o' <;> first | exact k2.elim | skip
        rename_i b' ty kk es' q'
        obtain ⟨c1,rfl,c3,c4⟩:=k2
        obtain rfl:=own_stV k1 rfl
        obtain ⟨j,off,n,sn⟩:=q
        cases q' with
        | none=>exact c4.elim
        | some q' =>
          obtain ⟨j',off',n',sn'⟩:=q'
          obtain ⟨⟨kd',z',d1,d2,rfl⟩,rfl,rfl,d5⟩:=c4
          simp only at b2 hn hne
          rw [b2] at d1;injection d1 with d1;injection d1 with d1;injection d1 with _ d1;subst d1
          rw [b1] at c3;injection c3 with c3;injection c3 with f1 f2 f3;subst f1 f3
          obtain ⟨on,n1,n2,n3,n4⟩:=hr.own hn d5
          cases on <;> first | exact n2.elim | skip
          rename_i sb tb kb esb dpb
          obtain ⟨m1,rfl,rfl,rfl,m5⟩:=n2
          obtain rfl:=own_stV n1 rfl
          rw [m5] at b5;injection b5 with b5;subst b5
          refine ⟨{ s with ob:=upd (upd s.ob n' .dead) i (.opn b' t kk (es.set z.toNat (plug off' [DV.sl tb kb esb] e)) none) },fun w0 N a w E h=>?_,?_,?_,rfl⟩
          rotate_left
          · have hb:=hr.bind (out:=[DV.sl t kk (es.set z.toNat (plug off' [DV.sl tb kb esb] e))]) (k:=1) rfl
            have h1:=hb.upd (s':={ s with ob:=upd s.ob n' .dead }) (i:=n') (n':=S.n) (c':=S.c) (so:=.dead) (Pre.refl _) hb.c hb.n (Nat.le_refl _) n4 rfl (fun j hj=>upd_ne _ _ hj) trivial
            exact h1.upd (s':={ s with ob:=upd (upd s.ob n' .dead) i (.opn b' t kk (es.set z.toNat (plug off' [DV.sl tb kb esb] e)) none) }) (i:=i) (n':=S.n) (c':=S.c) (so:=.opn st kk S.m none) (Pre.refl _) h1.c h1.n (Nat.le_refl _) k4 rfl (fun j hj=>upd_ne _ _ hj)
              (by simp only [upd_same];exact ⟨hst,rfl,by rw [← hr.m];simp,trivial⟩)
          · unfold Sy.own;simp [alook,SO.st]
          · have hek : e.length = kk:=by
              obtain ⟨hin,hob,_⟩:=own?_some k1
              have:=h.obj i hin
              rw [hob] at this
              obtain ⟨_,_,_,_,_,h3,_⟩:=this
              exact h3 e (List.mem_of_getElem? b4)
            have hof : off' < kk:=by
              obtain ⟨hin,hob,_⟩:=own?_some k1
              have:=h.obj i hin
              rw [hob] at this
              obtain ⟨_,_,_,_,_,_,_,_,_,_,h8⟩:=this
              exact (h8 _ rfl).2.1
            rw [plug_one (by omega)]
            exact o_put h k1 n1 b4 (hfl _ _ _ m5)
    · cases h
  · cases h
theorem isL_eval {t k x : Nat} {out : List DV} (h : evalP ρ (.isL t k x) = some out) : out = []∧∃ es,ρ[x]? = some (.sl t k es)∧Flat es.flatten:=by
  simp only [evalP] at h
  split at h
  · rename_i t' k' es hx
    split at h
    · rename_i hc
      obtain ⟨rfl,rfl,hf⟩:=hc
      injection h with h;subst h
      refine ⟨rfl,es,hx,fun d hd=>?_⟩
      exact isScD_ok (List.all_eq_true.1 hf d hd)
    · cases h
  · cases h
def sIdxO (P : Program) (S : Sy) (t : TypeId) (x y : Operand) : Option (List PO × SV × Sy) :=
  match sev S y with
  | some (p,v,S1)=>(match dat v with
    | some ix=>(match sev S1 x with
      | some (p2,.p false [.own i st],S2)=>(match S2.own i st,(tel P t).map (·.2) with
        | some (.dx _ x),some k=>some (p ++ (p2 ++ [.isI ix,.chk k x ix]),.p false [.elt i st k ix 0],{ S2 with ob:=(i,.opn st k x none) :: S2.ob })
        | some (.opn _ k' x q),some k=>if k' = k then some (p ++ (p2 ++ [.isI ix,.chk k x ix]),.p false [.elt i st k ix 0],S2) else none
        | _,_=>none)
      | _=>none)
    | none=>none)
  | none=>none
theorem chk_eval {k x i : Nat} (h : evalPs [.isI i,.chk k x i] ρ = some ρ') : ρ' = ρ∧∃ t es kd z,ρ[x]? = some (.sl t k es)∧ρ[i]? = some (.sc (.int kd z))∧0≤z∧z.toNat < es.length:=by
  obtain ⟨ρ1,a1,a2⟩:=evalPs_app (ps:=[.isI i]) (qs:=[.chk k x i]) h
  obtain ⟨out,o1,rfl⟩:=evalPs_one a1
  obtain ⟨out2,o2,rfl⟩:=evalPs_one a2
  simp only [evalP] at o1
  split at o1
  · injection o1 with o1;subst o1
    rw [List.append_nil] at o2 ⊢
    simp only [evalP] at o2
    split at o2
    · rename_i t k' es kd z h1 h2
      split at o2
      · rename_i hc
        obtain ⟨rfl,c2,c3⟩:=hc
        injection o2 with o2;subst o2
        exact ⟨by simp,t,es,kd,z,h1,h2,c2,c3⟩
      · cases o2
    · cases o2
  · cases o1
theorem goes_idxO {t : TypeId} {x y : Operand} {v : SV} (ho : o.op = .indexAddr t x y) (h : sIdxO P S t x y = some (ps,v,S')) (hd : dB N o.dst = true) (hr : Rel S ρ σ s) (hw : WN P (ps.map .po) K ρ) : Goes P N o s (S'.put o.dst v) K:=by
  obtain ⟨ρ',he,hK⟩:=wn_po hw
  unfold sIdxO at h
  split at h
  · rename_i p v1 S1 hv
    split at h
    · rename_i ix hix
      split at h
      · rename_i p2 i st S2 hu
        split at h
        · rename_i a x' k hown htl
          injection h with h;injection h with e1 h;injection h with e2 e3;subst e1 e2 e3
          obtain ⟨ρ1,a1,a2⟩:=evalPs_app he
          obtain ⟨ρ2,b1,b2⟩:=evalPs_app a2
          obtain ⟨k1,k2⟩:=sev_ok hv a1 hr
          obtain ⟨m1,m2⟩:=sev_ok hu b1 k2
          obtain ⟨rfl,t',es,kd,z,c1,c2,c3,c4⟩:=chk_eval b2
          obtain ⟨yv,y1,y2⟩:=dat_rv hix (k1.mono (evalPs_pre b1) (Pre.refl _))
          rw [c2] at y2;injection y2 with y2;subst y2
          obtain ⟨zz,z1,z2⟩:=one_rv (c:=.own i st) rfl m1
          cases zz <;> first | exact z2.elim | skip
          rename_i i' st'
          obtain ⟨rfl,hst⟩:=z2
          obtain ⟨o',n1,n2,n3,n4⟩:=m2.own hown hst
          cases o' <;> first | exact n2.elim | skip
          rename_i b d
          obtain ⟨n5,n6⟩:=n2
          obtain rfl:=own_stV n1 rfl
          rw [c1] at n6;injection n6 with n6;subst n6
          have hs1 : AS.own? { s with ob:=upd s.ob i' (.opn b t' k es none) } i' b = some (.opn b t' k es none):=by
            have:=(own?_some n1).1
            unfold AS.own?;simp only [upd_same];rw [if_pos this];simp [Ob.st]
          have hrel:=m2.upd (s':={ s with ob:=upd s.ob i' (.opn b t' k es none) }) (i:=i') (n':=S2.n) (c':=S2.c) (so:=.opn st k x' none) (Pre.refl _) m2.c m2.n (Nat.le_refl _) n4 rfl (fun j hj=>upd_ne _ _ hj) (by simp only [upd_same];exact ⟨hst,rfl,c1,trivial⟩)
          refine goes_fz (s1:={ s with ob:=upd s.ob i' (.opn b t' k es none) }) (fun w0 N a w E h=>⟨E,h.see n1 rfl fun L hx=>see_opn hx⟩) ?_
          exact ⟨ρ',σ,_,(o_idx (x:=0) (ix:=0) (s:={ s with ob:=upd s.ob i' (.opn b t' k es none) }) ho z1 y1 hs1 htl c3 c4).toO (dB_ok hd),hrel.put ⟨rfl,⟨rfl,hst,rfl,⟨kd,z,c2,c3,rfl⟩,rfl⟩,trivial⟩,hK⟩
        · rename_i a k' x' q k hown htl
          split at h
          · rename_i hk;subst hk
            injection h with h;injection h with e1 h;injection h with e2 e3;subst e1 e2 e3
            obtain ⟨ρ1,a1,a2⟩:=evalPs_app he
            obtain ⟨ρ2,b1,b2⟩:=evalPs_app a2
            obtain ⟨k1,k2⟩:=sev_ok hv a1 hr
            obtain ⟨m1,m2⟩:=sev_ok hu b1 k2
            obtain ⟨rfl,t',es,kd,z,c1,c2,c3,c4⟩:=chk_eval b2
            obtain ⟨yv,y1,y2⟩:=dat_rv hix (k1.mono (evalPs_pre b1) (Pre.refl _))
            rw [c2] at y2;injection y2 with y2;subst y2
            obtain ⟨zz,z1,z2⟩:=one_rv (c:=.own i st) rfl m1
            cases zz <;> first | exact z2.elim | skip
            rename_i i' st'
            obtain ⟨rfl,hst⟩:=z2
            obtain ⟨o',n1,n2,n3,n4⟩:=m2.own hown hst
            cases o' <;> first | exact n2.elim | skip
            rename_i b ty kk es' q'
            obtain ⟨n5,rfl,n6,n7⟩:=n2
            obtain rfl:=own_stV n1 rfl
            rw [c1] at n6;injection n6 with n6;injection n6 with g1 g2 g3;subst g1 g3
            exact ⟨ρ',σ,_,(o_idx (x:=0) (ix:=0) ho z1 y1 n1 htl c3 c4).toO (dB_ok hd),m2.put ⟨rfl,⟨rfl,hst,rfl,⟨kd,z,c2,c3,rfl⟩,rfl⟩,trivial⟩,hK⟩
          · cases h
        · cases h
      · cases h
    · cases h
  · cases h
def sStO (P : Program) (S : Sy) (t : TypeId) (x y : Operand) : Option (List PO × Sy) :=
  match sev S x with
  | some (p,.p false [.elt i st k j off],S1)=>(match sev S1 y with
    | some (p2,v,S2)=>(match S2.own i st,dat v with
      | some (.opn _ k' x q),some v=>if k' = k∧off < k∧tsz P t = some 1 then some (p ++ (p2 ++ ([.idx k x j] ++ ([.sc (S2.m + off)] ++ ([.sc v] ++ [.set k x j off [v]])))),{ (S2.bind k).bind 1 with ob:=(i,.opn st k (S2.m + k) q) :: S2.ob }) else none
      | _,_=>none)
    | none=>none)
  | _=>none
theorem sc_eval {i : Nat} (h : evalPs [.sc i] ρ = some ρ') : ρ' = ρ∧∃ v,ρ[i]? = some (.sc v):=by
  obtain ⟨out,o1,rfl⟩:=evalPs_one h
  simp only [evalP] at o1
  split at o1
  · rename_i d hd
    split at o1
    · rename_i hs
      injection o1 with o1;subst o1
      obtain ⟨v,rfl⟩:=isScD_ok hs
      exact ⟨by simp,v,hd⟩
    · cases o1
  · cases o1
theorem rd_vars {out : List DV} {k off : Nat} (hm : ρ.length = S.m) (hk : out.length = k) (ho : off < k) {d : DV} (h : (ρ ++ out)[S.m + off]? = some d) : out[off]? = some d:=by
  rw [List.getElem?_append_right (by omega),hm] at h
  simpa using h
theorem goes_stO {t : TypeId} {x y : Operand} (ho : o.op = .store t x y) (hdn : o.dst = none) (h : sStO P S t x y = some (ps,S')) (hr : Rel S ρ σ s) (hw : WN P (ps.map .po) K ρ) : Goes P N o s S' K:=by
  obtain ⟨ρ',he,hK⟩:=wn_po hw
  unfold sStO at h
  split at h
  · rename_i p i st k j off S1 hv
    split at h
    · rename_i p2 v S2 hu
      split at h
      · rename_i a k' x' q v' hown hdat
        split at h
        · rename_i hc
          obtain ⟨rfl,hoff,hsz⟩:=hc
          injection h with h;injection h with e1 e2;subst e1 e2
          obtain ⟨ρ1,a1,a2⟩:=evalPs_app he
          obtain ⟨ρ2,b1,b2⟩:=evalPs_app a2
          obtain ⟨k1,k2⟩:=sev_ok hv a1 hr
          obtain ⟨m1,m2⟩:=sev_ok hu b1 k2
          obtain ⟨ρ3,c1,c2⟩:=evalPs_app (ps:=[PO.idx k' x' j]) b2
          obtain ⟨ρ4,d1,d2⟩:=evalPs_app (ps:=[PO.sc (S2.m + off)]) c2
          obtain ⟨ρ5,f1,f2⟩:=evalPs_app (ps:=[PO.sc v']) d2
          obtain ⟨out,g1,rfl⟩:=evalPs_one c1
          obtain ⟨rfl,u0,hu0⟩:=sc_eval d1
          obtain ⟨rfl,u1,hu1⟩:=sc_eval f1
          obtain ⟨out2,l1,rfl⟩:=evalPs_one f2
          obtain ⟨t0,es,kd,z,i1,i2,i3,i4,i5⟩:=idx_eval g1
          obtain ⟨t1,es1,kd1,z1,e,d,q1,q2,q3,q4,q5,rfl⟩:=set_eval l1
          have hp2 : Pre ρ2 (ρ2 ++ out):=Pre.app _ _
          rw [hp2.get i1] at q1;injection q1 with q1;injection q1 with r1 r2 r3;subst r1 r3
          rw [hp2.get i2] at q2;injection q2 with q2;injection q2 with q2;injection q2 with _ q2;subst q2
          rw [i4] at q4;injection q4 with q4;subst q4
          rw [hu1] at q5;injection q5 with q5;subst q5
          obtain ⟨zz,zz1,zz2⟩:=one_rv (c:=.elt i st k' j off) rfl (k1.mono (evalPs_pre b1) (Pre.refl _))
          cases zz <;> first | exact zz2.elim | skip
          rename_i i' st' kk' j' off'
          obtain ⟨rfl,hst,rfl,⟨kd2,z2,s1,s2,rfl⟩,rfl⟩:=zz2
          rw [i2] at s1;injection s1 with s1;injection s1 with s1;injection s1 with _ s1;subst s1
          obtain ⟨yv,y1,y2⟩:=dat_rv hdat (m1.mono hp2 (Pre.refl _))
          rw [hu1] at y2;injection y2 with y2;subst y2
          obtain ⟨o',n1,n2,n3,n4⟩:=m2.own hown hst
          cases o' <;> first | exact n2.elim | skip
          rename_i b ty kk es' q'
          obtain ⟨n5,rfl,n6,n7⟩:=n2
          obtain rfl:=own_stV n1 rfl
          rw [i1] at n6;injection n6 with n6;injection n6 with g1' g2' g3';subst g1' g3'
          have hold:=rd_vars m2.m i5 hoff hu0
          refine ⟨_,σ,_,o_st ho hdn zz1 n1 i4 hold y1 hsz,?_,hK⟩
          have hb:=(m2.bind i5).bind (out:=[DV.sl t0 kk (es.set z.toNat (plug off' [DV.sc u1] out))]) (k:=1) rfl
          have hm:=(m2.bind i5).m
          refine hb.upd (s':={ s with ob:=upd s.ob i' (.opn b t0 kk (es.set z.toNat (out.set off' (.sc u1))) q') }) (i:=i') (n':=S2.n) (c':=S2.c) (so:=.opn st kk (S2.m + kk) q) (Pre.refl _) hb.c hb.n (Nat.le_refl _) n4 rfl (fun j hj=>upd_ne _ _ hj) ?_
          simp only [upd_same]
          refine ⟨hst,rfl,?_,RH.mono ((Pre.app _ _).trans (Pre.app _ _)) (Pre.refl _) n7⟩
          rw [← plug_one (e:=out) (by rw [i5];exact hoff)]
          have : S2.m + kk = (ρ2 ++ out).length:=by rw [hm];rfl
          rw [this];simp
        · cases h
      · cases h
    · cases h
  · cases h
def nestT (P : Program) (t r : Nat) : Option (Nat × Nat):=match P.underlying t with
  | some (.slice _)=>tel P t
  | some (.struct fs)=>(fs.toList.find? fun f=>f.offset == r).bind fun f=>tel P f.type
  | _=>none
def sTkO (S : Sy) (i st k j x off el k' : Nat) : List PO × Sy :=
  ([.idx k x j,.isL el k' (S.m + off)],{ (S.bind k).push (.row S.c el k' (S.m + off)) with ob:=(i,.opn st k x (some (j,off,S.n,S.c))) :: ((S.bind k).push (.row S.c el k' (S.m + off))).ob })
theorem sTkO_ok {i st st' k j x off el k' : Nat} (hk : off < k) (he : evalPs (sTkO S i st k j x off el k').1 ρ = some ρ') (hr : Rel S ρ σ s) {a0 : Nat} (ho : S.own i st = some (.opn a0 k x none)) (hst : σ[st]? = some st') :
    ∃ s',Fz s s'∧Rel (sTkO S i st k j x off el k').2 ρ' (σ ++ [s.c]) s'∧s'.sl = s.sl:=by
  simp only [sTkO] at he ⊢
  obtain ⟨ρ1,a1,a2⟩:=evalPs_app (ps:=[PO.idx k x j]) (qs:=[PO.isL el k' (S.m + off)]) he
  obtain ⟨out,o1,rfl⟩:=evalPs_one a1
  obtain ⟨out2,o2,rfl⟩:=evalPs_one a2
  obtain ⟨rfl,xs,hx,hf⟩:=isL_eval o2
  rw [List.append_nil]
  obtain ⟨t0,es,kd,z,i1,i2,i3,i4,i5⟩:=idx_eval o1
  obtain ⟨o',n1,n2,n3,n4⟩:=hr.own ho hst
  cases o' <;> first | exact n2.elim | skip
  rename_i b ty kk es' q'
  obtain ⟨n5,rfl,n6,n7⟩:=n2
  obtain rfl:=own_stV n1 rfl
  cases q' with
  | some=>exact n7.elim
  | none =>
    rw [i1] at n6;injection n6 with n6;injection n6 with g1 g2 g3;subst g1 g3
    have hof:=rd_vars hr.m i5 hk hx
    have hne : i ≠ S.n:=by omega
    have hb:=((hr.bind i5).push (so:=.row S.c el k' (S.m + off)) (ob:=.row s.c el k' xs true) ⟨hr.last _,rfl,rfl,rfl,hx⟩)
    refine ⟨{ s.push (.row s.c el k' xs true) with ob:=upd (upd s.ob s.n (.row s.c el k' xs true)) i (.opn b t0 kk es (some (z.toNat,off,s.n,s.c))) },fun w0 N a w E h=>o_take h n1 i4 hof hf,?_,rfl⟩
    refine hb.upd (s':={ s.push (.row s.c el k' xs true) with ob:=upd (upd s.ob s.n (.row s.c el k' xs true)) i (.opn b t0 kk es (some (z.toNat,off,s.n,s.c))) }) (i:=i) (n':=((S.bind kk).push (.row S.c el k' (S.m + off))).n) (c':=((S.bind kk).push (.row S.c el k' (S.m + off))).c) (so:=.opn st kk x (some (j,off,S.n,S.c))) (Pre.refl _) hb.c hb.n (Nat.le_refl _) (by simp only [Sy.push,Sy.bind];omega) rfl (fun j hj=>by simp only [AS.push];rw [upd_ne _ _ hj]) ?_
    simp only [upd_same]
    exact ⟨(Pre.app _ _).get hst,rfl,(Pre.app _ _).get i1,⟨kd,z,(Pre.app _ _).get i2,i3,rfl⟩,rfl,hr.n,hr.last _⟩
abbrev SHole:=Option (Nat × Nat × Nat × Nat)
def sHole1 (S : Sy) (i st k j x off : Nat) (el : Option (Nat × Nat)) : Option (List PO × Sy × Nat × SHole) :=
  match el with
  | some (el,k')=>if off < k then some ((sTkO S i st k j x off el k').1,(sTkO S i st k j x off el k').2,x,some (j,off,S.n,S.c)) else none
  | none=>none
def sHole (S : Sy) (i st k j x off : Nat) (q : SHole) (el : Option (Nat × Nat)) : Option (List PO × Sy × Nat × SHole) :=
  match q with
  | none=>sHole1 S i st k j x off el
  | some (j',off',n,sn)=>if j' = j∧off' = off∧(S.own n sn).isSome then some ([],S,x,q) else (match sPut S i st k x (j',off',n,sn) with
    | some (p,S1)=>(match sHole1 S1 i st k j S.m off el with | some (p2,S2,x2,q2)=>some (p ++ p2,S2,x2,q2) | none=>none)
    | none=>none)
theorem sHole1_ok {i st st' k j x off x' : Nat} {q' : SHole} {el : Option (Nat × Nat)} (h : sHole1 S i st k j x off el = some (ps,S',x',q')) (he : evalPs ps ρ = some ρ') (hr : Rel S ρ σ s) {a0 : Nat} (ho : S.own i st = some (.opn a0 k x none)) (hst : σ[st]? = some st') :
    ∃ σ' s',Fz s s'∧Rel S' ρ' σ' s'∧Pre σ σ'∧(∃ a,S'.own i st = some (.opn a k x' q'))∧s'.sl = s.sl:=by
  unfold sHole1 at h
  split at h
  · split at h
    · rename_i hk
      injection h with h;injection h with e1 h;injection h with e2 h;injection h with e3 e4;subst e1 e2 e3 e4
      obtain ⟨s',f1,f2,f3⟩:=sTkO_ok hk he hr ho hst
      exact ⟨_,s',f1,f2,Pre.app _ _,⟨st,by unfold Sy.own;simp [sTkO,alook,SO.st]⟩,f3⟩
    · cases h
  · cases h
theorem sHole_ok {i st st' k j x off x' : Nat} {q q' : SHole} {el : Option (Nat × Nat)} (h : sHole S i st k j x off q el = some (ps,S',x',q')) (he : evalPs ps ρ = some ρ') (hr : Rel S ρ σ s) {a0 : Nat} (ho : S.own i st = some (.opn a0 k x q)) (hst : σ[st]? = some st') :
    ∃ σ' s',Fz s s'∧Rel S' ρ' σ' s'∧Pre σ σ'∧(∃ a,S'.own i st = some (.opn a k x' q'))∧s'.sl = s.sl:=by
  unfold sHole at h
  split at h
  · exact sHole1_ok h he hr ho hst
  · split at h
    · injection h with h;injection h with e1 h;injection h with e2 h;injection h with e3 e4;subst e1 e2 e3 e4
      simp only [evalPs] at he;injection he with he;subst he
      exact ⟨σ,s,fun _ _ _ _ E h=>⟨E,h⟩,hr,Pre.refl _,⟨a0,ho⟩,rfl⟩
    · split at h
      · rename_i p S1 hp
        split at h
        · rename_i p2 S2 x2 q2 h1
          injection h with h;injection h with e1 h;injection h with e2 h;injection h with e3 e4;subst e1 e2 e3 e4
          obtain ⟨ρ1,a1,a2⟩:=evalPs_app he
          obtain ⟨s1,f1,f2,f3,f4⟩:=sPut_ok hp a1 hr ho hst
          obtain ⟨σ2,s2,g1,g2,g3,g4,g5⟩:=sHole1_ok h1 a2 f2 f3 hst
          exact ⟨σ2,s2,f1.trans g1,g2,g3,g4,g5.trans f4⟩
        · cases h
      · cases h
def oSC (q : SHole) (j m : Nat) : Nat→List Value→Option (List PO × List SC)
  | _,[]=>some ([],[])
  | p,v :: vs=>(match oSC q j m (p + 1) vs with
    | some (l,cs)=>if isSc v then some (.sc (m + p) :: l,.d (m + p) :: cs) else (match q with
      | some (j',off,n,sn)=>if j' = j∧off = p then some (.flat (m + p) :: l,.own n sn :: cs) else none
      | none=>none)
    | none=>none)
theorem oSC_ok {q q' : SHole} {j m k : Nat} {out : List DV} {kd : IntKind} {z : Int} (hq : RH ρ σ q q') (hj : ρ[j]? = some (.sc (.int kd z))) (hm : ρ.length = m) (hl : out.length = k) :
    ∀ {vs : List Value} {p : Nat} {l : List PO} {cs : List SC} {ρ' : List DV},oSC q j m p vs = some (l,cs)→evalPs l (ρ ++ out) = some ρ'→p + vs.length≤k→ρ' = ρ ++ out∧∃ ys,ocells q' z.toNat p ((out.drop p).take vs.length) = some ys∧RCs (ρ ++ out) σ cs ys:=by
  intro vs
  induction vs with
  | nil =>
    intro p l cs ρ' h he hp
    simp only [oSC] at h
    injection h with h;injection h with e1 e2;subst e1 e2
    simp only [evalPs] at he;injection he with he;subst he
    exact ⟨rfl,[],by simp [ocells],trivial⟩
  | cons v vs ih =>
    intro p l cs ρ' h he hp
    simp only [List.length_cons] at hp
    have hpo : p < out.length:=by omega
    have hget : ∀ d,(ρ ++ out)[m + p]? = some d→out[p] = d:=fun d hd=>by
      rw [List.getElem?_append_right (by omega),hm] at hd
      simpa [List.getElem?_eq_getElem hpo] using hd
    simp only [oSC] at h
    split at h
    · rename_i l1 cs1 h1
      rw [List.length_cons,List.drop_eq_getElem_cons hpo,List.take_succ_cons]
      split at h
      · injection h with h;injection h with e1 e2;subst e1 e2
        obtain ⟨ρ1,a1,a2⟩:=evalPs_app (ps:=[PO.sc (m + p)]) he
        obtain ⟨rfl,u,hu⟩:=sc_eval a1
        obtain ⟨i1,ys,i2,i3⟩:=ih h1 a2 (by omega)
        refine ⟨i1,.d (.sc u) :: ys,?_,hu,i3⟩
        rw [hget _ hu]
        simp only [ocells,ocell,i2]
      · split at h
        · rename_i j' off n sn
          split at h
          · rename_i hc
            obtain ⟨rfl,rfl⟩:=hc
            injection h with h;injection h with e1 e2;subst e1 e2
            obtain ⟨ρ1,a1,a2⟩:=evalPs_app (ps:=[PO.flat (m + off)]) he
            obtain ⟨out1,o1,rfl⟩:=evalPs_one a1
            simp only [evalP] at o1
            split at o1
            · rename_i t1 k1 es1 hu
              split at o1
              · injection o1 with o1;subst o1
                rw [List.append_nil] at a2
                obtain ⟨i1,ys,i2,i3⟩:=ih h1 a2 (by omega)
                cases q' with
                | none=>exact hq.elim
                | some q' =>
                  obtain ⟨j2,off2,n2,sn2⟩:=q'
                  obtain ⟨⟨kd2,z2,q1,q2,rfl⟩,rfl,rfl,q5⟩:=hq
                  rw [hj] at q1;injection q1 with q1;injection q1 with q1;injection q1 with _ q1;subst q1
                  refine ⟨i1,.own n2 sn2 :: ys,?_,⟨rfl,q5⟩,i3⟩
                  rw [hget _ hu]
                  simp only [ocells,ocell,i2,and_self,if_true]
              · cases o1
            · cases o1
          · cases h
        · cases h
    · cases h
def sLdO (P : Program) (S : Sy) (t : TypeId) (X : Operand) : Option (List PO × SV × Sy) :=
  match sev S X with
  | some (p,.p false [.elt i st k j off],S1)=>(match S1.own i st,tzero P t,tagg P t with
    | some (.opn _ k' x q),some zs,some ag=>if k' = k∧off + zs.length≤k∧tsz P t = some zs.length∧(ag = false→zs.length = 1) then
        (match (if zs.all isSc then some ([],S1,x,q) else sHole S1 i st k j x (off + zs.findIdx fun v=>!isSc v) q (nestT P t (zs.findIdx fun v=>!isSc v))) with
        | some (p2,S2,x2,q2)=>(match oSC q2 j S2.m off zs with | some (l,cs)=>some (p ++ (p2 ++ ([.idx k x2 j] ++ l)),.p ag cs,S2.bind k) | none=>none)
        | none=>none) else none
    | _,_,_=>none)
  | _=>none
theorem goes_ldO {t : TypeId} {X : Operand} {v : SV} (ho : o.op = .load t X) (h : sLdO P S t X = some (ps,v,S')) (hd : dB N o.dst = true) (hr : Rel S ρ σ s) (hw : WN P (ps.map .po) K ρ) : Goes P N o s (S'.put o.dst v) K:=by
  obtain ⟨ρ',he,hK⟩:=wn_po hw
  unfold sLdO at h
  split at h
  · rename_i p i st k j off S1 hv
    split at h
    · rename_i a k' x q zs ag hown htz hag
      split at h
      · rename_i hc
        obtain ⟨rfl,hlen,hsz,hm1⟩:=hc
        split at h
        · rename_i p2 S2 x2 q2 hh
          split at h
          · rename_i l cs hsc
            injection h with h;injection h with e1 h;injection h with e2 e3;subst e1 e2 e3
            obtain ⟨ρ1,a1,a2⟩:=evalPs_app he
            obtain ⟨ρ2,b1,b2⟩:=evalPs_app a2
            obtain ⟨ρ3,c1,c2⟩:=evalPs_app (ps:=[PO.idx k' x2 j]) b2
            obtain ⟨k1,k2⟩:=sev_ok hv a1 hr
            obtain ⟨zz,zz1,zz2⟩:=one_rv (c:=.elt i st k' j off) rfl k1
            cases zz <;> first | exact zz2.elim | skip
            rename_i i' st' kk' j' off'
            obtain ⟨rfl,hst,hkk,⟨kd,z,s1,s2,hjj⟩,hoff⟩:=zz2
            subst hkk hjj hoff
            have hx : ∃ σ' s',Fz s s'∧Rel S2 ρ2 σ' s'∧Pre σ σ'∧(∃ a,S2.own i' st = some (.opn a kk' x2 q2))∧s'.sl = s.sl:=by
              split at hh
              · injection hh with hh;injection hh with e1 hh;injection hh with e2 hh;injection hh with e3 e4;subst e1 e2 e3 e4
                simp only [evalPs] at b1;injection b1 with b1;subst b1
                exact ⟨σ,s,fun _ _ _ _ E h=>⟨E,h⟩,k2,Pre.refl _,⟨a,hown⟩,rfl⟩
              · exact sHole_ok hh b1 k2 hown hst
            obtain ⟨σ',s',f1,f2,f3,⟨a',f4⟩,f5⟩:=hx
            obtain ⟨out,g1,rfl⟩:=evalPs_one c1
            obtain ⟨t0,es,kd1,z1,i1,i2,i3,i4,i5⟩:=idx_eval g1
            have s1':=(evalPs_pre b1).get s1
            rw [s1'] at i2;injection i2 with i2;injection i2 with i2;injection i2 with _ i2;subst i2
            obtain ⟨o',n1,n2,n3,n4⟩:=f2.own f4 (f3.get hst)
            cases o' <;> first | exact n2.elim | skip
            rename_i b ty kk es' q'
            obtain ⟨n5,hkk,n6,n7⟩:=n2
            subst hkk
            obtain rfl:=own_stV n1 rfl
            rw [i1] at n6;injection n6 with n6;injection n6 with g1' g2' g3';subst g1' g3'
            obtain ⟨rfl,ys,y1,y2⟩:=oSC_ok n7 s1' f2.m i5 hsc c2 hlen
            have hev : s'.ev X = .p false [.elt i' b kk z.toNat off']:=by
              rw [← zz1]
              unfold AS.ev
              rw [f5]
            refine goes_fz f1 ⟨_,σ',_,(o_ld (P:=P) ho hev n1 i4 hag hsz hm1 hlen y1).toO (dB_ok hd),(f2.bind i5).put ⟨rfl,y2⟩,hK⟩
          · cases h
        · cases h
      · cases h
    · cases h
  · cases h
def sOpO (P : Program) (S : Sy) (o : Oper) : Option (List PO × Sy) :=
  match o.op with
  | .indexAddr t x y=>(match sIdxO P S t x y with | some (ps,v,S')=>some (ps,S'.put o.dst v) | none=>none)
  | .load t x=>(match sLdO P S t x with | some (ps,v,S')=>some (ps,S'.put o.dst v) | none=>none)
  | .store t x y=>(match o.dst with | none=>sStO P S t x y | some _=>none)
  | _=>none
def sOpX (P : Program) (ow : OwK) (S : Sy) (o : Oper) : Option (List Nd × Sy) :=
  match sOpO P S o with
  | some (ps,S')=>some (ps.map .po,S')
  | none=>sOp P ow S o
theorem sOpX_ok {ow : OwK} {nds : List Nd} (h : sOpX P ow S o = some (nds,S')) (hd : dB N o.dst = true) (hr : Rel S ρ σ s) (hw : WN P nds K ρ) : Goes P N o s S' K:=by
  unfold sOpX at h
  split at h
  · rename_i ps S1 hx
    injection h with h;injection h with e1 e2;subst e1 e2
    unfold sOpO at hx
    split at hx
    · rename_i t x y ho
      split at hx
      · rename_i hi;injection hx with hx;injection hx with e1 e2;subst e1 e2;exact goes_idxO ho hi hd hr hw
      · cases hx
    · rename_i t x ho
      split at hx
      · rename_i hi;injection hx with hx;injection hx with e1 e2;subst e1 e2;exact goes_ldO ho hi hd hr hw
      · cases hx
    · rename_i t x y ho
      split at hx
      · rename_i hdn;exact goes_stO ho hdn hx hr hw
      · cases hx
    · cases hx
  · exact sOp_ok h hd hr hw
end
end Go.Proofs.Ytboheedjhnbnhaa
namespace Go.Proofs.Ytboheedjhnbnhaa
open Go.RowKit
theorem re_nilrow {s : AS} {el k t : Nat} (hk : 0 < k) (ht : s.sl t = .p false [.nil]) : Re s { s.push (.row s.c el k [] true) with sl:=upd s.sl t (.p false [.own s.n s.c]) }:=by
  intro w0 N a w E hr
  have h1:=push_nil (el:=el) hr hk
  refine ⟨_,⟨h1.size,h1.defers,h1.bel,h1.obj,fun q=>?_,h1.A_lt,h1.A_m,h1.A_o,h1.mm,h1.oo,h1.m_lt,h1.anc,h1.mF,h1.oF⟩⟩
  by_cases e : q = t
  · subst e
    simp only [upd_same]
    refine slot_one_mk ⟨by simp [AS.push],fun _=>?_⟩
    have:=hr.slot q
    rw [ht] at this
    obtain h2 : a.tmps.getD q undef = .slice none 0 0:=slot_one this
    simp only [upd_same];exact h2
  · simp only [upd_ne _ _ e];exact h1.slot q
theorem re_nilcell {s : AS} {el k i j st t : Nat} {cs : List AC} (hk : 0 < k) (hi : s.own? i st = some (.var st t cs)) (hj : cs[j]? = some .nil) :
    Re s { s.push (.row s.c el k [] true) with ob:=upd (upd s.ob s.n (.row s.c el k [] true)) i (.var st t (cs.set j (.own s.n s.c))) }:=by
  intro w0 N a w E hr
  have h1:=push_nil (el:=el) hr hk
  obtain ⟨hin,hob,hlv⟩:=own?_some hi
  have hne : i ≠ s.n:=by omega
  have hlt : i < (s.push (.row s.c el k [] true)).n:=by simp [AS.push];omega
  have hO:=h1.obj i hlt
  have hob' : (s.push (.row s.c el k [] true)).ob i = .var st t cs:=by simp only [AS.push,upd_ne _ _ hne];exact hob
  rw [hob'] at hO
  obtain ⟨g,vals,q0,q1,q2,q3,q4,q5,q6⟩:=hO
  have hlvs : AS.lv { s.push (.row s.c el k [] true) with ob:=upd (upd s.ob s.n (.row s.c el k [] true)) i (.var st t (cs.set j (.own s.n s.c))) } = (s.push (.row s.c el k [] true)).lv:=by
    funext q
    unfold AS.lv
    by_cases e : q = i
    · subst e;simp only [AS.push,upd_same,upd_ne _ _ hne,hob,Ob.st]
    · simp only [AS.push,upd_ne _ _ e];rfl
  refine ⟨_,⟨h1.size,h1.defers,h1.bel,fun q hq=>?_,fun q=>?_,h1.A_lt,h1.A_m,h1.A_o,h1.mm,h1.oo,h1.m_lt,h1.anc,h1.mF,h1.oF⟩⟩
  · rw [hlvs]
    by_cases e : q = i
    · subst e
      simp only [upd_same]
      refine ⟨g,vals,q0,q1,q2,q3,q4,q5,by rw [List.length_set];exact q6.1,fun m x u hx hu=>?_⟩
      rw [List.getElem?_set] at hx
      split at hx
      · rename_i hjm
        subst hjm
        split at hx
        · injection hx with hx;subst hx
          refine ⟨by simp [AS.push],fun _=>?_⟩
          obtain h2 : u = .slice none 0 0:=q6.2 j _ u hj hu
          simp only [upd_same];exact h2
        · cases hx
      · exact q6.2 m x u hx hu
    · simp only [upd_ne _ _ e];exact h1.obj q hq
  · rw [hlvs];exact h1.slot q
section
variable {P : Program} {N : Nat} {ρ ρ' : List DV} {σ σ' : List Nat} {S S' : Sy} {s s' : AS}
structure Nl where
  slot : Bool
  i : Nat
  j : Nat
  el : Nat
  k : Nat
def dRows : List (List SC)→Option (List (List Nat))
  | []=>some []
  | e :: r=>match dds e,dRows r with | some x,some xs=>some (x :: xs) | _,_=>none
def sArr (S : Sy) (x : Nl) : List PO × Sy :=
  match alook S.sl x.i with
  | some (.p false [.own i st])=>(match S.own i st with
    | some (.arr a t k es)=>(match dRows es with
      | some rows=>(rows.flatten.map .sc ++ [.mk t k rows],{ (S.bind 1) with ob:=(i,.row a t k S.m) :: S.ob })
      | none=>([],S))
    | _=>([],S))
  | some (.p false [.sub i st k z m])=>(match S.own i st with
    | some (.row a t k' y)=>if k' = k then ([.cutP y z m],{ (S.bind 1) with ob:=(i,.row S.c t k S.m) :: S.ob,c:=S.c + 1 }.put (some x.i) (.p false [.own i S.c])) else ([],S)
    | _=>([],S))
  | _=>([],S)
theorem re_cut {s : AS} {i st t k n q : Nat} {es : List (List DV)} (hi : s.own? i st = some (.row st t k es true)) (hs : s.sl q = .p false [.sub i st k 0 n]) (hn : n≤es.length) :
    Re s { (s.cut i t k n es) with sl:=upd s.sl q (.p false [.own i s.c]) }:=by
  intro w0 N a w E hr
  obtain ⟨hin,hob,hlv⟩:=own?_some hi
  have h0:=hr.slot q
  rw [hs] at h0
  obtain ⟨A,M,cp,B,e2,e3,e4,e5,e6⟩:=(slot_one h0).2 hlv
  obtain rfl:=e5 rfl
  obtain ⟨o',hp⟩:=cut_ok hr hi e2 hn
  refine ⟨_,⟨hp.size,hp.defers,hp.bel,hp.obj,fun p=>?_,hp.A_lt,hp.A_m,hp.A_o,hp.mm,hp.oo,hp.m_lt,hp.anc,hp.mF,hp.oF⟩⟩
  by_cases e : p = q
  · subst e
    simp only [upd_same]
    exact slot_one_mk ⟨by simp [AS.cut],fun _=>by simp only [upd_same];rw [e4];rfl⟩
  · simp only [upd_ne _ _ e];exact hp.slot p
theorem scs_ok0 : ∀ {ds : List Nat} {ρ ρ' : List DV},evalPs (ds.map .sc) ρ = some ρ'→ρ' = ρ∧∀ i ∈ ds,∃ v,ρ[i]? = some (.sc v)
  | [],ρ,ρ',h=>by simp only [List.map_nil,evalPs] at h;injection h with h;exact ⟨h.symm,by simp⟩
  | i :: ds,ρ,ρ',h=>by
    simp only [List.map_cons,evalPs] at h
    split at h
    · rename_i out ho
      simp only [evalP] at ho
      split at ho
      · rename_i d hd
        split at ho
        · rename_i hs
          injection ho with ho;subst ho
          rw [List.append_nil] at h
          obtain ⟨e,ih⟩:=scs_ok0 h
          refine ⟨e,fun j hj=>?_⟩
          rcases List.mem_cons.1 hj with rfl | hj
          · cases d with
            | sc v=>exact ⟨v,hd⟩
            | sl=>cases hs
          · exact ih j hj
        · cases ho
      · cases ho
    · cases h
theorem gL_mem : ∀ {is : List Nat} {xs : List DV},gL ρ is = some xs→∀ d ∈ xs,∃ i ∈ is,ρ[i]? = some d
  | [],xs,h,d,hd=>by simp only [gL] at h;injection h with h;subst h;cases hd
  | i :: is,xs,h,d,hd=>by
    simp only [gL] at h
    split at h
    · rename_i x xs' h1 h2;injection h with h;subst h
      rcases List.mem_cons.1 hd with rfl | hd
      · exact ⟨i,List.mem_cons_self ..,h1⟩
      · obtain ⟨j,k1,k2⟩:=gL_mem h2 d hd;exact ⟨j,List.mem_cons_of_mem _ k1,k2⟩
    · cases h
theorem gLL_mem : ∀ {is : List (List Nat)} {xs : List (List DV)},gLL ρ is = some xs→∀ d ∈ xs.flatten,∃ i ∈ is.flatten,ρ[i]? = some d
  | [],xs,h,d,hd=>by simp only [gLL] at h;injection h with h;subst h;cases hd
  | i :: is,xs,h,d,hd=>by
    simp only [gLL] at h
    split at h
    · rename_i x xs' h1 h2;injection h with h;subst h
      rw [List.flatten_cons,List.mem_append] at hd
      rw [List.flatten_cons]
      rcases hd with hd | hd
      · obtain ⟨j,k1,k2⟩:=gL_mem h1 d hd;exact ⟨j,List.mem_append_left _ k1,k2⟩
      · obtain ⟨j,k1,k2⟩:=gLL_mem h2 d hd;exact ⟨j,List.mem_append_right _ k1,k2⟩
    · cases h
theorem dRows_rv : ∀ {es : List (List SC)} {rows : List (List Nat)} {ys : List (List AC)},dRows es = some rows→RLL ρ σ es ys→∃ ds,ys = ds.map (fun e=>e.map .d)∧gLL ρ rows = some ds
  | [],rows,ys,h,hl=>by
    simp only [dRows] at h;injection h with h;subst h
    cases ys with
    | nil=>exact ⟨[],rfl,rfl⟩
    | cons=>exact hl.elim
  | e :: r,rows,[],h,hl=>hl.elim
  | e :: r,rows,y :: ys,h,hl=>by
    simp only [dRows] at h
    split at h
    · rename_i x xs h1 h2;injection h with h;subst h
      obtain ⟨d,rfl,k1⟩:=dds_rv h1 hl.1
      obtain ⟨ds,rfl,k2⟩:=dRows_rv h2 hl.2
      exact ⟨d :: ds,rfl,by simp only [gLL,rd_gL k1,k2]⟩
    · cases h
theorem sArr_ok {x : Nl} (he : evalPs (sArr S x).1 ρ = some ρ') (hr : Rel S ρ σ s) : ∃ σ' s',Re s s'∧Rel (sArr S x).2 ρ' σ' s':=by
  have triv : evalPs [] ρ = some ρ'→∃ σ' s',Re s s'∧Rel S ρ' σ' s':=fun h=>by
    simp only [evalPs] at h;injection h with h;subst h;exact ⟨σ,s,Re.refl _,hr⟩
  unfold sArr at he ⊢
  split
  · rename_i i st hsl
    simp only [hsl] at he
    split
    · rename_i a t k es ho
      simp only [ho] at he
      split
      · rename_i rows hrw
        simp only [hrw] at he
        obtain ⟨ρ1,a1,a2⟩:=evalPs_app he
        obtain ⟨rfl,hsc⟩:=scs_ok0 a1
        obtain ⟨out,o1,rfl⟩:=evalPs_one a2
        obtain ⟨y,y1,y2⟩:=one_rv (c:=.own i st) rfl (hr.sl _ _ hsl)
        cases y <;> first | exact y2.elim | skip
        obtain ⟨rfl,hst⟩:=y2
        obtain ⟨o',k1,k2,k3,k4⟩:=hr.own ho hst
        cases o' <;> first | exact k2.elim | skip
        rename_i b ty kk ys
        obtain ⟨k5,rfl,rfl,k6⟩:=k2
        obtain rfl:=own_stV k1 rfl
        obtain ⟨ds,rfl,hds⟩:=dRows_rv hrw k6
        simp only [evalP,hds] at o1
        split at o1
        · injection o1 with o1;subst o1
          have hfl : Flat ds.flatten:=fun d hd=>by
            obtain ⟨j,j1,j2⟩:=gLL_mem hds d hd
            obtain ⟨v,hv⟩:=hsc j j1
            rw [j2] at hv;injection hv with hv;exact ⟨v,hv⟩
          refine ⟨σ,{ s with ob:=upd s.ob _ (.row b ty kk ds true) },fun w0 N a w E h=>⟨_,arr_row h k1 hfl⟩,?_⟩
          have hb:=hr.bind (out:=[DV.sl ty kk ds]) (k:=1) rfl
          exact hb.upd (s':={ s with ob:=upd s.ob _ (.row b ty kk ds true) }) (n':=S.n) (c':=S.c) (so:=.row a ty kk S.m) (Pre.refl _) hb.c hb.n (Nat.le_refl _) k4 rfl (fun j hj=>upd_ne _ _ hj)
            (by simp only [upd_same];exact ⟨k5,rfl,rfl,rfl,by rw [← hr.m];simp⟩)
        · cases o1
      · rename_i hrw
        simp only [hrw] at he
        exact triv he
    · rename_i hno
      split at he
      · rename_i a t k es ho;exact absurd ho (hno _ _ _ _)
      · exact triv he
  · rename_i i st k z m hsl
    simp only [hsl] at he
    split
    · rename_i a t k' y ho
      simp only [ho] at he
      split
      · rename_i hk
        rw [if_pos hk] at he
        subst hk
        obtain ⟨out,o1,rfl⟩:=evalPs_one he
        obtain ⟨c,c1,c2⟩:=one_rv (c:=.sub i st _ z m) rfl (hr.sl _ _ hsl)
        cases c <;> first | exact c2.elim | skip
        obtain ⟨rfl,hst,rfl,⟨u',e1,e2,rfl⟩,⟨v',e3,e4,rfl⟩⟩:=c2
        obtain ⟨o',k1,k2,k3,k4⟩:=hr.own ho hst
        cases o' <;> first | exact k2.elim | skip
        rename_i b ty kk es dp
        obtain ⟨k5,rfl,rfl,rfl,k6⟩:=k2
        obtain rfl:=own_stV k1 rfl
        simp only [evalP,k6,e1,e3] at o1
        split at o1
        · rename_i hc
          obtain ⟨hu0,hle⟩:=hc
          subst hu0
          injection o1 with o1;subst o1
          refine ⟨σ ++ [s.c],_,re_cut k1 c1 hle,?_⟩
          have hb:=hr.bind (out:=[DV.sl ty kk (es.take v'.toNat)]) (k:=1) rfl
          have h2:=hb.upd (s':=s.cut _ ty kk v'.toNat es) (n':=S.n) (c':=S.c + 1) (so:=.row S.c ty kk S.m) (Pre.app _ [s.c]) (by have:=hr.c;simp at this ⊢;omega) hb.n (Nat.le_refl _) k4 rfl (fun j hj=>upd_ne _ _ hj)
            (by simp only [AS.cut,upd_same];exact ⟨hr.last _,rfl,rfl,rfl,by rw [← hr.m];simp⟩)
          exact h2.put (d:=some x.i) (v:=.p false [.own _ S.c]) (x:=.p false [.own _ s.c]) ⟨rfl,⟨rfl,hr.last _⟩,trivial⟩
        · cases o1
      · rename_i hk
        rw [if_neg hk] at he
        exact triv he
    · rename_i hno
      split at he
      · rename_i a t k' y ho;exact absurd ho (hno _ _ _ _)
      · exact triv he
  · rename_i hno hno2
    split at he
    · rename_i i st hsl;exact absurd hsl (hno _ _)
    · rename_i i st k z m hsl;exact absurd hsl (hno2 _ _ _ _ _)
    · exact triv he
def sCls (S : Sy) (t : Nat) : List PO × Sy :=
  match alook S.sl t with
  | some (.p false [.own i st])=>(match S.own i st with
    | some (.opn _ _ x none)=>([],{ S with ob:=(i,.dx st x) :: S.ob })
    | some (.opn _ k x (some q))=>(match sPut S i st k x q with
      | some (p,S1)=>(p,{ S1 with ob:=(i,.dx st S.m) :: S1.ob })
      | none=>([],S))
    | _=>([],S))
  | _=>([],S)
theorem sSee_ok {i st a k x st' : Nat} (hr : Rel S ρ σ s) (ho : S.own i st = some (.opn a k x none)) (hst : σ[st]? = some st') : ∃ s',Re s s'∧Rel { S with ob:=(i,.dx st x) :: S.ob } ρ σ s':=by
  obtain ⟨o',n1,n2,n3,n4⟩:=hr.own ho hst
  cases o' <;> first | exact n2.elim | skip
  rename_i b ty kk es q'
  obtain ⟨n5,rfl,n6,n7⟩:=n2
  obtain rfl:=own_stV n1 rfl
  cases q' with
  | some=>exact n7.elim
  | none=>exact ⟨{ s with ob:=upd s.ob i (.dx b (.sl ty kk es)) },fun w0 N a w E h=>⟨E,h.see n1 rfl fun L hx=>see_dx hx⟩,
      hr.upd (s':={ s with ob:=upd s.ob i (.dx b (.sl ty kk es)) }) (i:=i) (n':=S.n) (c':=S.c) (so:=.dx st x) (Pre.refl _) hr.c hr.n (Nat.le_refl _) n4 rfl (fun j hj=>upd_ne _ _ hj) (by simp only [upd_same];exact ⟨hst,n6⟩)⟩
theorem sCls_ok {t : Nat} (he : evalPs (sCls S t).1 ρ = some ρ') (hr : Rel S ρ σ s) : ∃ σ' s',Re s s'∧Rel (sCls S t).2 ρ' σ' s':=by
  have triv : evalPs [] ρ = some ρ'→∃ σ' s',Re s s'∧Rel S ρ' σ' s':=fun h=>by
    simp only [evalPs] at h;injection h with h;subst h;exact ⟨σ,s,Re.refl _,hr⟩
  have hst : ∀ {i st},alook S.sl t = some (.p false [.own i st])→∃ st',σ[st]? = some st':=fun hl=>by
    obtain ⟨y,y1,y2⟩:=one_rv (c:=.own _ _) rfl (hr.sl _ _ hl)
    cases y <;> first | exact y2.elim | exact ⟨_,y2.2⟩
  unfold sCls at he ⊢
  split
  · rename_i i st hsl
    simp only [hsl] at he
    obtain ⟨st',hst⟩:=hst hsl
    split
    · rename_i a k x ho
      simp only [ho] at he
      simp only [evalPs] at he;injection he with he;subst he
      obtain ⟨s',h1,h2⟩:=sSee_ok hr ho hst
      exact ⟨σ,s',h1,h2⟩
    · rename_i a k x q ho
      simp only [ho] at he
      split
      · rename_i p S1 hp
        simp only [hp] at he
        obtain ⟨s1,f1,f2,f3,f4⟩:=sPut_ok hp he hr ho hst
        obtain ⟨s2,h1,h2⟩:=sSee_ok f2 f3 hst
        exact ⟨σ,s2,fun w0 N a w E h=>by obtain ⟨E1,r1⟩:=f1 w0 N a w E h;exact h1 w0 N a w E1 r1,h2⟩
      · rename_i hp
        simp only [hp] at he
        exact triv he
    · rename_i hn1 hn2
      split at he
      · rename_i ho;exact absurd ho (hn1 _ _ _)
      · rename_i ho;exact absurd ho (hn2 _ _ _ _)
      · exact triv he
  · rename_i hn
    split at he
    · rename_i hl;exact absurd hl (hn _ _)
    · exact triv he
def sNil1 (S : Sy) (x : Nl) : List PO × Sy :=
  if x.k = 0∧x.j = 7 then sCls S x.i else if 0 < x.k then (if x.slot then (match alook S.sl x.i with
    | some (.p false [.nil])=>([.e x.el x.k],((S.bind 1).push (.row S.c x.el x.k S.m)).put (some x.i) (.p false [.own S.n S.c]))
    | _=>([],S))
  else (match alook S.ob x.i with
    | some (.var st t cs)=>(match cs[x.j]? with
      | some .nil=>([.e x.el x.k],{ ((S.bind 1).push (.row S.c x.el x.k S.m)) with ob:=(x.i,.var st t (cs.set x.j (.own S.n S.c))) :: ((S.bind 1).push (.row S.c x.el x.k S.m)).ob })
      | _=>([],S))
    | _=>([],S))) else sArr S x
theorem RCs.set {cs : List SC} {ys : List AC} {c : SC} {y : AC} (h : RCs ρ σ cs ys) (hc : RC ρ σ c y) : ∀ j,RCs ρ σ (cs.set j c) (ys.set j y):=by
  intro j
  induction j generalizing cs ys with
  | zero=>match cs,ys,h with
    | [],[],_=>exact trivial
    | x :: xs,y' :: ys,h=>exact ⟨hc,h.2⟩
  | succ j ih=>match cs,ys,h with
    | [],[],_=>exact trivial
    | x :: xs,y' :: ys,h=>exact ⟨h.1,ih h.2⟩
theorem sNil1_ok {x : Nl} (he : evalPs (sNil1 S x).1 ρ = some ρ') (hr : Rel S ρ σ s) : ∃ σ' s',Re s s'∧Rel (sNil1 S x).2 ρ' σ' s':=by
  unfold sNil1 at he ⊢
  split
  · rename_i hk;rw [if_pos hk] at he;exact sCls_ok he hr
  rename_i hk7
  rw [if_neg hk7] at he
  split
  · rename_i hk
    rw [if_pos hk] at he
    split
    · rename_i hs
      rw [if_pos hs] at he
      split
      · rename_i hn
        rw [hn] at he
        simp only [evalPs,evalP] at he;injection he with he;subst he
        have h1:=hr.sl _ _ hn
        cases hx : s.sl x.i with
        | p b cs =>
          rw [hx] at h1
          obtain ⟨rfl,h1⟩:=h1
          match cs,h1 with
          | [c],h1 =>
            cases c <;> first | exact h1.1.elim | skip
            refine ⟨σ ++ [s.c],_,re_nilrow (el:=x.el) hk hx,?_⟩
            have:=((hr.bind (out:=[DV.sl x.el x.k []]) (k:=1) rfl).push (so:=.row S.c x.el x.k S.m) (ob:=.row s.c x.el x.k [] true) ⟨hr.last _,rfl,rfl,rfl,by rw [← hr.m];simp⟩).put (d:=some x.i) (v:=.p false [.own S.n S.c]) (x:=.p false [.own s.n s.c]) ⟨rfl,⟨hr.n,hr.last _⟩,trivial⟩
            exact this
        | tup=>rw [hx] at h1;exact h1.elim
        | und=>rw [hx] at h1;exact h1.elim
      · rename_i hn
        have : evalPs [] ρ = some ρ':=by
          revert he;split
          · rename_i h;exact absurd h (by simpa using hn)
          · exact id
        simp only [evalPs] at this;injection this with this;subst this
        exact ⟨σ,s,Re.refl _,hr⟩
    · rename_i hs
      rw [if_neg hs] at he
      split
      · rename_i st t cs ho
        rw [ho] at he
        simp only at he
        split
        · rename_i hj
          rw [hj] at he
          simp only [evalPs,evalP] at he;injection he with he;subst he
          obtain ⟨hlt,h1⟩:=hr.ob _ _ ho
          cases hx : s.ob x.i with
          | var st' t' ys =>
            rw [hx] at h1
            obtain ⟨h2,rfl,h3⟩:=h1
            obtain ⟨y,y1,y2⟩:=h3.get hj
            cases y <;> first | exact y2.elim | skip
            have hown : s.own? x.i st' = some (.var st' t' ys):=by
              unfold AS.own?;rw [hr.n,if_pos hlt,hx];simp [Ob.st]
            refine ⟨σ ++ [s.c],_,re_nilcell (el:=x.el) hk hown y1,?_⟩
            have hb:=(hr.bind (out:=[DV.sl x.el x.k []]) (k:=1) rfl).push (so:=.row S.c x.el x.k S.m) (ob:=.row s.c x.el x.k [] true) ⟨hr.last _,rfl,rfl,rfl,by rw [← hr.m];simp⟩
            refine hb.upd (s':={ s.push (.row s.c x.el x.k [] true) with ob:=upd (upd s.ob s.n (.row s.c x.el x.k [] true)) x.i (.var st' t' (ys.set x.j (.own s.n s.c))) }) (i:=x.i) (n':=((S.bind 1).push (.row S.c x.el x.k S.m)).n) (c':=((S.bind 1).push (.row S.c x.el x.k S.m)).c) (so:=.var st t' (cs.set x.j (.own S.n S.c))) (Pre.refl _) hb.c hb.n (Nat.le_refl _) (by simp only [Sy.push,Sy.bind];omega) rfl (fun j hj=>by simp only [AS.push];rw [upd_ne _ _ hj]) ?_
            simp only [upd_same]
            exact ⟨(Pre.app _ _).get h2,rfl,RCs.set (c:=.own S.n S.c) (y:=.own s.n s.c) (RCs.mono (Pre.app _ _) (Pre.app _ _) h3) ⟨hr.n,hr.last _⟩ _⟩
          | arr=>rw [hx] at h1;exact h1.elim
          | row=>rw [hx] at h1;exact h1.elim
          | frz=>rw [hx] at h1;exact h1.elim
          | dx=>rw [hx] at h1;exact h1.elim
          | opn=>rw [hx] at h1;exact h1.elim
          | cur=>rw [hx] at h1;exact h1.elim
          | dead=>rw [hx] at h1;exact h1.elim
        · rename_i hn
          have : evalPs [] ρ = some ρ':=by
            revert he;split
            · rename_i h;exact absurd h (by simpa using hn)
            · exact id
          simp only [evalPs] at this;injection this with this;subst this
          exact ⟨σ,s,Re.refl _,hr⟩
      · rename_i hn
        have : evalPs [] ρ = some ρ':=by
          revert he;split
          · rename_i st t cs h;exact absurd h (hn st t cs)
          · exact id
        simp only [evalPs] at this;injection this with this;subst this
        exact ⟨σ,s,Re.refl _,hr⟩
  · rename_i hk
    rw [if_neg hk] at he
    exact sArr_ok he hr
def sNil : List Nl→Sy→List PO × Sy
  | [],S=>([],S)
  | x :: r,S=>((sNil1 S x).1 ++ (sNil r (sNil1 S x).2).1,(sNil r (sNil1 S x).2).2)
theorem sNil_ok : ∀ {l : List Nl} {S : Sy} {ρ ρ' : List DV} {σ : List Nat} {s : AS},evalPs (sNil l S).1 ρ = some ρ'→Rel S ρ σ s→∃ σ' s',Re s s'∧Rel (sNil l S).2 ρ' σ' s'
  | [],S,ρ,ρ',σ,s,he,hr=>by
    simp only [sNil,evalPs] at he;injection he with he;subst he
    exact ⟨σ,s,Re.refl _,hr⟩
  | x :: r,S,ρ,ρ',σ,s,he,hr=>by
    simp only [sNil] at he ⊢
    obtain ⟨ρ1,a1,a2⟩:=evalPs_app he
    obtain ⟨σ1,s1,r1,h1⟩:=sNil1_ok a1 hr
    obtain ⟨σ2,s2,r2,h2⟩:=sNil_ok a2 h1
    exact ⟨σ2,s2,r1.trans r2,h2⟩
end
end Go.Proofs.Ytboheedjhnbnhaa
namespace Go.Proofs.Ytboheedjhnbnhaa
open Go.RowKit
structure Acc where
  φ : List (Nat × Nat)
  ψ : List (Nat × Nat)
  π : List (Nat × Nat)
def uD (p i : Nat) (a : Acc) : Acc:={ a with π:=(p,i) :: a.π }
def uDs : List Nat→List Nat→Acc→Acc
  | p :: ps,i :: is,a=>uDs ps is (uD p i a)
  | _,_,a=>a
def uI (i i' st st' : Nat) (a : Acc) : Acc:={ a with φ:=(i,i') :: a.φ,ψ:=(st,st') :: a.ψ }
def uC : SC→SC→Acc→Acc
  | .d p,.d i,a=>uD p i a
  | .own i st,.own i' st',a=>uI i i' st st' a
  | .ptr i st _,.ptr i' st' _,a=>uI i i' st st' a
  | .elt i st _ j _,.elt i' st' _ j' _,a=>uD j j' (uI i i' st st' a)
  | .rd ps,.rd is,a=>uDs ps is a
  | .sub i st _ z m,.sub i' st' _ z' m',a=>uD m m' (uD z z' (uI i i' st st' a))
  | _,_,a=>a
def uCs : List SC→List SC→Acc→Acc
  | x :: xs,y :: ys,a=>uCs xs ys (uC x y a)
  | _,_,a=>a
def uT : List (Bool × List SC)→List (Bool × List SC)→Acc→Acc
  | x :: xs,y :: ys,a=>uT xs ys (uCs x.2 y.2 a)
  | _,_,a=>a
def uV : SV→SV→Acc→Acc
  | .p _ cs,.p _ cs',a=>uCs cs cs' a
  | .tup xs,.tup ys,a=>uT xs ys a
  | _,_,a=>a
def uH : Option (Nat × Nat × Nat × Nat)→Option (Nat × Nat × Nat × Nat)→Acc→Acc
  | some (j,_,n,sn),some (j',_,n',sn'),a=>uD j j' (uI n n' sn sn' a)
  | _,_,a=>a
def uO : SO→SO→Acc→Acc
  | .var st _ cs,.var st' _ cs',a=>uCs cs cs' { a with ψ:=(st,st') :: a.ψ }
  | .row st _ _ x,.row st' _ _ x',a=>uD x x' { a with ψ:=(st,st') :: a.ψ }
  | .frz st x,.frz st' x',a=>uD x x' { a with ψ:=(st,st') :: a.ψ }
  | .dx st x,.dx st' x',a=>uD x x' { a with ψ:=(st,st') :: a.ψ }
  | .cur st _ _ x,.cur st' _ _ x',a=>uD x x' { a with ψ:=(st,st') :: a.ψ }
  | .opn st _ x q,.opn st' _ x' q',a=>uH q q' (uD x x' { a with ψ:=(st,st') :: a.ψ })
  | _,_,a=>a
def uSl (S : Sy) : List (Nat × SV)→Acc→Acc
  | [],a=>a
  | (t,v) :: r,a=>uSl S r (match alook S.sl t with | some v'=>uV v v' a | none=>a)
def uOb (S : Sy) : List (Nat × SO)→Acc→Acc
  | [],a=>a
  | (i,o) :: r,a=>uOb S r (match alook S.ob ((alook a.φ i).getD i) with | some o'=>uO o o' a | none=>a)
def guess (H S : Sy) : Acc:=uOb S H.ob (uOb S H.ob (uSl S H.sl ⟨[],[],[]⟩))
structure Hint where
  key : Nat
  np : Nat
  H : Sy
  nils : List Nl
def hint? : List Hint→Nat→Option Hint
  | [],_=>none
  | h :: r,k=>if h.key = k then some h else hint? r k
def fit (h : Hint) (base : Nat) (S : Sy) : Option (List PO × List Nat) :=
  let r:=sNil h.nils S
  let a:=guess h.H r.2
  let π:=(List.range h.np).map fun j=>(alook a.π (base + j)).getD 0
  let ψ:=(List.range h.H.c).map fun j=>(alook a.ψ j).getD 0
  let φ:=(List.range h.H.n).map fun j=>(alook a.φ j).getD j
  if mAll base π ψ φ h.H r.2 then some (r.1,π) else none
section
variable {P : Program} {R : List (Bool × List DV)→Prop} {N : Nat} {ow : OwK} {ρ ρ' : List DV} {σ σ' : List Nat} {S S' : Sy} {s s' : AS} {L : Lbl} {Q : Exit→AS→Prop}
theorem fit_ok {h : Hint} {base : Nat} {ps : List PO} {π : List Nat} (hf : fit h base S = some (ps,π)) (hl : ρ.length = base) (hp : Pre ρ ρ') (hr : Rel S ρ' σ s) {ρ2 vs : List DV} (he : evalPs ps ρ' = some ρ2) (hv : gL ρ2 π = some vs) :
    vs.length = h.np∧π.length = h.np∧∃ σ' s',Re s s'∧Rel h.H (ρ ++ vs) σ' s':=by
  unfold fit at hf
  simp only at hf
  split at hf
  · rename_i hm
    injection hf with hf;injection hf with e1 e2;subst e1
    obtain ⟨σ1,s1,r1,h1⟩:=sNil_ok he hr
    have hlen : π.length = h.np:=by rw [← e2];simp
    rw [e2] at hm
    obtain ⟨s2,r2,h2⟩:=mAll_ok hm h1 (M:=⟨hl,hp.trans (evalPs_pre he),gL_rd hv⟩)
    exact ⟨by rw [← (gL_rd hv).len,hlen],hlen,_,s2,r1.trans r2,h2⟩
  · cases hf
abbrev Kt:=Nat→Exit→Sy→Option Pg
def KOk (P : Program) (R : List (Bool × List DV)→Prop) (L : Lbl) (ρ : List DV) (Q : Exit→AS→Prop) (K : Kt) : Prop :=
  ∀ L' ρ',Pre L L'→Pre ρ ρ'→∀ e S pg,K L'.length e S = some pg→∀ σ s,Rel S ρ' σ s→W P R pg L' ρ'→Q e s
theorem KOk.mono {K : Kt} {L2 : Lbl} {ρ2 : List DV} (h : KOk P R L ρ Q K) (hL : Pre L L2) (hp : Pre ρ ρ2) : KOk P R L2 ρ2 Q K :=
  fun L' ρ' h1 h2=>h L' ρ' (hL.trans h1) (hp.trans h2)
theorem awp_monoR {c : Code} {Q' : Exit→AS→Prop} (h : AWp P N c Q' s) (hq : ∀ e s,Q' e s→∃ s',Re s s'∧Q e s') : AWp P N c Q s:=fun w0 a w E hr=>by
  refine Code.wp_mono (fun e a w he=>?_) (h w0 a w E hr)
  obtain ⟨s1,E1,h1,h2⟩:=he
  obtain ⟨s2,r2,h3⟩:=hq e s1 h1
  obtain ⟨E2,h4⟩:=r2 w0 N a w E1 h2
  exact ⟨s2,E2,h3,h4⟩
def toJ (h : Hint) (base l : Nat) (S : Sy) : Option Pg:=match fit h base S with | some (ps,π)=>some (nds (ps.map .po) (.jump l π)) | none=>none
theorem toJ_ok {h : Hint} {base l : Nat} {pg : Pg} (hf : toJ h base l S = some pg) (hl : ρ.length = base) (hp : Pre ρ ρ') (hr : Rel S ρ' σ s) (hw : W P R pg L ρ') :
    ∃ J vs σ' s',L[l]? = some J∧J vs∧vs.length = h.np∧Re s s'∧Rel h.H (ρ ++ vs) σ' s':=by
  unfold toJ at hf
  split at hf
  · rename_i ps π hfit
    injection hf with hf;subst hf
    obtain ⟨ρ2,he,hw2,-⟩:=wn_po (w_nds hw)
    simp only [W] at hw2
    obtain ⟨J,vs,j1,j2,j3⟩:=hw2
    obtain ⟨f1,f2,σ',s',f3,f4⟩:=fit_ok hfit hl hp hr he j2
    exact ⟨J,vs,σ',s',j1,j3,f1,f3,f4⟩
  · cases hf
def jK (h : Hint) (base l : Nat) (K : Kt) : Kt:=fun lv e S'=>match e with | .normal=>toJ h base l S' | e=>K lv e S'
def withJ (hs : List Hint) (key lv : Nat) (S : Sy) (K : Kt) (body : Nat→Kt→Option Pg) : Option Pg :=
  match hint? hs key with
  | none=>body lv K
  | some h=>if h.H.m = S.m + h.np then (match K lv .normal h.H,body (lv + 1) (jK h S.m lv K) with | some rest,some k=>some (.join h.np rest k) | _,_=>none) else none
def reQ (Q : Exit→AS→Prop) : Exit→AS→Prop
  | .normal,s=>∃ s',Re s s'∧Q .normal s'
  | e,s=>Q e s
theorem withJ_ok {hs : List Hint} {key lv : Nat} {K : Kt} {body : Nat→Kt→Option Pg} {c : Code} {pg : Pg} (h : withJ hs key lv S K body = some pg) (hl : lv = L.length) (hr : Rel S ρ σ s) (hk : KOk P R L ρ Q K) (hw : W P R pg L ρ)
    (hb : ∀ lv K' pg L' Q',body lv K' = some pg→lv = L'.length→KOk P R L' ρ Q' K'→W P R pg L' ρ→AWp P N c Q' s) : AWp P N c Q s:=by
  unfold withJ at h
  split at h
  · exact hb _ _ _ _ _ h hl hk hw
  · rename_i hh _
    split at h
    · rename_i hm
      split at h
      · rename_i rest k h1 h2
        injection h with h;subst h
        simp only [W] at hw
        obtain ⟨J,w1,w2⟩:=hw
        refine awp_monoR (Q':=reQ Q) (hb _ _ _ (L ++ [J]) (reQ Q) h2 (by simp [hl]) ?_ w2) ?_
        · intro L' ρ' hL hp e S' pg' hpg σ' s' hr' hw'
          unfold jK at hpg
          cases e with
          | normal =>
            obtain ⟨J',vs,σ2,s2,j1,j2,j3,j4,j5⟩:=toJ_ok hpg hr.m hp hr' hw'
            rw [hL.get (i:=lv) (x:=J) (by simp [hl])] at j1
            injection j1 with j1;subst j1
            exact ⟨s2,j4,hk L (ρ ++ vs) (Pre.refl _) (Pre.app _ _) _ _ _ (hl ▸ h1) _ _ j5 (w1 vs j3 j2)⟩
          | _=>exact hk L' ρ' ((Pre.app _ _).trans hL) hp _ _ _ hpg _ _ hr' hw'
        · intro e s1 h1
          cases e with
          | normal=>exact h1
          | _=>exact ⟨s1,Re.refl _,h1⟩
      · cases h
    · cases h
def run1 (P : Program) (ow : OwK) (o : Oper) (S : Sy) (k : Sy→Option Pg) : Option Pg:=match sOpX P ow S o with | some (n,S')=>(match k S' with | some g=>some (nds n g) | none=>none) | none=>none
def genL (P : Program) (N : Nat) (ow : OwK) (ops : Array Oper) : List Oper→Nat→Sy→Kt→Option Pg
  | [],lv,S,K=>K lv .normal S
  | o :: r,lv,S,K=>if dB N o.dst then (match o.guard with
    | none=>run1 P ow o S fun S'=>genL P N ow ops r lv S' K
    | some (g,want)=>(match gslot ops g with
      | some t=>if t < N then (match alook S.sl t with
        | some (.tup [])=>genL P N ow ops r lv (S.put o.dst (.tup [])) K
        | some (.p false [.d i])=>(match alook S.kn i with
          | some b=>if b = want then run1 P ow o S fun S'=>genL P N ow ops r lv S' K else genL P N ow ops r lv (S.put o.dst (.tup [])) K
          | none=>(match (run1 P ow o { S with kn:=(i,want) :: S.kn } fun S'=>genL P N ow ops r lv S' K),genL P N ow ops r lv ({ S with kn:=(i,!want) :: S.kn }.put o.dst (.tup [])) K with
            | some a,some b=>some (if want then .ite i a b else .ite i b a)
            | _,_=>none))
        | _=>none) else none
      | none=>none)) else none
theorem run1_ok {o : Oper} {k : Sy→Option Pg} {pg : Pg} (h : run1 P ow o S k = some pg) (hd : dB N o.dst = true) (hr : Rel S ρ σ s) (hw : W P R pg L ρ) :
    ∃ ρ' σ' s' S' g,OStep P N o s s'∧Rel S' ρ' σ' s'∧k S' = some g∧W P R g L ρ'∧Pre ρ ρ':=by
  unfold run1 at h
  split at h
  · rename_i n S' ho
    split at h
    · rename_i g hg
      injection h with h;subst h
      obtain ⟨ρ',σ',s',h1,h2,h3,h4⟩:=sOpX_ok ho hd hr (w_nds hw)
      exact ⟨ρ',σ',s',S',g,h1,h2,hg,h3,h4⟩
    · cases h
  · cases h
theorem slot_bool {i t : Nat} {b : Bool} (hr : Rel S ρ σ s) (ht : alook S.sl t = some (.p false [.d i])) (hb : ρ[i]? = some (.sc (.bool b))) : s.sl t = .p false [.d (.sc (.bool b))]:=by
  obtain ⟨y,y1,y2⟩:=dat_rv (v:=.p false [.d i]) rfl (hr.sl t _ ht)
  rw [hb] at y2;injection y2 with y2;subst y2;exact y1
theorem genL_ok {ops : Array Oper} {K : Kt} : ∀ {l : List Oper} {lv : Nat} {S : Sy} {pg : Pg} {ρ : List DV} {σ : List Nat} {s : AS},genL P N ow ops l lv S K = some pg→lv = L.length→Rel S ρ σ s→KOk P R L ρ Q K→W P R pg L ρ→AOps P N ops l Q s
  | [],lv,S,pg,ρ,σ,s,h,hl,hr,hk,hw=>aops_nil (hk L ρ (Pre.refl _) (Pre.refl _) _ _ _ (by rw [← hl];exact h) _ _ hr hw)
  | o :: r,lv,S,pg,ρ,σ,s,h,hl,hr,hk,hw=>by
    simp only [genL] at h
    split at h
    · rename_i hd
      split at h
      · rename_i hg
        obtain ⟨ρ',σ',s',S',g,r1,r2,r3,r4,r5⟩:=run1_ok h hd hr hw
        exact aops_cons hg r1 (genL_ok r3 hl r2 (hk.mono (Pre.refl _) r5) r4)
      · rename_i g want hg
        split at h
        · rename_i t hgs
          split at h
          · rename_i htN
            split at h
            · rename_i ht
              have hs : s.sl t = .tup []:=by
                have:=hr.sl t _ ht
                cases hx : s.sl t with
                | tup ys=>rw [hx] at this;cases ys with
                  | nil=>rfl
                  | cons=>exact this.elim
                | p=>rw [hx] at this;exact this.elim
                | und=>rw [hx] at this;exact this.elim
              exact aops_guard_skip2 hg hgs hs htN (dB_ok hd) (genL_ok h hl (hr.put (v:=.tup []) (x:=.tup []) trivial) hk hw)
            · rename_i i ht
              split at h
              · rename_i b hb
                have hs:=slot_bool hr ht (hr.kn i b hb)
                split at h
                · rename_i e;subst e
                  obtain ⟨ρ',σ',s',S',g',r1,r2,r3,r4,r5⟩:=run1_ok h hd hr hw
                  exact aops_guard_run hg hgs hs htN r1 (genL_ok r3 hl r2 (hk.mono (Pre.refl _) r5) r4)
                · rename_i e
                  exact aops_guard_skip hg hgs hs htN e (dB_ok hd) (genL_ok h hl (hr.put (v:=.tup []) (x:=.tup []) trivial) hk hw)
              · split at h
                · rename_i ga gb h1 h2
                  injection h with h;subst h
                  have hw' : ∃ b,ρ[i]? = some (.sc (.bool b))∧(if b = want then W P R ga L ρ else W P R gb L ρ):=by
                    cases want with
                    | true =>
                      simp only [if_true,W] at hw
                      split at hw
                      · rename_i c hc
                        refine ⟨c,hc,?_⟩
                        cases c <;> simpa using hw
                      · exact hw.elim
                    | false =>
                      simp only [Bool.false_eq_true,if_false,W] at hw
                      split at hw
                      · rename_i c hc
                        refine ⟨c,hc,?_⟩
                        cases c <;> simpa using hw
                      · exact hw.elim
                  obtain ⟨b,hb,hw'⟩:=hw'
                  have hs:=slot_bool hr ht hb
                  split at hw'
                  · rename_i e;subst e
                    obtain ⟨ρ',σ',s',S',g',r1,r2,r3,r4,r5⟩:=run1_ok h1 hd (hr.know hb) hw'
                    exact aops_guard_run hg hgs hs htN r1 (genL_ok r3 hl r2 (hk.mono (Pre.refl _) r5) r4)
                  · rename_i e
                    have hb' : ρ[i]? = some (.sc (.bool (!want))):=by rw [hb];cases b <;> cases want <;> simp_all
                    exact aops_guard_skip hg hgs hs htN e (dB_ok hd) (genL_ok h2 hl ((hr.know hb').put (v:=.tup []) (x:=.tup []) trivial) hk hw')
                · cases h
            · cases h
          · cases h
        · cases h
    · cases h
end
end Go.Proofs.Ytboheedjhnbnhaa
namespace Go.Proofs.Ytboheedjhnbnhaa
open Go.RowKit
def rid : Code→Option Nat
  | .region id _ _=>some id
  | .seq a b=>(match rid a with | some i=>some i | none=>rid b)
  | .block _ a=>rid a
  | .loop a=>rid a
  | .cond _ a b=>(match rid a with | some i=>some i | none=>rid b)
  | _=>none
abbrev Dt:=Nat→Array Oper→Nat→Sy→Kt→Option Pg
def seqKt (y : Nat→Sy→Option Pg) (K : Kt) : Kt:=fun lv e S=>match e with | .normal=>y lv S | e=>K lv e S
def blkKt (id : Nat) (K : Kt) : Kt:=fun lv e S=>match e with | .exit id'=>if id' = id then K lv .normal S else K lv (.exit id') S | e=>K lv e S
def condG (S : Sy) (c : Operand) (gx gy : Sy→Option Pg) : Option Pg :=
  match sev S c with
  | some (p,.p false [.d i],S1)=>(match alook S1.kn i with
    | some b=>(match (if b then gx S1 else gy S1) with | some g=>some (nds (p.map .po) g) | none=>none)
    | none=>(match gx { S1 with kn:=(i,true) :: S1.kn },gy { S1 with kn:=(i,false) :: S1.kn } with | some a,some b=>some (nds (p.map .po) (.ite i a b)) | _,_=>none))
  | _=>none
def gen (P : Program) (N : Nat) (ow : OwK) (hs : List Hint) (D : Dt) : Code→Nat→Sy→Kt→Option Pg
  | .skip,lv,S,K=>K lv .normal S
  | .exit id,lv,S,K=>K lv (.exit id) S
  | .ret,lv,S,K=>K lv .ret S
  | .seq x y,lv,S,K=>gen P N ow hs D x lv S (seqKt (fun lv S'=>gen P N ow hs D y lv S' K) K)
  | .block id x,lv,S,K=>withJ hs (2000000 + id) lv S K fun lv K=>gen P N ow hs D x lv S (blkKt id K)
  | .cond c x y,lv,S,K=>withJ hs (1000000 + (match rid x with | some i=>i | none=>(rid y).getD 0)) lv S K fun lv K=>condG S c (fun S=>gen P N ow hs D x lv S K) (fun S=>gen P N ow hs D y lv S K)
  | .region id ops false,lv,S,K=>withJ hs id lv S K fun lv K=>genL P N ow ops ops.toList lv S K
  | .region id ops true,lv,S,K=>withJ hs id lv S K fun lv K=>D id ops lv S K
  | .loop c,lv,S,K=>(match hint? hs (3000000 + (rid c).getD 0) with
    | some h=>if h.H.m = (sNil h.nils S).2.m + h.np then (match fit h (sNil h.nils S).2.m (sNil h.nils S).2,gen P N ow hs D c (lv + 1) h.H (jK h (sNil h.nils S).2.m lv K) with
      | some ([],π),some body=>some (nds ((sNil h.nils S).1.map .po) (.loop π body))
      | _,_=>none) else none
    | none=>none)
  | _,_,_,_=>none
section
variable {P : Program} {R : List (Bool × List DV)→Prop} {N : Nat} {ow : OwK} {hs : List Hint} {D : Dt}
def DOk (P : Program) (R : List (Bool × List DV)→Prop) (N : Nat) (D : Dt) : Prop :=
  ∀ id ops lv S K pg,D id ops lv S K = some pg→∀ (L : Lbl) ρ σ s Q,lv = L.length→Rel S ρ σ s→KOk P R L ρ Q K→W P R pg L ρ→AWp P N (.region id ops true) Q s
theorem gen_ok (hD : DOk P R N D) : ∀ (c : Code) {lv : Nat} {S : Sy} {K : Kt} {pg : Pg} {L : Lbl} {ρ : List DV} {σ : List Nat} {s : AS} {Q : Exit→AS→Prop},gen P N ow hs D c lv S K = some pg→lv = L.length→Rel S ρ σ s→KOk P R L ρ Q K→W P R pg L ρ→AWp P N c Q s:=by
  intro c
  induction c with
  | skip=>intro lv S K pg L ρ σ s Q h hl hr hk hw;exact awp_skip (hk L ρ (Pre.refl _) (Pre.refl _) _ _ _ (by rw [← hl];exact h) _ _ hr hw)
  | exit id=>intro lv S K pg L ρ σ s Q h hl hr hk hw;exact awp_exit (hk L ρ (Pre.refl _) (Pre.refl _) _ _ _ (by rw [← hl];exact h) _ _ hr hw)
  | ret=>intro lv S K pg L ρ σ s Q h hl hr hk hw;exact awp_ret (hk L ρ (Pre.refl _) (Pre.refl _) _ _ _ (by rw [← hl];exact h) _ _ hr hw)
  | seq x y ihx ihy =>
    intro lv S K pg L ρ σ s Q h hl hr hk hw
    simp only [gen] at h
    refine awp_seq (ihx h hl hr ?_ hw)
    intro L' ρ' hL hp e S' pg' hpg σ' s' hr' hw'
    unfold seqKt at hpg
    cases e with
    | normal=>exact ihy hpg rfl hr' (hk.mono hL hp) hw'
    | _=>exact hk L' ρ' hL hp _ _ _ hpg _ _ hr' hw'
  | block id x ih =>
    intro lv S K pg L ρ σ s Q h hl hr hk hw
    simp only [gen] at h
    refine withJ_ok h hl hr hk hw fun lv K' pg L' Q' hb hl' hk' hw'=>?_
    refine awp_block (ih hb hl' hr ?_ hw')
    intro L2 ρ2 hL hp e S2 pg2 hpg σ2 s2 hr2 hw2
    unfold blkKt at hpg
    cases e with
    | exit id' =>
      simp only at hpg
      simp only [blkK]
      split at hpg
      · rename_i e;rw [if_pos e];exact hk' L2 ρ2 hL hp _ _ _ hpg _ _ hr2 hw2
      · rename_i e;rw [if_neg e];exact hk' L2 ρ2 hL hp _ _ _ hpg _ _ hr2 hw2
    | _=>exact hk' L2 ρ2 hL hp _ _ _ hpg _ _ hr2 hw2
  | cond c x y ihx ihy =>
    intro lv S K pg L ρ σ s Q h hl hr hk hw
    simp only [gen] at h
    refine withJ_ok h hl hr hk hw fun lv K' pg L' Q' hb hl' hk' hw'=>?_
    unfold condG at hb
    split at hb
    · rename_i p i S1 hv
      split at hb
      · rename_i b hkn
        split at hb
        · rename_i g hg
          injection hb with hb;subst hb
          obtain ⟨ρ1,he,hw1,hp1⟩:=wn_po (w_nds hw')
          obtain ⟨k1,k2⟩:=sev_ok hv he hr
          obtain ⟨z,z1,z2⟩:=dat_rv (i:=i) rfl k1
          rw [k2.kn i b hkn] at z2;injection z2 with z2;subst z2
          refine awp_cond z1 ?_
          cases b with
          | true=>exact ihx hg hl' k2 (hk'.mono (Pre.refl _) hp1) hw1
          | false=>exact ihy hg hl' k2 (hk'.mono (Pre.refl _) hp1) hw1
        · cases hb
      · split at hb
        · rename_i ga gb h1 h2
          injection hb with hb;subst hb
          obtain ⟨ρ1,he,hw1,hp1⟩:=wn_po (w_nds hw')
          obtain ⟨k1,k2⟩:=sev_ok hv he hr
          obtain ⟨z,z1,z2⟩:=dat_rv (i:=i) rfl k1
          simp only [W] at hw1
          split at hw1
          · rename_i b hb
            rw [hb] at z2;injection z2 with z2;subst z2
            refine awp_cond z1 ?_
            cases b with
            | true=>exact ihx h1 hl' (k2.know hb) (hk'.mono (Pre.refl _) hp1) hw1
            | false=>exact ihy h2 hl' (k2.know hb) (hk'.mono (Pre.refl _) hp1) hw1
          · exact hw1.elim
        · cases hb
    · cases hb
  | region id ops dr =>
    intro lv S K pg L ρ σ s Q h hl hr hk hw
    cases dr with
    | false =>
      simp only [gen] at h
      refine withJ_ok h hl hr hk hw fun lv K' pg L' Q' hb hl' hk' hw'=>?_
      exact awp_region (genL_ok hb hl' hr hk' hw')
    | true =>
      simp only [gen] at h
      refine withJ_ok h hl hr hk hw fun lv K' pg L' Q' hb hl' hk' hw'=>?_
      exact hD _ _ _ _ _ _ hb _ _ _ _ _ hl' hr hk' hw'
  | loop c ih =>
    intro lv S K pg L ρ σ s Q h hl hr hk hw
    simp only [gen] at h
    split at h
    · rename_i hh _
      split at h
      · rename_i hm
        split at h
        · rename_i π body hf hb
          injection h with h;subst h
          obtain ⟨ρ1,he,hw1,hp1⟩:=wn_po (w_nds hw)
          obtain ⟨σ1,s1,re1,hr1⟩:=sNil_ok he hr
          simp only [W] at hw1
          obtain ⟨I,m,vs,v1,v2,v3⟩:=hw1
          obtain ⟨f1,f2,σ2,s2,f3,f4⟩:=fit_ok hf hr1.m (Pre.refl _) hr1 rfl v1
          refine awp_re (re1.trans f3) (awp_rounds (fun s m=>∃ vs σ,vs.length = hh.np∧I vs m∧Rel hh.H (ρ1 ++ vs) σ s) m ⟨vs,σ2,f1,v2,f4⟩ ?_)
          rintro s3 m3 ⟨vs3,σ3,g1,g2,g3⟩
          refine ih hb (L:=L ++ [fun vs'=>∃ m',m' < m3∧I vs' m']) (by simp [hl]) g3 ?_ (v3 vs3 m3 (by rw [g1,f2]) g2)
          intro L' ρ' hL hp e S' pg' hpg σ' s' hr' hw'
          unfold jK at hpg
          cases e with
          | normal =>
            obtain ⟨J',vs',σ4,s4,j1,j2,j3,j4,j5⟩:=toJ_ok hpg hr1.m ((Pre.app _ _).trans hp) hr' hw'
            rw [hL.get (i:=lv) (x:=fun vs'=>∃ m',m' < m3∧I vs' m') (by simp [hl])] at j1
            injection j1 with j1;subst j1
            obtain ⟨m',q1,q2⟩:=j2
            exact ⟨m',s4,q1,j4,vs',σ4,j3,q2,j5⟩
          | _=>exact hk L' ρ' ((Pre.app _ _).trans hL) (hp1.trans ((Pre.app _ _).trans hp)) _ _ _ hpg _ _ hr' hw'
        · cases h
      · cases h
    · cases h
  | _=>intro lv S K pg L ρ σ s Q h;simp [gen] at h
end
section
variable {P : Program} {ρ ρ' : List DV} {σ : List Nat} {S S' : Sy} {s s0 : AS} {ps : List PO}
def sRv (P : Program) (S : Sy) : ResultVar→Option (List PO × Bool × List SC × Sy)
  | .tmp t=>(match alook S.sl t with | some (.p b cs)=>some ([],b,cs,S) | _=>none)
  | .cell t ty=>(match alook S.sl t with
    | some v=>(match one v with | some c=>(match sLoad P S ty c with | some (p,.p b cs,S1)=>some (p,b,cs,S1) | _=>none) | none=>none)
    | none=>none)
def sRvs (P : Program) : List ResultVar→Sy→Option (List PO × List (Bool × List SC) × Sy)
  | [],S=>some ([],[],S)
  | rv :: r,S=>(match sRv P S rv with
    | some (p,b,cs,S1)=>(match sRvs P r S1 with | some (q,xs,S2)=>some (p ++ q,(b,cs) :: xs,S2) | none=>none)
    | none=>none)
def RvL (P : Program) (s0 : AS) : List ResultVar→List (Bool × List AC)→Prop
  | [],[]=>True
  | rv :: rvs,y :: ys=>rvV P s0 rv = some (.p y.1 y.2)∧RvL P s0 rvs ys
  | _,_=>False
theorem sRv_ok {rv : ResultVar} {b : Bool} {cs : List SC} (h : sRv P S rv = some (ps,b,cs,S')) (he : evalPs ps ρ = some ρ') (hr : Rel S ρ σ s0) : ∃ ys,rvV P s0 rv = some (.p b ys)∧RCs ρ' σ cs ys∧Rel S' ρ' σ s0:=by
  unfold sRv at h
  split at h
  · split at h
    · rename_i ht
      injection h with h;injection h with e1 h;injection h with e2 h;injection h with e3 e4;subst e1 e2 e3 e4
      simp only [evalPs] at he;injection he with he;subst he
      have:=hr.sl _ _ ht
      rename_i t b cs _
      cases hx : s0.sl t with
      | p b' ys=>rw [hx] at this;obtain ⟨rfl,h2⟩:=this;exact ⟨ys,by simp [rvV,hx],h2,hr⟩
      | tup=>rw [hx] at this;exact this.elim
      | und=>rw [hx] at this;exact this.elim
    · cases h
  · split at h
    · rename_i t ty v ht
      split at h
      · rename_i c hc
        split at h
        · rename_i p b' cs' S1 hl
          injection h with h;injection h with e1 h;injection h with e2 h;injection h with e3 e4;subst e1 e2 e3 e4
          obtain ⟨y,y1,y2⟩:=one_rv hc (hr.sl _ _ ht)
          obtain ⟨x,x1,x2,x3⟩:=sLoad_ok hl he hr y2
          cases x with
          | p b2 ys=>obtain ⟨rfl,h2⟩:=x2;exact ⟨ys,by simp only [rvV,y1];exact x1,h2,x3⟩
          | tup=>exact x2.elim
          | und=>exact x2.elim
        · cases h
      · cases h
    · cases h
theorem sRvs_ok : ∀ {rvs : List ResultVar} {xs : List (Bool × List SC)} {S S' : Sy} {ps : List PO} {ρ ρ' : List DV},sRvs P rvs S = some (ps,xs,S')→evalPs ps ρ = some ρ'→Rel S ρ σ s0→∃ ys,RvL P s0 rvs ys∧RT ρ' σ xs ys∧Rel S' ρ' σ s0
  | [],xs,S,S',ps,ρ,ρ',h,he,hr=>by
    simp only [sRvs] at h
    injection h with h;injection h with e1 h;injection h with e2 e3;subst e1 e2 e3
    simp only [evalPs] at he;injection he with he;subst he
    exact ⟨[],trivial,trivial,hr⟩
  | rv :: r,xs,S,S',ps,ρ,ρ',h,he,hr=>by
    simp only [sRvs] at h
    split at h
    · rename_i p b cs S1 h1
      split at h
      · rename_i q xs' S2 h2
        injection h with h;injection h with e1 h;injection h with e2 e3;subst e1 e2 e3
        obtain ⟨ρ1,a1,a2⟩:=evalPs_app he
        obtain ⟨ys,y1,y2,y3⟩:=sRv_ok h1 a1 hr
        obtain ⟨zs,z1,z2,z3⟩:=sRvs_ok h2 a2 y3
        exact ⟨(b,ys) :: zs,⟨y1,z1⟩,⟨⟨rfl,RCs.mono (evalPs_pre a2) (Pre.refl _) y2⟩,z2⟩,z3⟩
      · cases h
    · cases h
def sGvs : List (Bool × List SC)→List (List (Option (Nat × Nat)))→Sy→Option (List PO × List (Bool × List Nat))
  | [],_,S=>some ([],[])
  | (b,cs) :: r,ty,S=>(match sGive cs (ty.headD []) S with
    | some (p,xs,S1)=>(match sGvs r ty.tail S1 with | some (q,l)=>some (p ++ q,(b,xs) :: l) | none=>none)
    | none=>none)
theorem sGvs_ok : ∀ {xs : List (Bool × List SC)} {ty : List (List (Option (Nat × Nat)))} {l : List (Bool × List Nat)} {S : Sy} {ps : List PO} {ρ ρ' : List DV} {s : AS} {rvs : List ResultVar} {ys : List (Bool × List AC)},
    sGvs xs ty S = some (ps,l)→evalPs ps ρ = some ρ'→Rel S ρ σ s→RvL P s0 rvs ys→RT ρ σ xs ys→∃ ds,gArgs ρ' l = some ds∧RetDeep P s0 rvs (ds.map fun d=>(d.1,d.2,true)) s
  | [],ty,l,S,ps,ρ,ρ',s,rvs,ys,h,he,hr,hv,ht=>by
    simp only [sGvs] at h
    injection h with h;injection h with e1 e2;subst e1 e2
    match ys,ht with
    | [],_ =>
      cases rvs with
      | nil=>exact ⟨[],rfl,trivial⟩
      | cons=>exact hv.elim
  | (b,cs) :: r,ty,l,S,ps,ρ,ρ',s,rvs,ys,h,he,hr,hv,ht=>by
    simp only [sGvs] at h
    split at h
    · rename_i p xs S1 h1
      split at h
      · rename_i q l' h2
        injection h with h;injection h with e1 e2;subst e1 e2
        match ys,rvs,ht,hv with
        | y :: ys,rv :: rvs,ht,hv =>
          obtain ⟨ρ1,a1,a2⟩:=evalPs_app he
          obtain ⟨s1,ds,g1,g2,g3,-⟩:=sGive_ok h1 a1 hr ht.1.2
          obtain ⟨dss,d1,d2⟩:=sGvs_ok h2 a2 g3 hv.2 (RT.mono (evalPs_pre a1) (Pre.refl _) ht.2)
          refine ⟨(b,ds) :: dss,by simp only [gArgs,g2.app_pre (evalPs_pre a2),d1],?_⟩
          simp only [List.map_cons,RetDeep]
          refine ⟨trivial,?_⟩
          rw [hv.1]
          exact ⟨ht.1.1,s1,g1,d2⟩
      · cases h
    · cases h
def retKt (P : Program) (rvs : List ResultVar) (ty : List (List (Option (Nat × Nat)))) : Kt:=fun _ e S =>
  match e with
  | .normal | .ret=>(match sRvs P rvs S with
    | some (p,xs,S1)=>(match sGvs xs ty S1 with | some (q,l)=>some (nds ((p ++ q).map .po) (.ret l)) | none=>none)
    | none=>none)
  | _=>none
def isRes (res : List Rs) (vs : List (Bool × List DV)) : Prop:=(vs.map fun d=>(d.1,d.2,true)) = res
theorem retKt_ok {rvs : List ResultVar} {ty : List (List (Option (Nat × Nat)))} {res : List Rs} {L : Lbl} : KOk P (isRes res) L ρ (retK P rvs res) (retKt P rvs ty):=by
  intro L' ρ1 hL hp e S pg hpg σ s hr hw
  have key : ∀ p xs S1 q l,sRvs P rvs S = some (p,xs,S1)→sGvs xs ty S1 = some (q,l)→pg = nds ((p ++ q).map .po) (.ret l)→RetDeep P s rvs res s:=by
    intro p xs S1 q l h1 h2 e
    subst e
    obtain ⟨ρ2,he,hw2,-⟩:=wn_po (w_nds hw)
    simp only [W] at hw2
    obtain ⟨vs,w1,w2⟩:=hw2
    obtain ⟨ρ3,a1,a2⟩:=evalPs_app he
    obtain ⟨ys,y1,y2,y3⟩:=sRvs_ok h1 a1 hr
    obtain ⟨ds,d1,d2⟩:=sGvs_ok (P:=P) (s0:=s) h2 a2 y3 y1 y2
    rw [w1] at d1;injection d1 with d1;subst d1
    rw [w2] at d2;exact d2
  unfold retKt at hpg
  split at hpg
  · split at hpg
    · split at hpg
      · injection hpg with hpg;exact Or.inl (key _ _ _ _ _ (by assumption) (by assumption) hpg.symm)
      · cases hpg
    · cases hpg
  · split at hpg
    · split at hpg
      · injection hpg with hpg;exact Or.inl (key _ _ _ _ _ (by assumption) (by assumption) hpg.symm)
      · cases hpg
    · cases hpg
  · cases hpg
def iSl : List (Bool × Nat)→Nat→Nat→List (Nat × SV)
  | [],_,_=>[]
  | (b,n) :: r,t,m=>(t,.p b ((vars m n).map .d)) :: iSl r (t + 1) (m + n)
def flatA : List (Bool × List DV)→List DV
  | []=>[]
  | (_,ds) :: r=>ds ++ flatA r
def shA (args : List (Bool × List DV)) : List (Bool × Nat):=args.map fun a=>(a.1,a.2.length)
theorem iSl_ok : ∀ {args : List (Bool × List DV)} {t0 t : Nat} {pre : List DV} {x : SV},alook (iSl (shA args) t0 pre.length) t = some x→∃ b ds m,t0≤t∧args[t - t0]? = some (b,ds)∧x = .p b ((vars m ds.length).map .d)∧RD (pre ++ flatA args) (vars m ds.length) ds
  | [],t0,t,pre,x,h=>by simp [shA,iSl,alook] at h
  | (b,ds) :: r,t0,t,pre,x,h=>by
    simp only [shA,List.map_cons,iSl,alook] at h
    split at h
    · rename_i e;subst e
      injection h with h
      refine ⟨b,ds,pre.length,Nat.le_refl _,by simp,h.symm,?_⟩
      have : RD (pre ++ ds) (vars pre.length ds.length) ds:=vars_rd
      simp only [flatA];rw [← List.append_assoc]
      exact this.mono (Pre.app _ _)
    · rename_i e
      obtain ⟨b',ds',m,h1,h2,h3,h4⟩:=iSl_ok (args:=r) (t0:=t0 + 1) (t:=t) (pre:=pre ++ ds) (x:=x) (by simpa [shA] using h)
      refine ⟨b',ds',m,by omega,?_,h3,by simpa [flatA] using h4⟩
      rw [show t - t0 = (t - (t0 + 1)) + 1 from by omega]
      simpa using h2
def initSy (sh : List (Bool × Nat)) : Sy:=⟨iSl sh 0 0,[],0,0,(sh.map (·.2)).sum,[]⟩
theorem init_rel (args : List (Bool × List DV)) : Rel (initSy (shA args)) (flatA args) [] (initS args):=by
  refine ⟨rfl,rfl,?_,fun t x hx=>?_,fun i x hx=>by simp [initSy,alook] at hx,fun i b hb=>by simp [initSy,alook] at hb⟩
  · simp only [initSy]
    induction args with
    | nil=>rfl
    | cons a r ih=>obtain ⟨b,ds⟩:=a;simp only [flatA,shA,List.map_cons,List.sum_cons,List.length_append] at ih ⊢;rw [ih]
  · obtain ⟨b,ds,m,h1,h2,h3,h4⟩:=iSl_ok (pre:=[]) hx
    subst h3
    rw [Nat.sub_zero] at h2
    simp only [initS,h2]
    exact ⟨rfl,RD.toC (by simpa using h4)⟩
theorem meets_vd {ow : OwK} {hs : List Hint} {D : Dt} {f : FuncId} {fn : Func} {c : Code} {args : List (Bool × List DV)} {res : List Rs} {ty : List (List (Option (Nat × Nat)))} {sh : List (Bool × Nat)} {pg : Pg} (hD : DOk P (isRes res) fn.ntmps D)
    (hf : P.funcs[f]? = some fn) (hb : fn.body = some c) (hc : callable P f = true) (hN : args.length≤fn.ntmps) (hsh : shA args = sh)
    (hg : gen P fn.ntmps ow hs D c 0 (initSy sh) (retKt P fn.results.toList ty) = some pg) (hw : W P (isRes res) pg [] (flatA args)) : Meets P f args res:=by
  subst hsh
  exact meets_awp hf hb hc hN (gen_ok hD c hg rfl (init_rel args) retKt_ok hw)
end
end Go.Proofs.Ytboheedjhnbnhaa
namespace Go.Proofs.Ytboheedjhnbnhaa
open Go.RowKit
section
variable {P : Program} {R : List (Bool × List DV)→Prop} {N : Nat} {ow : OwK} {ρ ρ' : List DV} {σ σ' σh σq : List Nat} {S S' H Q H' Q' : Sy} {s s' h q : AS} {ps : List PO} {o : Oper} {K : List DV→Prop} {n : List Nd} {L : Lbl} {pr : Bool}
theorem Rel.sync (hr : Rel S ρ σ s) (hp : Pre ρ ρ') : Rel { S with m:=ρ'.length } ρ' σ s:=hr.more hp rfl
def sHVb (P : Program) (S : Sy) : Op→SR
  | .build t parts=>(match sBuild P S t parts.toList with | some (ps,cs,S')=>some (ps,.p true cs,S') | none=>none)
  | op=>sHV P S op
theorem sHVb_ok {op : Op} {v : SV} (hh : sHVb P S op = some (ps,v,S')) (he : evalPs ps ρ = some ρ') (hr : Rel S ρ σ s) : ∃ x,hVb P s op = some x∧RV ρ' σ v x∧Rel S' ρ' σ s:=by
  unfold sHVb at hh
  split at hh
  · split at hh
    · rename_i ps' cs S1 hb
      injection hh with hh;injection hh with e1 hh;injection hh with e2 e3;subst e1 e2 e3
      obtain ⟨ht,z,ys,z1,z2,z3,z4⟩:=sBuild_ok hb he hr
      exact ⟨.p true ys,by simp only [hVb,ht,if_true,z1,z2],⟨rfl,z3⟩,z4⟩
    · cases hh
  · rename_i hnb
    obtain ⟨x,x1,x2,x3⟩:=sHV_ok hh he hr
    refine ⟨x,?_,x2,x3⟩
    unfold hVb
    split
    · rename_i t parts;exact absurd rfl (hnb t parts)
    · exact x1
def finS : List SC→List (Option (Nat × Nat))→Option (List PO)
  | [],_=>some []
  | .d i :: r,ty=>(match ty.headD (some (0,0)) with | none=>(match finS r ty.tail with | some p=>some (.sc i :: p) | none=>none) | some _=>none)
  | .rd _ :: _,_=>none
  | _ :: r,ty=>finS r ty.tail
theorem finS_ok : ∀ {cs : List SC} {ty : List (Option (Nat × Nat))} {ps : List PO} {ρ ρ' : List DV} {ys : List AC},finS cs ty = some ps→evalPs ps ρ = some ρ'→RCs ρ σ cs ys→ρ' = ρ∧ys.all solidC = true
  | [],ty,ps,ρ,ρ',ys,hh,he,hc=>by
    simp only [finS] at hh;injection hh with hh;subst hh
    simp only [evalPs] at he;injection he with he;subst he
    cases ys with
    | nil=>exact ⟨rfl,rfl⟩
    | cons=>exact hc.elim
  | c :: r,ty,ps,ρ,ρ',[],hh,he,hc=>hc.elim
  | .d i :: r,ty,ps,ρ,ρ',y :: ys,hh,he,hc=>by
    simp only [finS] at hh
    split at hh
    · split at hh
      · rename_i p hp
        injection hh with hh;subst hh
        obtain ⟨x,rfl,hx⟩:=rc_d hc.1
        simp only [evalPs,evalP,hx] at he
        split at he
        · rename_i out ho
          split at ho
          · rename_i hsc
            injection ho with ho;subst ho
            rw [List.append_nil] at he
            obtain ⟨u,rfl⟩:=isScD_ok hsc
            obtain ⟨h1,h2⟩:=finS_ok hp he hc.2
            exact ⟨h1,by simp [solidC,h2]⟩
          · cases ho
        · cases he
      · cases hh
    · cases hh
  | .nil :: r,ty,ps,ρ,ρ',y :: ys,hh,he,hc=>by
    simp only [finS] at hh
    cases y <;> first | exact hc.1.elim | skip
    obtain ⟨h1,h2⟩:=finS_ok hh he hc.2
    exact ⟨h1,by simp [solidC,h2]⟩
  | .own _ _ :: r,ty,ps,ρ,ρ',y :: ys,hh,he,hc=>by
    simp only [finS] at hh
    cases y <;> first | exact hc.1.elim | skip
    obtain ⟨h1,h2⟩:=finS_ok hh he hc.2
    exact ⟨h1,by simp [solidC,h2]⟩
  | .ptr _ _ _ :: r,ty,ps,ρ,ρ',y :: ys,hh,he,hc=>by
    simp only [finS] at hh
    cases y <;> first | exact hc.1.elim | skip
    obtain ⟨h1,h2⟩:=finS_ok hh he hc.2
    exact ⟨h1,by simp [solidC,h2]⟩
  | .elt _ _ _ _ _ :: r,ty,ps,ρ,ρ',y :: ys,hh,he,hc=>by
    simp only [finS] at hh
    cases y <;> first | exact hc.1.elim | skip
    obtain ⟨h1,h2⟩:=finS_ok hh he hc.2
    exact ⟨h1,by simp [solidC,h2]⟩
  | .sub _ _ _ _ _ :: r,ty,ps,ρ,ρ',y :: ys,hh,he,hc=>by
    simp only [finS] at hh
    cases y <;> first | exact hc.1.elim | skip
    obtain ⟨h1,h2⟩:=finS_ok hh he hc.2
    exact ⟨h1,by simp [solidC,h2]⟩
  | .emp :: r,ty,ps,ρ,ρ',y :: ys,hh,he,hc=>by
    simp only [finS] at hh
    cases y <;> first | exact hc.1.elim | skip
    obtain ⟨h1,h2⟩:=finS_ok hh he hc.2
    exact ⟨h1,by simp [solidC,h2]⟩
  | .rd _ :: r,ty,ps,ρ,ρ',y :: ys,hh,he,hc=>by simp [finS] at hh
abbrev HR:=Option (List Nd × Sy × Sy)
def hVal (P : Program) (pr : Bool) (H Q : Sy) (o : Oper) : HR :=
  match sHVb P H o.op with
  | some (ps,v,H1)=>if pr then some (ps.map .po,H1.put o.dst v,{ Q with m:=H1.m }.put o.dst v) else (match v with
    | .p b cs=>(match finS cs (tcl P 9 o.type) with
      | some sp=>some ((ps ++ sp).map .po,H1.put o.dst v,{ Q with m:=H1.m }.put o.dst v)
      | none=>some (ps.map .po,H1.put o.dst v,{ Q with m:=H1.m }.del o.dst))
    | .tup _=>some (ps.map .po,H1.put o.dst v,{ Q with m:=H1.m }.del o.dst))
  | none=>none
def HGoes (P : Program) (pr : Bool) (h q : AS) (σh : List Nat) (o : Oper) (H' Q' : Sy) (K : List DV→Prop) : Prop :=
  ∃ ρ' σq' kd x q',HRun P pr h q o kd x q'∧Rel H' ρ' σh (h.put o.dst x)∧Rel Q' ρ' σq' q'∧Pre σh σq'∧K ρ'
theorem hVal_ok (hh : hVal P pr H Q o = some (n,H',Q')) (hr : Rel H ρ σh h) (hq : Rel Q ρ σq q) (hp : Pre σh σq) (hw : WN P n K ρ) : HGoes P pr h q σh o H' Q' K:=by
  unfold hVal at hh
  split at hh
  · rename_i ps v H1 hv
    split at hh
    · rename_i hpr
      injection hh with hh;injection hh with e1 hh;injection hh with e2 e3;subst e1 e2 e3
      obtain ⟨ρ',he,hk⟩:=wn_po hw
      obtain ⟨x,x1,x2,x3⟩:=sHVb_ok hv he hr
      refine ⟨ρ',σq,.v x,x,q.put o.dst (finV pr x),.inl ⟨x,x1,rfl,rfl,rfl⟩,x3.put x2,?_,hp,hk⟩
      rw [← x3.m]
      refine (hq.sync (evalPs_pre he)).put ?_
      unfold finV;rw [if_pos hpr];exact x2.mono (Pre.refl _) hp
    · rename_i hpr
      split at hh
      · rename_i b cs
        split at hh
        · rename_i sp hsp
          injection hh with hh;injection hh with e1 hh;injection hh with e2 e3;subst e1 e2 e3
          obtain ⟨ρ',he,hk⟩:=wn_po hw
          obtain ⟨ρ1,a1,a2⟩:=evalPs_app he
          obtain ⟨x,x1,x2,x3⟩:=sHVb_ok hv a1 hr
          cases x with
          | p b' ys =>
            have x2':=x2
            obtain ⟨rfl,hc⟩:=x2
            obtain ⟨rfl,hs⟩:=finS_ok hsp a2 hc
            refine ⟨ρ',σq,.v (.p b' ys),.p b' ys,q.put o.dst (finV pr (.p b' ys)),.inl ⟨_,x1,rfl,rfl,rfl⟩,x3.put x2',?_,hp,hk⟩
            rw [← x3.m]
            refine (hq.sync (evalPs_pre a1)).put ?_
            unfold finV;rw [if_neg hpr];simp only [hs,if_true];exact ⟨rfl,RCs.mono (Pre.refl _) hp hc⟩
          | tup=>exact x2.elim
          | und=>exact x2.elim
        · injection hh with hh;injection hh with e1 hh;injection hh with e2 e3;subst e1 e2 e3
          obtain ⟨ρ',he,hk⟩:=wn_po hw
          obtain ⟨x,x1,x2,x3⟩:=sHVb_ok hv he hr
          refine ⟨ρ',σq,.v x,x,q.put o.dst (finV pr x),.inl ⟨x,x1,rfl,rfl,rfl⟩,x3.put x2,?_,hp,hk⟩
          rw [← x3.m];exact (hq.sync (evalPs_pre he)).del
      · injection hh with hh;injection hh with e1 hh;injection hh with e2 e3;subst e1 e2 e3
        obtain ⟨ρ',he,hk⟩:=wn_po hw
        obtain ⟨x,x1,x2,x3⟩:=sHVb_ok hv he hr
        refine ⟨ρ',σq,.v x,x,q.put o.dst (finV pr x),.inl ⟨x,x1,rfl,rfl,rfl⟩,x3.put x2,?_,hp,hk⟩
        rw [← x3.m];exact (hq.sync (evalPs_pre he)).del
  · cases hh
def asgV (P : Program) (H : Sy) (o : Oper) : Bool:=match o.op with
  | .assign _=>(match sHVb P H o.op with | some (_,.p _ cs,_)=>(finS cs (tcl P 9 o.type)).isSome | _=>false)
  | _=>false
def hMov (P : Program) (pr : Bool) (H Q : Sy) (o : Oper) : HR :=
  if asgV P H o || (pr || !isPure o.op) then hVal P pr H Q o else (match sHVb P H o.op with
    | some (ps,v,H1)=>(match sHVb P { Q with m:=H1.m } o.op with
      | some (qs,u,Q1)=>some ((ps ++ qs).map .po,{ H1 with m:=Q1.m }.put o.dst v,Q1.put o.dst u)
      | none=>hVal P pr H Q o)
    | none=>hVal P pr H Q o)
theorem hMov_ok (hh : hMov P pr H Q o = some (n,H',Q')) (hr : Rel H ρ σh h) (hq : Rel Q ρ σq q) (hp : Pre σh σq) (hw : WN P n K ρ) : HGoes P pr h q σh o H' Q' K:=by
  unfold hMov at hh
  split at hh
  · exact hVal_ok hh hr hq hp hw
  · rename_i hpr
    simp only [Bool.or_eq_true,Bool.not_eq_true',not_or,Bool.not_eq_true,Bool.not_eq_false] at hpr
    replace hpr:=hpr.2
    split at hh
    · rename_i ps v H1 h1
      split at hh
      · rename_i qs u Q1 h2
        injection hh with hh;injection hh with e1 hh;injection hh with e2 e3;subst e1 e2 e3
        obtain ⟨ρ',he,hk⟩:=wn_po hw
        obtain ⟨ρ1,a1,a2⟩:=evalPs_app he
        obtain ⟨x,x1,x2,x3⟩:=sHVb_ok h1 a1 hr
        have hq1 : Rel { Q with m:=H1.m } ρ1 σq q:=by rw [← x3.m];exact hq.sync (evalPs_pre a1)
        obtain ⟨y,y1,y2,y3⟩:=sHVb_ok h2 a2 hq1
        have hr2 : Rel { H1 with m:=Q1.m } ρ' σh h:=by rw [← y3.m];exact x3.sync (evalPs_pre a2)
        exact ⟨ρ',σq,.p o.op,x,q.put o.dst y,.inr (.inr (.inr (.inr (.inl ⟨x,y,hpr.2,hpr.1,x1,y1,rfl,rfl,rfl⟩)))),hr2.put (x2.mono (evalPs_pre a2) (Pre.refl _)),y3.put y2,hp,hk⟩
      · exact hVal_ok hh hr hq hp hw
    · exact hVal_ok hh hr hq hp hw
def hAlloc (P : Program) (pr : Bool) (H Q : Sy) (d : Option Nat) (t : TypeId) : HR :=
  if pr then none else (match tzero P t with
    | some vs=>(match sZ vs H.m with | some (p,cs)=>some (p.map .po,(H.bind p.length).del d,({ Q with m:=(H.bind p.length).m }.push (.var Q.c t cs)).put d (.p false [.ptr Q.n Q.c 0])) | none=>none)
    | none=>none)
theorem hAlloc_ok {t : TypeId} (ho : o.op = .alloc t) (hh : hAlloc P pr H Q o.dst t = some (n,H',Q')) (hr : Rel H ρ σh h) (hq : Rel Q ρ σq q) (hp : Pre σh σq) (hw : WN P n K ρ) : HGoes P pr h q σh o H' Q' K:=by
  unfold hAlloc at hh
  split at hh
  · cases hh
  · rename_i hpr
    split at hh
    · rename_i vs hz
      split at hh
      · rename_i p cs hs
        injection hh with hh;injection hh with e1 hh;injection hh with e2 e3;subst e1 e2 e3
        obtain ⟨ρ',he,hk⟩:=wn_po hw
        obtain ⟨acs,a1,a2,a3⟩:=sZ_ok (σ:=σq) hs hr.m he
        have hr1 : Rel (H.bind p.length) ρ' σh h:=hr.more (evalPs_pre he) a3
        refine ⟨ρ',σq ++ [q.c],.a t acs,.und,(q.push (.var q.c t acs)).put o.dst (.p false [.ptr q.n q.c 0]),.inr (.inr (.inr (.inl ⟨t,acs,ho,by simpa using hpr,by simp only [zeroAC,hz,a1],rfl,rfl,rfl⟩))),hr1.del,?_,hp.trans (Pre.app _ _),hk⟩
        have hq1 : Rel { Q with m:=(H.bind p.length).m } ρ' σq q:=by rw [← hr1.m];exact hq.sync (evalPs_pre he)
        exact (hq1.push (so:=.var Q.c t cs) (ob:=.var q.c t acs) ⟨hq1.last _,rfl,a2.mono (Pre.refl _) (Pre.app _ _)⟩).put ⟨rfl,⟨hq1.n,hq1.last _,rfl⟩,trivial⟩
      · cases hh
    · cases hh
def hvS (sh : Sh) (m : Nat) : List (Bool × List SC) :=match sh with
  | []=>[]
  | (b,ss,_) :: r=>(b,(vars m ss.length).map .d) :: hvS r (m + ss.length)
theorem hvS_ok : ∀ {rs : List Rs} {sh : Sh} {m : Nat},shOk sh rs = true→RD ρ (vars m (flatR rs).length) (flatR rs)→RT ρ σ (hvS sh m) (rs.map fun r=>(r.1,r.2.1.map AC.d))
  | [],sh,m,hh,hd=>by
    cases sh with
    | nil=>exact trivial
    | cons x r=>obtain ⟨b,ss,ow⟩:=x;simp [shOk] at hh
  | (b,ds,ow) :: rs,sh,m,hh,hd=>by
    match sh,hh with
    | (b',ss,ow') :: r,hh =>
      simp only [shOk,Bool.and_eq_true,decide_eq_true_eq] at hh
      obtain ⟨⟨rfl,rfl⟩,h1,h2⟩:=hh
      obtain ⟨d1,d2⟩:=rd_split hd
      rw [shC_len h1] at d1 d2
      exact ⟨⟨rfl,RD.toC d1⟩,hvS_ok h2 d2⟩
theorem hvRes_rv {l : List (Bool × List SC)} {rs : List Rs} (hh : RT ρ σ l (rs.map fun r=>(r.1,r.2.1.map AC.d))) : RV ρ σ (resSV l) (hvRes rs):=by
  unfold resSV hvRes
  generalize (rs.map fun r=>(r.1,r.2.1.map AC.d)) = l' at hh
  match l,l',hh with
  | [],[],hh=>exact hh
  | [(b,cs)],[(b',cs')],hh=>exact hh.1
  | x :: y :: l,x' :: y' :: l',hh=>exact hh
  | [x],_ :: _ :: _,hh=>exact hh.2.elim
  | _ :: _ :: _,[x],hh=>exact hh.2.elim
def noSl (sh : Sh) : Bool:=sh.all fun x=>x.2.1.all (·.isNone)
theorem noSl_ok : ∀ {sh : Sh} {rs : List Rs} {c : Nat},noSl sh = true→shOk sh rs = true→resO false rs c = []
  | [],[],_,_,_=>rfl
  | (b,ss,ow) :: sh,(b',ds,ow') :: rs,c,h1,h2=>by
    simp only [shOk,Bool.and_eq_true,decide_eq_true_eq] at h2
    simp only [noSl,List.all_cons,Bool.and_eq_true] at h1
    have key : ∀ {ss : List (Option (Nat × Nat))} {ds : List DV} {c : Nat},(ss.all (·.isNone)) = true→shC ss ds = true→adO false ds c = []:=by
      intro ss
      induction ss with
      | nil=>intro ds c _ h;cases ds with
        | nil=>rfl
        | cons=>simp [shC] at h
      | cons x ss ih =>
        intro ds c hn h
        cases x with
        | some=>simp at hn
        | none =>
          cases ds with
          | nil=>simp [shC] at h
          | cons d ds=>cases d with
            | sc u=>simp only [shC] at h;simp only [adO];exact ih (by simpa using hn) h
            | sl=>simp [shC] at h
    have k1:=key (c:=c) h1.1 h2.2.1
    have k2:=noSl_ok (c:=c) h1.2 h2.2.2
    cases ow' with
    | true=>simp only [resO,k1,List.length_nil,Nat.add_zero,k2,List.append_nil]
    | false=>simp only [resO,k2]
  | [],_ :: _,_,_,h=>by simp [shOk] at h
  | (_,_,_) :: _,[],_,_,h=>by simp [shOk] at h
def hCall (P : Program) (ow : OwK) (pr : Bool) (H Q : Sy) (d : Option Nat) (f : FuncId) (args : List Operand) (ts : List TypeId) : HR :=
  match shOf P ow f,sArgs false P args ts H with
  | some sh,some (p,as0,H1)=>if sh.all (fun x=>x.2.2) && (!pr || noSl sh) && decide (f < 1000000∧ow.pf.contains f = false∧ow.cf.contains f = false∧(alook ow.nf f).isNone = true) then
      some (p.map .po ++ [.call f as0 sh],(H1.bind (shLen sh)).put d (resSV (hvS sh H1.m)),(sResL false sh H1.m { Q with m:=(H1.bind (shLen sh)).m }).2.put d (resSV (sResL false sh H1.m { Q with m:=(H1.bind (shLen sh)).m }).1)) else none
  | _,_=>none
theorem hCall_ok {f : FuncId} {args : Array Operand} {ts : Array TypeId} (ho : o.op = .call ⟨.value (.func f),args,ts⟩) (hh : hCall P ow pr H Q o.dst f args.toList ts.toList = some (n,H',Q')) (hr : Rel H ρ σh h) (hq : Rel Q ρ σq q) (hp : Pre σh σq) (hw : WN P n K ρ) : HGoes P pr h q σh o H' Q' K:=by
  unfold hCall at hh
  split at hh
  · rename_i sh p as0 H1 hsh has
    split at hh
    · rename_i hall
      rw [Bool.and_eq_true,decide_eq_true_eq] at hall
      obtain ⟨hall,hf6,-⟩:=hall
      simp only [Bool.and_eq_true,Bool.or_eq_true,Bool.not_eq_true'] at hall
      injection hh with hh;injection hh with e1 hh;injection hh with e2 e3;subst e1 e2 e3
      obtain ⟨ρ1,he,hw2⟩:=wn_po (wn_app hw)
      simp only [WN] at hw2
      obtain ⟨ys,res,w1,w2,w3,w4⟩:=hw2
      have w2:=w2.plain hf6
      obtain ⟨ys',y1,y2,y3,y4⟩:=sArgs_ok has he hr
      rw [w1] at y1;injection y1 with y1;subst y1
      have hlen:=shOk_len w3
      have hown : ∀ r ∈ res,r.2.2 = true:=shOk_own w3 fun x hx=>List.all_eq_true.1 hall.1 x hx
      have hb:=y4.bind (out:=flatR res) hlen
      have hrd : RD (ρ1 ++ flatR res) (vars H1.m (flatR res).length) (flatR res):=vars_rd' y4.m rfl
      have hq1 : Rel { Q with m:=(H1.bind (shLen sh)).m } (ρ1 ++ flatR res) σq q:=by
        rw [← hb.m];exact hq.sync ((evalPs_pre he).trans (Pre.app _ _))
      obtain ⟨σ',p1,p2,p3⟩:=sResL_ok (m:=H1.m) w3 hrd hq1
      refine ⟨_,σ',.c res,hvRes res,_,.inr (.inl ⟨f,args,ts,ys,res,ho,w2,y2 rfl,List.all_eq_true.2 hown,fun hpr=>?_,rfl,rfl,rfl⟩),hb.put (hvRes_rv (hvS_ok w3 hrd)),p2.put (resSV_ok p3),hp.trans p1,w4⟩
      rcases hall.2 with h1 | h1
      · rw [hpr] at h1;cases h1
      · exact noSl_ok h1 w3
    · cases hh
  · cases hh
def hCallR (P : Program) (ow : OwK) (pr : Bool) (H Q : Sy) (d : Option Nat) (f : FuncId) (args : List Operand) (ts : List TypeId) : HR :=
  if pr then none else match shOf P ow f,sArgs true P args ts H with
  | some [(b,ss,false)],some (p,as0,H1)=>if f < 1000000 then
      some (p.map .po ++ [.call f as0 [(b,ss,false)]],(H1.bind (shLen [(b,ss,false)])).put d (resSV (hvS [(b,ss,false)] H1.m)),Sy.del { Q with m:=(H1.bind (shLen [(b,ss,false)])).m } d) else none
  | _,_=>none
theorem hCallR_ok {f : FuncId} {args : Array Operand} {ts : Array TypeId} (ho : o.op = .call ⟨.value (.func f),args,ts⟩) (hh : hCallR P ow pr H Q o.dst f args.toList ts.toList = some (n,H',Q')) (hr : Rel H ρ σh h) (hq : Rel Q ρ σq q) (hp : Pre σh σq) (hw : WN P n K ρ) : HGoes P pr h q σh o H' Q' K:=by
  unfold hCallR at hh
  split at hh
  · cases hh
  · rename_i hpr
    split at hh
    · rename_i b ss p as0 H1 hsh has
      split at hh
      · rename_i hf6
        injection hh with hh;injection hh with e1 hh;injection hh with e2 e3;subst e1 e2 e3
        obtain ⟨ρ1,he,hw2⟩:=wn_po (wn_app hw)
        simp only [WN] at hw2
        obtain ⟨ys,res,w1,w2,w3,w4⟩:=hw2
        have w2:=w2.plain hf6
        obtain ⟨ys',y1,y2,y3,y4⟩:=sArgs_ok has he hr
        rw [w1] at y1;injection y1 with y1;subst y1
        have hlen:=shOk_len w3
        have hb:=y4.bind (out:=flatR res) hlen
        have hrd : RD (ρ1 ++ flatR res) (vars H1.m (flatR res).length) (flatR res):=vars_rd' y4.m rfl
        have hq1 : Rel { Q with m:=(H1.bind (shLen [(b,ss,false)])).m } (ρ1 ++ flatR res) σq q:=by
          rw [← hb.m];exact hq.sync ((evalPs_pre he).trans (Pre.app _ _))
        match res,w3 with
        | [(b',ds,ow')],w3 =>
          have how : ow' = false:=by
            simp only [shOk,Bool.and_eq_true,beq_iff_eq] at w3
            simp_all
          subst how
          refine ⟨_,σq,.v (hvRes [(b',ds,false)]),hvRes [(b',ds,false)],q.put o.dst (finV pr (hvRes [(b',ds,false)])),.inr (.inr (.inr (.inr (.inr (.inr (.inr ⟨f,args,ts,ys,(b',ds,false),ho,by simpa using hpr,w2,y3 rfl,rfl,rfl,rfl,rfl⟩)))))),hb.put (hvRes_rv (hvS_ok w3 hrd)),hq1.del,hp,w4⟩
        | [],w3=>simp [shOk] at w3
        | _ :: _ :: _,w3=>simp [shOk] at w3
      · cases hh
    · cases hh
end
end Go.Proofs.Ytboheedjhnbnhaa
namespace Go.Proofs.Ytboheedjhnbnhaa
open Go.RowKit
section
variable {P : Program} {R : List (Bool × List DV)→Prop} {N : Nat} {ow : OwK} {ρ ρ' : List DV} {σ σ' σh σq : List Nat} {S S' H Q H' Q' : Sy} {s s' h q : AS} {ps : List PO} {o : Oper} {K : List DV→Prop} {n : List Nd} {L : Lbl} {pr : Bool}
def dIdx : List SC→Option (List Nat)
  | []=>some []
  | .d i :: r=>(match dIdx r with | some l=>some (i :: l) | none=>none)
  | _ :: _=>none
def dIdxL : List (List SC)→Option (List (List Nat))
  | []=>some []
  | e :: r=>(match dIdx e,dIdxL r with | some x,some l=>some (x :: l) | _,_=>none)
theorem dIdx_ok : ∀ {cs : List SC} {xs : List Nat} {ys : List AC},dIdx cs = some xs→RCs ρ σ cs ys→∃ ds,dL ys = some ds∧RD ρ xs ds
  | [],xs,ys,hh,hc=>by
    simp only [dIdx] at hh;injection hh with hh;subst hh
    cases ys with
    | nil=>exact ⟨[],rfl,trivial⟩
    | cons=>exact hc.elim
  | c :: r,xs,[],hh,hc=>hc.elim
  | .d i :: r,xs,y :: ys,hh,hc=>by
    simp only [dIdx] at hh
    split at hh
    · rename_i l hl
      injection hh with hh;subst hh
      obtain ⟨x,rfl,hx⟩:=rc_d hc.1
      obtain ⟨ds,d1,d2⟩:=dIdx_ok hl hc.2
      exact ⟨x :: ds,by simp only [dL,d1],hx,d2⟩
    · cases hh
  | .nil :: r,xs,y :: ys,hh,hc=>by simp [dIdx] at hh
  | .own _ _ :: r,xs,y :: ys,hh,hc=>by simp [dIdx] at hh
  | .ptr _ _ _ :: r,xs,y :: ys,hh,hc=>by simp [dIdx] at hh
  | .elt _ _ _ _ _ :: r,xs,y :: ys,hh,hc=>by simp [dIdx] at hh
  | .sub _ _ _ _ _ :: r,xs,y :: ys,hh,hc=>by simp [dIdx] at hh
  | .emp :: r,xs,y :: ys,hh,hc=>by simp [dIdx] at hh
  | .rd _ :: r,xs,y :: ys,hh,hc=>by simp [dIdx] at hh
theorem dIdxL_ok : ∀ {es : List (List SC)} {rows : List (List Nat)} {ys : List (List AC)},dIdxL es = some rows→RLL ρ σ es ys→∃ ds,dLL ys = some ds∧∀ ρ',Pre ρ ρ'→gLL ρ' rows = some ds
  | [],rows,ys,hh,hc=>by
    simp only [dIdxL] at hh;injection hh with hh;subst hh
    cases ys with
    | nil=>exact ⟨[],rfl,fun _ _=>rfl⟩
    | cons=>exact hc.elim
  | e :: r,rows,[],hh,hc=>hc.elim
  | e :: r,rows,y :: ys,hh,hc=>by
    simp only [dIdxL] at hh
    split at hh
    · rename_i x l h1 h2
      injection hh with hh;subst hh
      obtain ⟨d,d1,d2⟩:=dIdx_ok h1 hc.1
      obtain ⟨ds,d3,d4⟩:=dIdxL_ok h2 hc.2
      exact ⟨d :: ds,by simp only [dLL,d1,d3],fun ρ' hp=>by simp only [gLL,d2.app_pre hp,d4 ρ' hp]⟩
    · cases hh
def hLit (P : Program) (pr : Bool) (H Q : Sy) (d : Option Nat) (t : TypeId) (len : Nat) (parts : List (Nat × Operand)) : HR :=
  if pr then none else (match tel P t with
  | some (el,k)=>if (tzero P el).isSome = true∧0 < k∧parts.length = len∧len * k≤16777216 then (match sBs k parts 0 H with
    | some (p,es,H1)=>(match sBs k parts 0 { Q with m:=H1.m } with
      | some (p2,esq,Q1)=>if es.isEmpty then some ((p ++ p2).map .po,{ H1 with m:=Q1.m }.put d (.p false [.emp]),(Q1.push (.arr Q1.c el k esq)).put d (.p false [.own Q1.n Q1.c])) else (match dIdxL es with
        | some rows=>some ((p ++ (p2 ++ [PO.mk el k rows])).map .po,({ H1 with m:=Q1.m }.bind 1).put d (.p false [.d Q1.m]),((Q1.bind 1).push (.arr Q1.c el k esq)).put d (.p false [.own Q1.n Q1.c]))
        | none=>some ((p ++ p2).map .po,{ H1 with m:=Q1.m }.del d,(Q1.push (.arr Q1.c el k esq)).put d (.p false [.own Q1.n Q1.c])))
      | none=>none)
    | none=>none) else none
  | none=>none)
theorem hLit_ok {t : TypeId} {len : Nat} {parts : Array (Nat × Operand)} (ho : o.op = .buildSlice t len parts) (hh : hLit P pr H Q o.dst t len parts.toList = some (n,H',Q')) (hr : Rel H ρ σh h) (hq : Rel Q ρ σq q) (hp : Pre σh σq) (hw : WN P n K ρ) : HGoes P pr h q σh o H' Q' K:=by
  unfold hLit at hh
  split at hh
  · cases hh
  · rename_i hpr
    split at hh
    · rename_i el k ht
      split at hh
      · rename_i hc
        obtain ⟨hz,hk,hl,hs⟩:=hc
        split at hh
        · rename_i p es H1 h1
          split at hh
          · rename_i p2 esq Q1 h2
            split at hh
            · rename_i hem
              injection hh with hh;injection hh with e1 hh;injection hh with e2 e3;subst e1 e2 e3
              obtain ⟨ρ',he,hK⟩:=wn_po hw
              obtain ⟨ρ1,a1,b1⟩:=evalPs_app he
              obtain ⟨ys,y1,y2,y3⟩:=sBs_ok h1 a1 hr
              have hq1 : Rel { Q with m:=H1.m } ρ1 σq q:=by rw [← y3.m];exact hq.sync (evalPs_pre a1)
              obtain ⟨zs,z1,z2,z3⟩:=sBs_ok h2 b1 hq1
              have hr2 : Rel { H1 with m:=Q1.m } ρ' σh h:=by rw [← z3.m];exact y3.sync (evalPs_pre b1)
              have hys : ys = []:=by
                cases es with
                | nil=>cases ys with
                  | nil=>rfl
                  | cons=>exact y2.elim
                | cons=>simp at hem
              subst hys
              exact ⟨_,σq ++ [q.c],.b el k parts.toList,bView el k [],(q.push (.arr q.c el k zs)).put o.dst (.p false [.own q.n q.c]),.inr (.inr (.inl ⟨t,len,parts,el,k,[],zs,ho,by simpa using hpr,ht,hz,hk,hl,hs,y1,z1,rfl,rfl,rfl⟩)),hr2.put (v:=.p false [.emp]) (x:=bView el k []) ⟨rfl,trivial,trivial⟩,
                (z3.push (so:=.arr Q1.c el k esq) (ob:=.arr q.c el k zs) ⟨z3.last _,rfl,rfl,RLL.mono (Pre.refl _) (Pre.app _ _) z2⟩).put ⟨rfl,⟨z3.n,z3.last _⟩,trivial⟩,hp.trans (Pre.app _ _),hK⟩
            rename_i hem
            split at hh
            · rename_i rows hrows
              injection hh with hh;injection hh with e1 hh;injection hh with e2 e3;subst e1 e2 e3
              obtain ⟨ρ',he,hK⟩:=wn_po hw
              obtain ⟨ρ1,a1,a2⟩:=evalPs_app he
              obtain ⟨ρ2,b1,b2⟩:=evalPs_app a2
              obtain ⟨ys,y1,y2,y3⟩:=sBs_ok h1 a1 hr
              have hq1 : Rel { Q with m:=H1.m } ρ1 σq q:=by rw [← y3.m];exact hq.sync (evalPs_pre a1)
              obtain ⟨zs,z1,z2,z3⟩:=sBs_ok h2 b1 hq1
              obtain ⟨ds,d1,d2⟩:=dIdxL_ok hrows y2
              obtain ⟨out,o1,rfl⟩:=evalPs_one b2
              have hm:=z3.m
              simp only [evalP,d2 ρ2 (evalPs_pre b1)] at o1
              split at o1
              · injection o1 with o1;subst o1
                have hr2 : Rel { H1 with m:=Q1.m } ρ2 σh h:=by rw [← hm];exact y3.sync (evalPs_pre b1)
                refine ⟨_,σq ++ [q.c],.b el k parts.toList,bView el k ys,(q.push (.arr q.c el k zs)).put o.dst (.p false [.own q.n q.c]),.inr (.inr (.inl ⟨t,len,parts,el,k,ys,zs,ho,by simpa using hpr,ht,hz,hk,hl,hs,y1,z1,rfl,rfl,rfl⟩)),?_,?_,hp.trans (Pre.app _ _),hK⟩
                · refine (hr2.bind (out:=[DV.sl el k ds]) (k:=1) rfl).put ?_
                  have hyne : ys.isEmpty = false:=by
                    cases ys with
                    | nil=>cases es with
                      | nil=>simp at hem
                      | cons=>exact y2.elim
                    | cons=>rfl
                  unfold bView;rw [hyne,d1]
                  exact ⟨rfl,by show (_ : List DV)[_]? = _;rw [← hm];simp,trivial⟩
                · have hb:=z3.bind (out:=[DV.sl el k ds]) (k:=1) rfl
                  exact (hb.push (so:=.arr Q1.c el k esq) (ob:=.arr q.c el k zs) ⟨hb.last _,rfl,rfl,RLL.mono (Pre.app _ _) (Pre.app _ _) z2⟩).put ⟨rfl,⟨z3.n,hb.last _⟩,trivial⟩
              · cases o1
            · injection hh with hh;injection hh with e1 hh;injection hh with e2 e3;subst e1 e2 e3
              obtain ⟨ρ',he,hK⟩:=wn_po hw
              obtain ⟨ρ1,a1,b1⟩:=evalPs_app he
              obtain ⟨ys,y1,y2,y3⟩:=sBs_ok h1 a1 hr
              have hq1 : Rel { Q with m:=H1.m } ρ1 σq q:=by rw [← y3.m];exact hq.sync (evalPs_pre a1)
              obtain ⟨zs,z1,z2,z3⟩:=sBs_ok h2 b1 hq1
              have hr2 : Rel { H1 with m:=Q1.m } ρ' σh h:=by rw [← z3.m];exact y3.sync (evalPs_pre b1)
              exact ⟨_,σq ++ [q.c],.b el k parts.toList,bView el k ys,(q.push (.arr q.c el k zs)).put o.dst (.p false [.own q.n q.c]),.inr (.inr (.inl ⟨t,len,parts,el,k,ys,zs,ho,by simpa using hpr,ht,hz,hk,hl,hs,y1,z1,rfl,rfl,rfl⟩)),hr2.del,
                (z3.push (so:=.arr Q1.c el k esq) (ob:=.arr q.c el k zs) ⟨z3.last _,rfl,rfl,RLL.mono (Pre.refl _) (Pre.app _ _) z2⟩).put ⟨rfl,⟨z3.n,z3.last _⟩,trivial⟩,hp.trans (Pre.app _ _),hK⟩
          · cases hh
        · cases hh
      · cases hh
    · cases hh
def sHead (P : Program) (ow : OwK) (pr : Bool) (H Q : Sy) (o : Oper) : HR :=
  match o.op with
  | .alloc t=>hAlloc P pr H Q o.dst t
  | .buildSlice t len parts=>hLit P pr H Q o.dst t len parts.toList
  | .call ⟨.value (.func f),args,ts⟩=>(match hCall P ow pr H Q o.dst f args.toList ts.toList with | some r=>some r | none=>hCallR P ow pr H Q o.dst f args.toList ts.toList)
  | _=>hMov P pr H Q o
theorem sHead_ok (hh : sHead P ow pr H Q o = some (n,H',Q')) (hr : Rel H ρ σh h) (hq : Rel Q ρ σq q) (hp : Pre σh σq) (hw : WN P n K ρ) : HGoes P pr h q σh o H' Q' K:=by
  unfold sHead at hh
  split at hh
  · rename_i t ho;exact hAlloc_ok ho hh hr hq hp hw
  · rename_i t len parts ho;exact hLit_ok ho hh hr hq hp hw
  · rename_i f args ts ho
    split at hh
    · rename_i r hr'
      injection hh with hh;subst hh
      exact hCall_ok ho hr' hr hq hp hw
    · exact hCallR_ok ho hh hr hq hp hw
  · exact hMov_ok hh hr hq hp hw
def eEmp (v : SV) : Bool:=match one v with
  | some .emp=>true
  | _=>false
theorem eEmp_ok {v : SV} {x : AV} (h : eEmp v = true) (hv : RV ρ σ v x) : isEmp x = true:=by
  unfold eEmp at h
  split at h
  · rename_i hc
    obtain ⟨y,rfl,hy⟩:=one_rv hc hv
    cases y <;> first | exact hy.elim | rfl
  · cases h
def hApp (P : Program) (pr : Bool) (H Q : Sy) (o : Oper) : Option (List PO × Nat × (Sy × Sy) × (List PO × Sy × Sy)) :=
  match o.op with
  | .call ⟨.builtin .append,⟨[X,Y]⟩,⟨[t,t']⟩⟩=>if t' = t∧pr = false then (match tel P t with
    | some (el,k)=>(match tzero P el,tby P el with
      | some zs,some b=>if zs.length = k∧0 < k then (match sev H X with
        | some (pX,vX,H1)=>if eEmp vX then (match sev { Q with m:=H1.m } X with
          | some (qX,uX,Q1)=>(match sev { H1 with m:=Q1.m } Y with
            | some (pY,vY,H2)=>(match one vY with
              | some cY=>(match sRd false [cY] [some (el,k)] H2 with
                | some (pR,[y],H3)=>some (pX ++ (qX ++ (pY ++ (pR ++ [PO.emp y]))),H3.m,
                    (({ (H3.bind 1) with kn:=(H3.m,true) :: H3.kn }).put o.dst vX,({ Q1 with m:=H3.m + 1,kn:=(H3.m,true) :: Q1.kn }).put o.dst uX),
                    ([PO.e el k,PO.flat y,PO.app el k b (H3.m + 1) y],({ (H3.bind 3) with kn:=(H3.m,false) :: H3.kn }).put o.dst (.p false [.d (H3.m + 2)]),
                      (({ Q1 with m:=H3.m + 3,kn:=(H3.m,false) :: Q1.kn }).push (.row Q1.c el k (H3.m + 2))).put o.dst (.p false [.own Q1.n Q1.c])))
                | _=>none)
              | none=>none)
            | none=>none)
          | none=>none) else none
        | none=>none) else none
      | _,_=>none)
    | none=>none) else none
  | _=>none
theorem hApp_ok {pre fs : List PO} {i : Nat} {H1 Q1 H2 Q2 : Sy} {a b : Pg} (hh : hApp P pr H Q o = some (pre,i,(H1,Q1),(fs,H2,Q2))) (hr : Rel H ρ σh h) (hq : Rel Q ρ σq q) (hp : Pre σh σq) (hw : W P R (nds (pre.map .po) (.ite i a (nds (fs.map .po) b))) L ρ) :
    ∃ ρ' σq' kd x q' H' Q' g,HRun P pr h q o kd x q'∧Rel H' ρ' σh (h.put o.dst x)∧Rel Q' ρ' σq' q'∧Pre σh σq'∧((H' = H1∧Q' = Q1∧g = a) ∨ (H' = H2∧Q' = Q2∧g = b))∧W P R g L ρ'∧Pre ρ ρ':=by
  unfold hApp at hh
  split at hh
  · rename_i X Y t t' hop
    split at hh
    · rename_i htp
      obtain ⟨rfl,hpr⟩:=htp
      split at hh
      · rename_i el k ht
        split at hh
        · rename_i zs b' hz hby
          split at hh
          · rename_i hzk
            split at hh
            · rename_i pX vX S1 hX
              split at hh
              · rename_i hE
                split at hh
                · rename_i qX uX T1 hX2
                  split at hh
                  · rename_i pY vY S2 hY
                    split at hh
                    · rename_i cY hcY
                      split at hh
                      · rename_i pR y S3 hR
                        injection hh with hh;injection hh with e1 hh;injection hh with e2 hh;injection hh with e3 e4
                        injection e3 with e3 e5;injection e4 with e4 e6;injection e6 with e6 e7
                        subst e1 e2 e3 e4 e5 e6 e7
                        obtain ⟨ρ1,he,hw2,hp1⟩:=wn_po (w_nds hw)
                        obtain ⟨ρa,a1,a2⟩:=evalPs_app he
                        obtain ⟨ρb,b1,b2⟩:=evalPs_app a2
                        obtain ⟨ρc,c1,c2⟩:=evalPs_app b2
                        obtain ⟨ρd,d1,d2⟩:=evalPs_app c2
                        obtain ⟨x1,x2⟩:=sev_ok hX a1 hr
                        have hqa : Rel { Q with m:=S1.m } ρa σq q:=by rw [← x2.m];exact hq.sync (evalPs_pre a1)
                        obtain ⟨u1,u2⟩:=sev_ok hX2 b1 hqa
                        have hhb : Rel { S1 with m:=T1.m } ρb σh h:=by rw [← u2.m];exact x2.sync (evalPs_pre b1)
                        obtain ⟨y1,y2⟩:=sev_ok hY c1 hhb
                        obtain ⟨yc,g1,g2⟩:=one_rv hcY y1
                        obtain ⟨ds,r1,r2,-,r4⟩:=sRd_ok hR d1 y2 (ys:=[yc]) ⟨g2,trivial⟩
                        match ds,r1,r2 with
                        | [d],r1,r2 =>
                        obtain ⟨out,o1,rfl⟩:=evalPs_one d2
                        simp only [evalP,r1.1] at o1
                        split at o1
                        · rename_i t2 k2 es hd
                          injection hd with hd;subst hd
                          injection o1 with o1;subst o1
                          have hrd : rdC h yc (.sl t2 k2 es):=(r2 rfl).1
                          have hop' : o.op = .call ⟨.builtin .append,#[X,Y],#[t',t']⟩:=hop
                          have hm3 : ρd.length = S3.m:=r4.m
                          have pbd : Pre ρb (ρd ++ [.sc (.bool es.isEmpty)]):=(evalPs_pre c1).trans ((evalPs_pre d1).trans (Pre.app _ _))
                          have hki : (ρd ++ [DV.sc (.bool es.isEmpty)])[S3.m]? = some (.sc (.bool es.isEmpty)):=by rw [← hm3];simp
                          have hXe:=eEmp_ok hE x1
                          simp only [W,hki] at hw2
                          have hQ1 : Rel { T1 with m:=S3.m + 1 } (ρd ++ [DV.sc (.bool es.isEmpty)]) σq q:=by
                            have:=u2.sync pbd
                            rw [show (ρd ++ [DV.sc (.bool es.isEmpty)]).length = S3.m + 1 by simp [hm3]] at this
                            exact this
                          have hH1 : Rel (S3.bind 1) (ρd ++ [DV.sc (.bool es.isEmpty)]) σh h:=r4.bind rfl
                          have pad : Pre ρa (ρd ++ [.sc (.bool es.isEmpty)]):=(evalPs_pre b1).trans pbd
                          cases hes : es.isEmpty with
                          | true =>
                            have hnil : es = []:=by simpa using hes
                            subst hnil
                            simp only [List.isEmpty_nil] at hw2 hki hQ1 hH1 pbd pad hp1
                            refine ⟨_,σq,.p o.op,h.ev X,q.put o.dst (q.ev X),_,_,_,.inr (.inr (.inr (.inr (.inr (.inr (.inl ⟨X,Y,t',el,k,yc,t2,k2,hop',hpr,ht,hXe,g1,hrd,rfl,rfl,rfl⟩)))))),?_,?_,hp,.inl ⟨rfl,rfl,rfl⟩,hw2,hp1⟩
                            · exact (hH1.know hki).put (x1.mono pad (Pre.refl _))
                            · exact (hQ1.know hki).put (u1.mono pbd (Pre.refl _))
                          | false =>
                            rw [hes] at hw2 hki hQ1 hH1 pbd pad hp1
                            simp only at hw2
                            obtain ⟨ρ2,k1,hw3,hp2⟩:=wn_po (w_nds hw2)
                            obtain ⟨ρe,f1,f2⟩:=evalPs_app (ps:=[PO.e el k]) (qs:=[PO.flat y,PO.app el k b' (S3.m + 1) y]) k1
                            obtain ⟨oute,oe,rfl⟩:=evalPs_one f1
                            simp only [evalP] at oe;injection oe with oe;subst oe
                            obtain ⟨ρf,f3,f4⟩:=evalPs_app (ps:=[PO.flat y]) (qs:=[PO.app el k b' (S3.m + 1) y]) f2
                            obtain ⟨rfl,hfl⟩:=flat_eval f3
                            obtain ⟨es1,fs1,t3,q1,q2,q3,q4,rfl⟩:=app_eval f4
                            have hy2 : (ρd ++ [DV.sc (.bool false)] ++ [DV.sl el k []])[y]? = some (.sl t2 k2 es):=((Pre.app _ _).trans (Pre.app _ _)).get r1.1
                            rw [hy2] at q2;injection q2 with q2;injection q2 with q2 q2' q2''
                            subst q2 q2' q2''
                            have h0 : (ρd ++ [DV.sc (.bool false)] ++ [DV.sl el k2 []])[S3.m + 1]? = some (.sl el k2 []):=by rw [← hm3];simp
                            rw [h0] at q1;injection q1 with q1;injection q1 with _ _ q1
                            subst q1
                            simp only [List.length_nil,Nat.zero_add,List.nil_append] at q3 q4 hw3 hp2
                            have hne : es ≠ []:=by intro e;subst e;simp at hes
                            have hlen : (ρd ++ [DV.sc (.bool false)] ++ [DV.sl el k2 []] ++ [DV.sl el k2 es]).length = S3.m + 3:=by simp [hm3]
                            have p2 : Pre (ρd ++ [DV.sc (.bool false)]) (ρd ++ [DV.sc (.bool false)] ++ [DV.sl el k2 []] ++ [DV.sl el k2 es]):=(Pre.app _ _).trans (Pre.app _ _)
                            have hx2 : (ρd ++ [DV.sc (.bool false)] ++ [DV.sl el k2 []] ++ [DV.sl el k2 es])[S3.m + 2]? = some (.sl el k2 es):=by rw [← hm3];simp
                            have hHH:=(hH1.know hki).sync p2
                            have hQQ:=(hQ1.know hki).sync p2
                            rw [hlen] at hHH hQQ
                            refine ⟨_,σq ++ [q.c],.c _,_,_,_,_,_,.inr (.inr (.inr (.inr (.inr (.inl ⟨X,Y,t',el,k2,b',yc,t2,es,zs,_,hop',hpr,ht,hz,hzk.1,hzk.2,hby,hXe,g1,hrd,hne,hfl _ _ _ hy2,q3,q4,rfl,rfl,rfl,rfl⟩))))),?_,?_,hp.trans (Pre.app _ _),.inr ⟨rfl,rfl,rfl⟩,hw3,hp1.trans hp2⟩
                            · exact hHH.put (v:=.p false [.d (S3.m + 2)]) ⟨rfl,hx2,trivial⟩
                            · exact (hQQ.push (so:=.row T1.c el k2 (S3.m + 2)) (ob:=.row q.c el k2 es true) ⟨hQQ.last _,rfl,rfl,rfl,hx2⟩).put ⟨rfl,⟨hQQ.n,hQQ.last _⟩,trivial⟩
                        · cases o1
                      · cases hh
                    · cases hh
                  · cases hh
                · cases hh
              · cases hh
            · cases hh
          · cases hh
        · cases hh
      · cases hh
    · cases hh
  · cases hh
def hrun (P : Program) (ow : OwK) (pr : Bool) (o : Oper) (H Q : Sy) (k : Sy→Sy→Option Pg) : Option Pg:=match hApp P pr H Q o with
  | some (pre,i,(H1,Q1),(fs,H2,Q2))=>(match k H1 Q1,k H2 Q2 with | some a,some b=>some (nds (pre.map .po) (.ite i a (nds (fs.map .po) b))) | _,_=>none)
  | none=>match sHead P ow pr H Q o with | some (n,H',Q')=>(match k H' Q' with | some g=>some (nds n g) | none=>none) | none=>none
def genH (P : Program) (N : Nat) (ow : OwK) (pr : Bool) (ops : Array Oper) (k : Sy→Option Pg) : List Oper→Sy→Sy→Option Pg
  | [],H,Q=>k Q
  | o :: r,H,Q=>(match o.dst with
    | some d=>if d < N then (match o.guard with
      | none=>hrun P ow pr o H Q fun H' Q'=>genH P N ow pr ops k r H' Q'
      | some (g,want)=>(match gslot ops g with
        | some t=>if t < N then (match alook H.sl t with
          | some (.tup [])=>genH P N ow pr ops k r (H.put o.dst (.tup [])) (Q.del o.dst)
          | some (.p false [.d i])=>(match alook H.kn i with
            | some b=>if b = want then hrun P ow pr o H Q fun H' Q'=>genH P N ow pr ops k r H' Q' else genH P N ow pr ops k r (H.put o.dst (.tup [])) (Q.del o.dst)
            | none=>(match (hrun P ow pr o { H with kn:=(i,want) :: H.kn } { Q with kn:=(i,want) :: Q.kn } fun H' Q'=>genH P N ow pr ops k r H' Q'),genH P N ow pr ops k r ({ H with kn:=(i,!want) :: H.kn }.put o.dst (.tup [])) ({ Q with kn:=(i,!want) :: Q.kn }.del o.dst) with
              | some a,some b=>some (if want then .ite i a b else .ite i b a)
              | _,_=>none))
          | _=>none) else none
        | none=>none)) else none
    | none=>none)
theorem hrun_pg {k : Sy→Sy→Option Pg} {pg : Pg} (hh : hrun P ow pr o H Q k = some pg) (hr : Rel H ρ σh h) (hq : Rel Q ρ σq q) (hp : Pre σh σq) (hw : W P R pg L ρ) :
    ∃ ρ' σq' kd x q' H' Q' g,HRun P pr h q o kd x q'∧Rel H' ρ' σh (h.put o.dst x)∧Rel Q' ρ' σq' q'∧Pre σh σq'∧k H' Q' = some g∧W P R g L ρ'∧Pre ρ ρ':=by
  unfold hrun at hh
  split at hh
  · rename_i pre i H1 Q1 fs H2 Q2 ho
    split at hh
    · rename_i ga gb h1 h2
      injection hh with hh;subst hh
      obtain ⟨ρ',σq',kd,x,q',H',Q',g,k1,k2,k3,k4,k5,k6,k7⟩:=hApp_ok ho hr hq hp hw
      refine ⟨ρ',σq',kd,x,q',H',Q',g,k1,k2,k3,k4,?_,k6,k7⟩
      rcases k5 with ⟨rfl,rfl,rfl⟩ | ⟨rfl,rfl,rfl⟩
      · exact h1
      · exact h2
    · cases hh
  · split at hh
    · rename_i n H' Q' ho
      split at hh
      · rename_i g hg
        injection hh with hh;subst hh
        obtain ⟨ρ',σq',kd,x,q',h1,h2,h3,h4,h5,h6⟩:=sHead_ok ho hr hq hp (w_nds hw)
        exact ⟨ρ',σq',kd,x,q',H',Q',g,h1,h2,h3,h4,hg,h5,h6⟩
      · cases hh
    · cases hh
theorem genH_ok {ops : Array Oper} {k : Sy→Option Pg} : ∀ {l : List Oper} {H Q : Sy} {pg : Pg} {ρ : List DV} {σq : List Nat} {h q : AS},genH P N ow pr ops k l H Q = some pg→Rel H ρ σh h→Rel Q ρ σq q→Pre σh σq→W P R pg L ρ →
    ∃ kds xs qF S' ρ' σ' g,Heads P N pr ops l h q kds xs qF∧Rel S' ρ' σ' qF∧k S' = some g∧W P R g L ρ'∧Pre ρ ρ'
  | [],H,Q,pg,ρ,σq,h,q,hh,hr,hq,hp,hw=>⟨[],[],q,Q,ρ,σq,pg,rfl,hq,hh,hw,Pre.refl _⟩
  | o :: r,H,Q,pg,ρ,σq,h,q,hh,hr,hq,hp,hw=>by
    simp only [genH] at hh
    split at hh
    · rename_i d hd
      split at hh
      · rename_i hdN
        have run : ∀ {H Q : Sy} {pg : Pg} {ρ0 : List DV},Pre ρ0 ρ→(hrun P ow pr o H Q fun H' Q'=>genH P N ow pr ops k r H' Q') = some pg→Rel H ρ σh h→Rel Q ρ σq q→W P R pg L ρ→(∀ kd x q1,HRun P pr h q o kd x q1→HStp P N pr ops h q o kd x q1 o.guard) →
            ∃ kds xs qF S' ρ' σ' g,Heads P N pr ops (o :: r) h q kds xs qF∧Rel S' ρ' σ' qF∧k S' = some g∧W P R g L ρ'∧Pre ρ0 ρ':=by
          intro H Q pg ρ0 hp0 hh hr hq hw hst
          obtain ⟨ρ1,σq1,kd,x,q1,H1,Q1,g1,r1,r2,r3,r4,r5,r6,r7⟩:=hrun_pg hh hr hq hp hw
          obtain ⟨kds,xs,qF,S',ρ',σ',g,f1,f2,f3,f4,f5⟩:=genH_ok r5 r2 r3 r4 r6
          exact ⟨kd :: kds,x :: xs,qF,S',ρ',σ',g,⟨⟨d,hd,hdN⟩,q1,hst kd x q1 r1,f1⟩,f2,f3,f4,hp0.trans (r7.trans f5)⟩
        have skip : ∀ {H Q : Sy} {pg : Pg},genH P N ow pr ops k r (H.put o.dst (.tup [])) (Q.del o.dst) = some pg→Rel H ρ σh h→Rel Q ρ σq q→W P R pg L ρ→HStp P N pr ops h q o (.v (.tup [])) (.tup []) (q.put o.dst (finV pr (.tup []))) o.guard →
            ∃ kds xs qF S' ρ' σ' g,Heads P N pr ops (o :: r) h q kds xs qF∧Rel S' ρ' σ' qF∧k S' = some g∧W P R g L ρ'∧Pre ρ ρ':=by
          intro H Q pg hh hr hq hw hst
          obtain ⟨kds,xs,qF,S',ρ',σ',g,f1,f2,f3,f4,f5⟩:=genH_ok hh (hr.put (v:=.tup []) (x:=.tup []) trivial) (hq.del (x:=finV pr (.tup []))) hp hw
          exact ⟨_ :: kds,_ :: xs,qF,S',ρ',σ',g,⟨⟨d,hd,hdN⟩,_,hst,f1⟩,f2,f3,f4,f5⟩
        split at hh
        · rename_i hg
          exact run (Pre.refl _) hh hr hq hw (fun kd x q1 hR=>by rw [hg];exact hR)
        · rename_i gi want hg
          split at hh
          · rename_i t hgs
            split at hh
            · rename_i htN
              split at hh
              · rename_i hi
                have hs : h.sl t = .tup []:=by
                  have:=hr.sl t _ hi
                  cases hx : h.sl t with
                  | tup ys=>rw [hx] at this;cases ys with
                    | nil=>rfl
                    | cons=>exact this.elim
                  | p=>rw [hx] at this;exact this.elim
                  | und=>rw [hx] at this;exact this.elim
                exact skip hh hr hq hw (by rw [hg];exact ⟨t,none,hgs,htN,hs,by rw [if_neg (fun e=>by cases e)];exact ⟨rfl,rfl,rfl⟩⟩)
              · rename_i i hi
                split at hh
                · rename_i b hb
                  have hs:=slot_bool hr hi (hr.kn i b hb)
                  split at hh
                  · rename_i e
                    exact run (Pre.refl _) hh hr hq hw (fun kd x q1 hR=>by rw [hg];exact ⟨t,some b,hgs,htN,hs,by rw [if_pos (by rw [e])];exact hR⟩)
                  · rename_i e
                    exact skip hh hr hq hw (by rw [hg];exact ⟨t,some b,hgs,htN,hs,by rw [if_neg (fun h=>e (Option.some.inj h))];exact ⟨rfl,rfl,rfl⟩⟩)
                · split at hh
                  · rename_i ga gb h1 h2
                    injection hh with hh;subst hh
                    have hw' : ∃ b,ρ[i]? = some (.sc (.bool b))∧(if b = want then W P R ga L ρ else W P R gb L ρ):=by
                      cases want with
                      | true =>
                        simp only [if_true,W] at hw
                        split at hw
                        · rename_i c hc
                          refine ⟨c,hc,?_⟩
                          cases c <;> simpa using hw
                        · exact hw.elim
                      | false =>
                        simp only [Bool.false_eq_true,if_false,W] at hw
                        split at hw
                        · rename_i c hc
                          refine ⟨c,hc,?_⟩
                          cases c <;> simpa using hw
                        · exact hw.elim
                    obtain ⟨b,hb,hw'⟩:=hw'
                    have hs:=slot_bool hr hi hb
                    split at hw'
                    · rename_i e;subst e
                      exact run (Pre.refl _) h1 (hr.know hb) (hq.know hb) hw' (fun kd x q1 hR=>by rw [hg];exact ⟨t,some b,hgs,htN,hs,by rw [if_pos rfl];exact hR⟩)
                    · rename_i e
                      have hb' : ρ[i]? = some (.sc (.bool (!want))):=by rw [hb];cases b <;> cases want <;> simp_all
                      exact skip h2 (hr.know hb') (hq.know hb') hw' (by rw [hg];exact ⟨t,some b,hgs,htN,hs,by rw [if_neg (fun h=>e (Option.some.inj h))];exact ⟨rfl,rfl,rfl⟩⟩)
                  · cases hh
              · cases hh
            · cases hh
          · cases hh
      · cases hh
    · cases hh
def sSet (P : Program) (S : Sy) (i : Nat) : Option (List PO × Sy) :=
  match alook S.ob i with
  | some (.arr st el k es)=>(match sGive es.flatten ((List.replicate es.length (tcl P 9 el)).flatten) S with
    | some (q,xs,S2)=>if xs.length = es.length * k then some (q ++ [PO.mk el k (chunk k es.length xs)],{ (S2.bind 1) with ob:=(i,.row st el k S2.m) :: S2.ob }) else none
    | none=>none)
  | _=>some ([],S)
theorem sSet_ok {i : Nat} (hh : sSet P S i = some (ps,S')) (he : evalPs ps ρ = some ρ') (hr : Rel S ρ σ s) : ∃ s',Re s s'∧Rel S' ρ' σ s':=by
  unfold sSet at hh
  split at hh
  · rename_i st el k es hob
    split at hh
    · rename_i qq xs S2 hg
      split at hh
      · rename_i hl
        injection hh with hh;injection hh with e1 e2;subst e1 e2
        obtain ⟨hlt,hro⟩:=hr.ob _ _ hob
        cases hx : s.ob i with
        | arr st' t' k' ys =>
          rw [hx] at hro
          obtain ⟨h1,rfl,rfl,h2⟩:=hro
          obtain ⟨ρ1,a1,a2⟩:=evalPs_app he
          obtain ⟨s2,ds,g1,g2,g3,g4⟩:=sGive_ok hg a1 hr h2.flat
          obtain ⟨ee,c1,c2,c3,c4⟩:=chunk_rd (n:=es.length) g2 hl
          have hob2 : s2.ob i = .arr st' t' k' ys:=by
            rw [g4 i (fun st a t k x=>by unfold Sy.own;rw [hob];simp only [Option.bind_some];constructor <;> split <;> simp)];exact hx
          have hn2 : s2.n = s.n:=g1.1
          have ho1 : s.own? i st' = some (.arr st' t' k' ys):=by unfold AS.own?;rw [hr.n,if_pos hlt,hx];simp [Ob.st]
          have ho2 : s2.own? i st' = some (.arr st' t' k' ys):=by unfold AS.own?;rw [hn2,hr.n,if_pos hlt,hob2];simp [Ob.st]
          refine ⟨{ s2 with ob:=upd s2.ob i (.row st' t' k' ee true) },fun w0 N a w E hR=>arr_rowG hR ho1 (by rw [c2];exact g1) (by rw [c3,h2.len]) c4 ho2,?_⟩
          obtain ⟨out,o1,rfl⟩:=evalPs_one a2
          rw [mk_eval c1 c4] at o1;injection o1 with o1;subst o1
          have hb:=g3.bind (out:=[DV.sl t' k' ee]) (k:=1) rfl
          refine hb.upd (s':={ s2 with ob:=upd s2.ob i (.row st' t' k' ee true) }) (i:=i) (n':=(S2.bind 1).n) (c':=(S2.bind 1).c) (so:=.row st t' k' S2.m) (Pre.refl _) hb.c hb.n (Nat.le_refl _) (by rw [← hb.n,hn2,hr.n];exact hlt) rfl (fun j hj=>upd_ne _ _ hj) ?_
          simp only [upd_same]
          exact ⟨h1,rfl,rfl,rfl,by rw [← g3.m];simp⟩
        | var=>rw [hx] at hro;exact hro.elim
        | row=>rw [hx] at hro;exact hro.elim
        | frz=>rw [hx] at hro;exact hro.elim
        | dx=>rw [hx] at hro;exact hro.elim
        | opn=>rw [hx] at hro;exact hro.elim
        | cur=>rw [hx] at hro;exact hro.elim
        | dead=>rw [hx] at hro;exact hro.elim
      · cases hh
    · cases hh
  · injection hh with hh;injection hh with e1 e2;subst e1 e2
    simp only [evalPs] at he;injection he with he;subst he
    exact ⟨s,Re.refl _,hr⟩
def sSets (P : Program) : List Nat→Sy→Option (List PO × Sy)
  | [],S=>some ([],S)
  | i :: r,S=>(match sSet P S i with | some (p,S1)=>(match sSets P r S1 with | some (q,S2)=>some (p ++ q,S2) | none=>none) | none=>none)
theorem sSets_ok : ∀ {l : List Nat} {S S' : Sy} {ps : List PO} {ρ ρ' : List DV} {s : AS},sSets P l S = some (ps,S')→evalPs ps ρ = some ρ'→Rel S ρ σ s→∃ s',Re s s'∧Rel S' ρ' σ s'
  | [],S,S',ps,ρ,ρ',s,hh,he,hr=>by
    simp only [sSets] at hh;injection hh with hh;injection hh with e1 e2;subst e1 e2
    simp only [evalPs] at he;injection he with he;subst he
    exact ⟨s,Re.refl _,hr⟩
  | i :: r,S,S',ps,ρ,ρ',s,hh,he,hr=>by
    simp only [sSets] at hh
    split at hh
    · rename_i p S1 h1
      split at hh
      · rename_i qq S2 h2
        injection hh with hh;injection hh with e1 e2;subst e1 e2
        obtain ⟨ρ1,a1,a2⟩:=evalPs_app he
        obtain ⟨s1,r1,k1⟩:=sSet_ok h1 a1 hr
        obtain ⟨s2,r2,k2⟩:=sSets_ok h2 a2 k1
        exact ⟨s2,r1.trans r2,k2⟩
      · cases hh
    · cases hh
def nK (K : Kt) : Kt:=fun lv e S=>match e with | .normal=>K lv .normal S | _=>none
theorem nK_ok {Q : Exit→AS→Prop} {K : Kt} (hk : KOk P R L ρ Q K) : KOk P R L ρ (onlyN Q) (nK K):=by
  intro L' ρ' hL hp e S pg hpg σ s hr hw
  cases e with
  | normal=>exact hk L' ρ' hL hp .normal S pg hpg σ s hr hw
  | _=>cases hpg
def dtS (ds : List Nat) (Q : Sy) : SC→Bool
  | .d i=>ds.contains i
  | .nil=>true
  | .own j s2=>(Q.own j s2).isSome
  | .ptr j s2 _=>(Q.own j s2).isSome
  | _=>false
def sCF (P : Program) (FL : List (TypeId × Nat × Nat)) (ds : List Nat) (Q : Sy) : Bool:=FL.all fun x=>match alook Q.sl x.2.1 with
  | some (.p false [.ptr i st off])=>(match Q.own i st with
    | some (.var _ _ cs)=>(match sLd P x.1 (cs.drop off),alook Q.sl x.2.2 with
      | some (.p b xs),some (.p b' xs')=>decide (b = b'∧xs = xs') && ((b || xs.length == 1) && xs.all (dtS ds Q))
      | _,_=>false)
    | _=>false)
  | _=>false
theorem dtS_eq {ds : List Nat} : ∀ {xs : List SC} {ys zs : List AC},xs.all (dtS ds S) = true→RCs ρ σ xs ys→RCs ρ σ xs zs→ys = zs
  | [],ys,zs,_,h1,h2=>by
    cases ys <;> cases zs <;> first | rfl | exact h1.elim | exact h2.elim
  | x :: xs,ys,zs,h,h1,h2=>by
    rw [List.all_cons,Bool.and_eq_true] at h
    cases ys with
    | nil=>exact h1.elim
    | cons y ys=>cases zs with
      | nil=>exact h2.elim
      | cons z zs =>
        have e2:=dtS_eq h.2 h1.2 h2.2
        have a1:=h1.1
        have a2:=h2.1
        subst e2
        congr 1
        cases x with
        | d i =>
          obtain ⟨u,rfl,hu⟩:=rc_d a1
          obtain ⟨v,rfl,hv⟩:=rc_d a2
          rw [hu] at hv;injection hv with hv;rw [hv]
        | nil=>cases y <;> cases z <;> first | rfl | exact a1.elim | exact a2.elim
        | own i st =>
          cases y <;> first | exact a1.elim | skip
          cases z <;> first | exact a2.elim | skip
          obtain ⟨rfl,g1⟩:=a1
          obtain ⟨rfl,g2⟩:=a2
          rw [g1] at g2;injection g2 with g2;rw [g2]
        | ptr i st off =>
          cases y <;> first | exact a1.elim | skip
          cases z <;> first | exact a2.elim | skip
          obtain ⟨rfl,g1,rfl⟩:=a1
          obtain ⟨rfl,g2,rfl⟩:=a2
          rw [g1] at g2;injection g2 with g2;rw [g2]
        | _=>exact absurd h.1 (by simp [dtS])
theorem dtS_ok {ds : List Nat} (hr : Rel S ρ σ s) (hsc : ∀ i ∈ ds,∃ v,ρ[i]? = some (.sc v)) : ∀ {xs : List SC} {ys : List AC},xs.all (dtS ds S) = true→RCs ρ σ xs ys→∀ y ∈ ys,dtC s.lv y
  | [],ys,_,h1=>by
    cases ys with
    | nil=>intro y hy;cases hy
    | cons=>exact h1.elim
  | x :: xs,ys,h,h1=>by
    rw [List.all_cons,Bool.and_eq_true] at h
    cases ys with
    | nil=>exact h1.elim
    | cons y ys =>
      have ih:=dtS_ok hr hsc h.2 h1.2
      have a1:=h1.1
      intro z hz
      rcases List.mem_cons.1 hz with rfl | hz
      · cases x with
        | d i =>
          obtain ⟨u,rfl,hu⟩:=rc_d a1
          obtain ⟨v,hv⟩:=hsc i (by simpa [dtS] using h.1)
          rw [hu] at hv;injection hv with hv
          exact .inl ⟨v,by rw [hv]⟩
        | nil=>cases z <;> first | exact .inr (.inl rfl) | exact a1.elim
        | own i st =>
          cases z <;> first | exact a1.elim | skip
          obtain ⟨rfl,g1⟩:=a1
          obtain ⟨ob,hob⟩:=Option.isSome_iff_exists.1 h.1
          obtain ⟨o2,m1,m2,m3,m4⟩:=hr.own hob g1
          exact .inr (.inr (.inl ⟨_,_,rfl,(own?_some m1).2.2⟩))
        | ptr i st off =>
          cases z <;> first | exact a1.elim | skip
          obtain ⟨rfl,g1,rfl⟩:=a1
          obtain ⟨ob,hob⟩:=Option.isSome_iff_exists.1 h.1
          obtain ⟨o2,m1,m2,m3,m4⟩:=hr.own hob g1
          exact .inr (.inr (.inr ⟨_,_,_,rfl,(own?_some m1).2.2⟩))
        | _=>exact absurd h.1 (by simp [dtS])
      · exact ih z hz
theorem sCF_ok {FL : List (TypeId × Nat × Nat)} {ds : List Nat} (hh : sCF P FL ds S = true) (hr : Rel S ρ σ s) (hsc : ∀ i ∈ ds,∃ v,ρ[i]? = some (.sc v)) : CF P FL s:=by
  intro x hx
  have:=List.all_eq_true.1 hh x hx
  split at this
  · rename_i i st off h1
    split at this
    · rename_i a ty cs ho
      split at this
      · rename_i b xs b' xs' h2 h3
        simp only [Bool.and_eq_true,decide_eq_true_eq] at this
        obtain ⟨⟨rfl,rfl⟩,hlen,hall⟩:=this
        obtain ⟨y,y1,y2⟩:=one_rv (c:=.ptr i st off) rfl (hr.sl _ _ h1)
        cases y <;> first | exact y2.elim | skip
        obtain ⟨rfl,hst,rfl⟩:=y2
        obtain ⟨o',k1,k2,k3,k4⟩:=hr.own ho hst
        cases o' <;> first | exact k2.elim | skip
        rename_i b2 ty' ys
        obtain ⟨k5,rfl,k6⟩:=k2
        obtain rfl:=own_stV k1 rfl
        obtain ⟨v,v1,v2⟩:=sLd_ok (P:=P) h2 (k6.drop _)
        have w2:=hr.sl _ _ h3
        generalize hz : s.sl x.2.2 = z at w2
        cases v with
        | p bv vs=>cases z with
          | p bz zs =>
            obtain ⟨rfl,v3⟩:=v2
            obtain ⟨rfl,w3⟩:=w2
            obtain rfl:=dtS_eq hall v3 w3
            refine ⟨_,_,_,_,_,_,_,y1,k1,v1,rfl,fun hb=>?_,dtS_ok hr hsc hall v3⟩
            rw [hb] at hlen
            rw [← RCs.len v3]
            simpa using hlen
          | _=>exact w2.elim
        | _=>exact v2.elim
      · cases this
    · cases this
  · cases this
def dsCF (FL : List (TypeId × Nat × Nat)) (Q : Sy) : List Nat:=FL.flatMap fun x=>match alook Q.sl x.2.2 with
  | some (.p _ xs)=>xs.filterMap fun c=>match c with | .d i=>some i | _=>none
  | _=>[]
theorem scs_ok : ∀ {ds : List Nat} {ρ ρ' : List DV},evalPs (ds.map .sc) ρ = some ρ'→ρ' = ρ∧∀ i ∈ ds,∃ v,ρ[i]? = some (.sc v)
  | [],ρ,ρ',h=>by simp only [List.map_nil,evalPs] at h;injection h with h;exact ⟨h.symm,by simp⟩
  | i :: ds,ρ,ρ',h=>by
    simp only [List.map_cons,evalPs] at h
    split at h
    · rename_i out ho
      simp only [evalP] at ho
      split at ho
      · rename_i d hd
        split at ho
        · rename_i hs
          injection ho with ho;subst ho
          rw [List.append_nil] at h
          obtain ⟨e,ih⟩:=scs_ok h
          refine ⟨e,fun j hj=>?_⟩
          rcases List.mem_cons.1 hj with rfl | hj
          · cases d with
            | sc v=>exact ⟨v,hd⟩
            | sl=>cases hs
          · exact ih j hj
        · cases ho
      · cases ho
    · cases h
def genT (P : Program) (N : Nat) (ow : OwK) (chk : Sy→Bool) : List Oper→Nat→Sy→Kt→Option Pg
  | [],lv,S,K=>K lv .normal S
  | o :: r,lv,S,K=>if dB N o.dst && o.guard.isNone then run1 P ow o S (fun S'=>if chk S' then genT P N ow chk r lv S' K else none) else none
theorem genT_ok {Q : Exit→AS→Prop} {FL : List (TypeId × Nat × Nat)} {ds : List Nat} {K : Kt} : ∀ {l : List Oper} {lv : Nat} {S : Sy} {pg : Pg} {ρ : List DV} {σ : List Nat} {s : AS},(∀ i ∈ ds,∃ v,ρ[i]? = some (.sc v))→genT P N ow (sCF P FL ds) l lv S K = some pg→lv = L.length→Rel S ρ σ s→KOk P R L ρ Q K→W P R pg L ρ→AOpsC P N l Q (CF P FL) s
  | [],lv,S,pg,ρ,σ,s,hsc,h,hl,hr,hk,hw=>fun w0 a w E hR=>⟨s,E,hk L ρ (Pre.refl _) (Pre.refl _) _ _ _ (by rw [← hl];exact h) _ _ hr hw,hR⟩
  | o :: r,lv,S,pg,ρ,σ,s,hsc,h,hl,hr,hk,hw=>by
    simp only [genT] at h
    split at h
    · rename_i hd
      simp only [Bool.and_eq_true] at hd
      obtain ⟨ρ',σ',s',S',g,r1,r2,r3,r4,r5⟩:=run1_ok h hd.1 hr hw
      split at r3
      · rename_i hc
        have hsc' : ∀ i ∈ ds,∃ v,ρ'[i]? = some (.sc v):=fun i hi=>by obtain ⟨v,hv⟩:=hsc i hi;exact ⟨v,r5.get hv⟩
        have hC:=sCF_ok hc r2 hsc'
        have ih:=genT_ok hsc' r3 hl r2 (hk.mono (Pre.refl _) r5) r4
        intro w0 a w E hR
        refine ⟨by simpa using hd.2,Oper.wp_mono (fun a' w' hp=>?_) (r1 w0 a w E hR)⟩
        obtain ⟨E',hR'⟩:=hp
        exact ⟨⟨s',E',hC,hR'⟩,ih w0 a' w' E' hR'⟩
      · cases r3
    · cases h
def dstOk (FL : List (TypeId × Nat × Nat)) (o : Oper) : Bool:=FL.all fun x=>!(o.dst == some x.2.1) && !(o.dst == some x.2.2)
def drawD (P : Program) (N : Nat) (ow : OwK) (dn : List (Nat × Nat × Bool × List Nat)) : Dt:=fun id ops lv S K =>
  match alook dn id with
  | some (n,pr,[])=>if P.follows .mixedOrders && drawB ops.toList n then
      genH P N ow pr ops.toList.toArray (fun Q=>match sSets P ((List.range (Q.n - S.n)).map (S.n + ·)) Q with | some (ps,Q')=>(match genL P N ow ops.toList.toArray (ops.toList.drop n) lv Q' K with | some g=>some (nds (ps.map .po) g) | none=>none) | none=>none) (ops.toList.take n) S S
    else none
  | some (n,pr,F)=>if P.follows .mixedOrders && (eagB ops.toList n F && drawB (addEs ops.toList n F) n) then (if noLd ops.toList F then
      genH P N ow pr (addEs ops.toList n F).toArray (fun Q=>match sSets P ((List.range (Q.n - S.n)).map (S.n + ·)) Q with | some (ps,Q')=>(match genL P N ow (addEs ops.toList n F).toArray ((addEs ops.toList n F).drop n) lv Q' (nK K) with | some g=>some (nds (ps.map .po) g) | none=>none) | none=>none) ((addEs ops.toList n F).take n) S S
    else if ((addEs ops.toList n F).take n).all (fun o=>plainO o.op) && ((addEs ops.toList n F).drop n).all (dstOk (ldsF ops.toList F)) then
      genH P N ow true (addEs ops.toList n F).toArray (fun Q=>if sCF P (ldsF ops.toList F) (dsCF (ldsF ops.toList F) Q) Q then (match genT P N ow (sCF P (ldsF ops.toList F) (dsCF (ldsF ops.toList F) Q)) ((addEs ops.toList n F).drop n) lv Q (nK K) with | some g=>some (nds (((dsCF (ldsF ops.toList F) Q).map .sc).map .po) g) | none=>none) else none) ((addEs ops.toList n F).take n) S S
    else none) else none
  | none=>none
theorem drawD_ok {dn : List (Nat × Nat × Bool × List Nat)} : DOk P R N (drawD P N ow dn):=by
  intro id ops lv S K pg hh L ρ σ s Qp hl hr hk hw
  unfold drawD at hh
  split at hh
  · rename_i n pr hdn
    split at hh
    · rename_i hc
      simp only [Bool.and_eq_true] at hc
      obtain ⟨kds,xs,qF,S',ρ1,σ1,g,f1,f2,f3,f4,f5⟩:=genH_ok hh hr hr (Pre.refl _) hw
      split at f3
      · rename_i ps Q' hs
        split at f3
        · rename_i g' hg'
          injection f3 with f3;subst f3
          obtain ⟨ρ2,he,hw2,hp2⟩:=wn_po (w_nds f4)
          obtain ⟨s2,r2,k2⟩:=sSets_ok hs he f2
          have ht : AOps P N ops.toList.toArray (ops.toList.drop n) Qp qF:=aops_re r2 (genL_ok hg' hl k2 (hk.mono (Pre.refl _) (f5.trans hp2)) hw2)
          have:=awp_draw (id:=id) (l:=ops.toList) n pr hc.1 hc.2 f1 ht
          simpa using this
        · cases f3
      · cases f3
    · cases hh
  · rename_i n pr F _ hdn
    split at hh
    · rename_i hc
      simp only [Bool.and_eq_true] at hc
      split at hh
      · rename_i hnl
        obtain ⟨kds,xs,qF,S',ρ1,σ1,g,f1,f2,f3,f4,f5⟩:=genH_ok hh hr hr (Pre.refl _) hw
        split at f3
        · rename_i ps Q' hs
          split at f3
          · rename_i g' hg'
            injection f3 with f3;subst f3
            obtain ⟨ρ2,he,hw2,hp2⟩:=wn_po (w_nds f4)
            obtain ⟨s2,r2,k2⟩:=sSets_ok hs he f2
            have ht : AOps P N (addEs ops.toList n F).toArray ((addEs ops.toList n F).drop n) (onlyN Qp) qF:=aops_re r2 (genL_ok hg' hl k2 ((nK_ok hk).mono (Pre.refl _) (f5.trans hp2)) hw2)
            have:=awp_draw_e (id:=id) (l:=ops.toList) n pr F hc.1 hc.2.1 hnl hc.2.2 f1 ht
            simpa using this
          · cases f3
        · cases f3
      · split at hh
        · rename_i hpl
          simp only [Bool.and_eq_true,List.all_eq_true] at hpl
          obtain ⟨kds,xs,qF,S',ρ1,σ1,g,f1,f2,f3,f4,f5⟩:=genH_ok hh hr hr (Pre.refl _) hw
          split at f3
          · rename_i hcf
            split at f3
            · rename_i g' hg'
              injection f3 with f3;subst f3
              obtain ⟨ρ2,he,hw2,hp2⟩:=wn_po (w_nds f4)
              obtain ⟨rfl,hsc⟩:=scs_ok he
              have ht : AOpsC P N ((addEs ops.toList n F).drop n) (onlyN Qp) (CF P (ldsF ops.toList F)) qF:=genT_ok hsc hg' hl f2 ((nK_ok hk).mono (Pre.refl _) f5) hw2
              have:=awp_draw_s (id:=id) (l:=ops.toList) n F hc.1 hc.2.1 hc.2.2 hpl.1 f1 (sCF_ok hcf f2 hsc) (fun o ho x hx=>by
                have:=List.all_eq_true.1 (hpl.2 o ho) x hx
                simp only [Bool.and_eq_true,Bool.not_eq_true',beq_eq_false_iff_ne,ne_eq] at this
                exact this) ht
              simpa using this
            · cases f3
          · cases f3
        · cases hh
    · cases hh
  · cases hh
end
end Go.Proofs.Ytboheedjhnbnhaa
namespace Go.Proofs.Ytboheedjhnbnhaa
open Go.RowKit
def kilA (V : Nat→Bool) (q : AS) : AS:={ q with ob:=fun i=>if V i then .dead else q.ob i }
def NoO (q : AS) : Prop:=∀ i,i < q.n→∀ st t k es,q.ob i = .row st t k es true→Flat es.flatten
def cxV (w0 : Cx) (w : World) (q : AS) (V : Nat→Bool) (E : En) : Cx:={ w with
  B:=E.A
  fr:=fun b=>w.heap.size≤b ∨ ∃ i,i < q.n∧V i = false∧(b ∈ E.m i ∨ b ∈ E.o i)∧¬ (E.A b)
  hfr:=fun b h=>.inl h
  cu:=w0.cu
  ow:=fun b=>w.heap.size≤b ∨ ∃ i,i < q.n∧V i = false∧(b ∈ E.m i ∨ b ∈ E.o i)∧¬ (E.A b)
  how:=fun _ h=>h }
def enV (V : Nat→Bool) (E : En) : En:=⟨E.v,fun i=>if V i then [] else E.m i,fun i=>if V i then [] else E.o i,E.A⟩
section
variable {P : Program} {w0 : Cx} {ws w w' : World} {N m n : Nat} {s q q' s' : AS} {a a' : Act} {E E' : En} {V : Nat→Bool}
theorem own_flat0 {base : Nat} {vs : List Value} {ds : List DV} {f : List Nat} (h : OwnL w base vs ds f) (hf : Flat ds) : f = []:=by
  induction h with
  | nil=>rfl
  | sc _ _ ih=>exact ih fun d hd=>hf d (List.mem_cons_of_mem _ hd)
  | sl=>obtain ⟨v,hv⟩:=hf _ (List.mem_cons_self ..);cases hv
theorem noO_o (h : RepE w0 N q a w E) (hn : NoO (kilA V q)) {i : Nat} (hi : i < q.n) (hV : V i = false) (hd : q.ob i ≠ .dead) : E.o i = []:=by
  have hO:=h.obj i hi
  have hN:=hn i hi
  simp only [kilA,hV,Bool.false_eq_true,if_false] at hN
  cases hx : q.ob i with
  | var=>rw [hx] at hO;obtain ⟨_,_,_,_,_,h,_⟩:=hO;exact h
  | arr=>rw [hx] at hO;obtain ⟨_,_,_,_,_,h,_⟩:=hO;exact h
  | row st t k es deep =>
    rw [hx] at hO
    obtain ⟨_,_,_,_,_,_,h6⟩:=hO
    cases deep with
    | true=>exact own_flat0 (by simpa using h6) (hN _ _ _ _ hx)
    | false=>exact (by simpa using h6 : _∧_).1
  | frz=>rw [hx] at hO;exact hO.2.2.1
  | dx=>rw [hx] at hO;exact hO.2.1
  | opn=>rw [hx] at hO;obtain ⟨_,_,_,_,_,_,h,_⟩:=hO;exact h
  | cur=>rw [hx] at hO;obtain ⟨_,_,_,_,_,h,_⟩:=hO;exact h
  | dead=>exact absurd hx hd
def DeadV (V : Nat→Bool) (q : AS) : Prop:=∀ i,i < q.n→q.ob i = .dead→V i = true
theorem reframe (h : RepE w0 N q a w E) (hn : NoO (kilA V q)) (hD : DeadV V q) : RepE (cxV w0 w q V E) N (kilA V q) a w (enV V E):=by
  have nd : ∀ i,i < q.n→V i = false→q.ob i ≠ .dead:=fun i hi hv e=>by rw [hD i hi e] at hv;cases hv
  have hst : Stay w E q.lv q.c w (enV V E) (kilA V q).lv (kilA V q).c:=by
    refine ⟨fun b hb=>⟨hb,rfl⟩,fun i st _ hl=>⟨?_,rfl⟩,Nat.le_refl _⟩
    unfold AS.lv at hl ⊢
    split at hl
    · rename_i hi
      have hi : i < q.n:=hi
      rw [if_pos hi]
      simp only [kilA] at hl
      split at hl
      · cases hl
      · exact hl
    · cases hl
  have hm : ∀ i b,b ∈ (enV V E).m i→V i = false∧b ∈ E.m i:=by
    intro i b hb
    simp only [enV] at hb
    split at hb
    · cases hb
    · rename_i hv;exact ⟨by simpa using hv,hb⟩
  have ho : ∀ i,i < q.n→(enV V E).o i = []:=by
    intro i hi
    simp only [enV]
    split
    · rfl
    · rename_i hv
      have hv : V i = false:=by simpa using hv
      exact noO_o h hn hi hv (nd i hi hv)
  refine ⟨h.size,h.defers,⟨rfl,rfl,rfl,Nat.le_refl _,fun _ _=>rfl⟩,fun i hi=>?_,fun t=>(h.slot t).stay hst,h.A_lt,?_,?_,?_,?_,?_,fun b hb=>.inl hb,?_,?_⟩
  · cases hv : V i with
    | true=>simp only [kilA,hv,if_true];trivial
    | false =>
      simp only [kilA,hv,Bool.false_eq_true,if_false]
      refine (h.obj i hi).stay hst rfl (by simp [enV,hv]) (by simp [enV,hv]) (fun _ _=>rfl) (fun b hb=>h.A_o i hi b hb)
  · intro b hb i hi hbm;exact h.A_m b hb i hi (hm i b hbm).2
  · intro i hi b hb;rw [ho i hi] at hb;cases hb
  · intro i j hi hj hne b hb hb';exact h.mm i j hi hj hne b (hm i b hb).2 (hm j b hb').2
  · intro i j hi hj hne b hb;rw [ho i hi] at hb;cases hb
  · intro i hi b hb;exact h.m_lt i hi b (hm i b hb).2
  · intro i hi b hb
    obtain ⟨h1,h2⟩:=hm i b hb
    exact .inr ⟨i,hi,h1,.inl h2,fun hA=>h.A_m b hA i hi h2⟩
  · intro i hi b hb;rw [ho i hi] at hb;cases hb
theorem fr_back (h : RepE w0 N q a w E) {b : Nat} (hb : (cxV w0 w q V E).fr b) : w0.fr b:=by
  rcases hb with hb | ⟨i,hi,_,hb | hb,hA⟩
  · exact w0.hfr b (Nat.le_trans h.bel.size hb)
  · exact h.mF i hi b hb
  · exact absurd (h.A_o i hi b hb) hA
theorem unframe (h : RepE w0 N q a w E) (h' : RepE (cxV w0 w q V E) N s' a' w' E') : RepE w0 N s' a' w' E' :=
  ⟨h'.size,h'.defers,⟨h'.bel.os.trans h.bel.os,h'.bel.tape.trans h.bel.tape,h'.bel.output.trans h.bel.output,Nat.le_trans h.bel.size h'.bel.size,fun b hb=>(h'.bel.block b fun hf=>hb (fr_back h hf)).trans (h.bel.block b hb)⟩,
   h'.obj,h'.slot,h'.A_lt,h'.A_m,h'.A_o,h'.mm,h'.oo,h'.m_lt,fun b hb=>(h'.anc b hb).elim (fun h1=>h.anc b h1) (fun h1=>.inr (fr_back h h1)),fun i hi b hb=>fr_back h (h'.mF i hi b hb),fun i hi b hb=>w0.how b (fr_back h (h'.oF i hi b hb))⟩
def DB (V : Nat→Bool) (q : AS) (E : En) (b : Nat) : Prop:=E.A b ∨ ∃ i,i < q.n∧V i = true∧b ∈ E.m i
theorem held_V (h : RepE w0 N q a w E) (hn : NoO (kilA V q)) (hD : DeadV V q) (h' : Bel (cxV w0 w q V E) w') {b : Nat} (hb : DB V q E b) : w'.heap[b]? = w.heap[b]?:=by
  refine h'.block b fun hf=>?_
  rcases hf with hf | ⟨i,hi,hv,hm,hnA⟩
  · rcases hb with hb | ⟨j,hj,_,hb⟩
    · have:=h.A_lt b hb;omega
    · have:=h.m_lt j hj b hb;omega
  · rcases hb with hb | ⟨j,hj,hjv,hb⟩
    · exact hnA hb
    · rcases hm with hm | hm
      · exact h.mm i j hi hj (fun e=>by subst e;rw [hv] at hjv;cases hjv) b hm hb
      · exact hnA (h.A_o i hi b hm)
theorem ldV_any {L : Nat→Option Nat} {c : Nat} {t : TypeId} {cs : List AC} {vals : List Value} {b off : Nat} {x : AV} (h : ldV P t cs = some x) (hc : CellsR w E L c cs vals) (ha : At w b off vals) :
    ∃ v,∀ w',w'.heap[b]? = w.heap[b]?→(Instr.loadAt t (.pointer (some ⟨b,off,none⟩))).run P w' = .ok v w':=by
  unfold ldV at h
  split at h
  · rename_i hg
    split at h
    · rename_i k hk
      split at h
      · rename_i hl
        have hlen : (vals.take k).length = k:=by rw [List.length_take,← hc.1];omega
        refine ⟨.agg (vals.take k).toArray,fun w' hw=>run_ld_agg P hg (by rw [hlen];exact hk) ?_⟩
        have:=at_sub (i:=0) (k:=k) (ha.keep hw)
        simpa using this
      · cases h
    · cases h
  · rename_i hg
    split at h
    · rename_i c0 r
      obtain ⟨u,us,rfl,h1,h2⟩:=hc.cons'
      exact ⟨u,fun w' hw=>run_ld_one P hg (by have:=(ha.keep hw) 0 u rfl;simpa using this)⟩
    · cases h
  · cases h
def ldOkA (V : Nat→Bool) (s : AS) : AV→Prop
  | .p false [.ptr i st _]=>V i = true∧i < s.n∧(∃ t cs,s.own? i st = some (.var st t cs))
  | .p false [.elt i st k _ _]=>V i = true∧i < s.n∧(∃ t es dp,s.own? i st = some (.row st t k es dp))
  | .p false [.rd _]=>True
  | _=>False
theorem ldA_any (h : RepE w0 N s a w E) {t : TypeId} {y x : AV} {v : Value} (hx : ldA P s t y = some x) (hy : SlotR w E s.lv s.c y v) (hk : ldOkA V s y) :
    ∃ u,∀ w',(∀ b,DB V s E b→w'.heap[b]? = w.heap[b]?)→(Instr.loadAt t v).run P w' = .ok u w':=by
  unfold ldOkA at hk
  split at hk
  · rename_i i st off
    obtain ⟨h1,h2,ty,cs,h3⟩:=hk
    simp only [ldA,h3] at hx
    obtain ⟨hi,ho,hl⟩:=own?_some h3
    obtain ⟨g,e1,rfl⟩:=(slot_one hy).2 hl
    have h4:=h.obj i hi
    rw [ho] at h4
    obtain ⟨g',vals,_,e2,e3,_,_,hB,hcs⟩:=h4
    rw [e1] at e2
    injection e2 with e2;injection e2 with e2;injection e2 with e2;subst e2
    obtain ⟨u,hu⟩:=ldV_any hx (hcs.drop off) (blk_at hB off)
    exact ⟨u,fun w' hw=>hu w' (hw g (.inr ⟨i,hi,h1,by rw [e3];simp⟩))⟩
  · rename_i i st k j off
    obtain ⟨h1,h2,ty,es,dp,h3⟩:=hk
    simp only [ldA,h3,if_true] at hx
    split at hx
    · rename_i e he
      obtain ⟨hi,ho,hl⟩:=own?_some h3
      obtain ⟨g,n,cp,e1,rfl⟩:=(slot_one hy).2 hl
      obtain ⟨g',n',cp',vals,e2,hr,hat,_⟩:=row_elem h hi ho he
      have h4:=h.obj i hi
      rw [ho] at h4
      obtain ⟨cells,_,_,_,_,h5,_⟩:=h4
      have hg : g ∈ E.m i:=by rw [h5,e1];simp [Value.ownBlock]
      rw [e1] at e2
      injection e2 with e2;injection e2 with e2;injection e2 with e2;subst e2
      obtain ⟨u,hu⟩:=ldV_any hx (CellsR.ofRep (L:=s.lv) (c:=s.c) (hr.drop off)) (at_drop (k:=off) hat)
      exact ⟨u,fun w' hw=>hu w' (hw g (.inr ⟨i,hi,h1,hg⟩))⟩
    · cases hx
  · rename_i cs
    simp only [ldA] at hx
    obtain ⟨b,off,vals,rfl,hA,hr,hat⟩:=slot_one hy
    obtain ⟨u,hu⟩:=ldV_any hx (CellsR.ofRep (L:=s.lv) (c:=s.c) hr) hat
    exact ⟨u,fun w' hw=>hu w' (hw b (.inl hA))⟩
  · cases hk
theorem wpListC_mono {Q Q' : Exit→Act→World→Prop} {I I' : Act→World→Prop} (hI : ∀ a w,I a w→I' a w) (hQ : ∀ e a w,Q e a w→Q' e a w) : ∀ {l : List Oper} {a : Act} {w : World},wpListC P Q I l a w→wpListC P Q' I' l a w
  | [],_,_,h=>hQ _ _ _ h
  | o :: r,_,_,h=>⟨h.1,Oper.wp_mono (fun _ _ hh=>⟨hI _ _ hh.1,wpListC_mono hI hQ hh.2⟩) h.2⟩
end
def ldsP (l : List Oper) (F : List Nat) : List Nat:=F.filterMap fun i=>match l[i]? with
  | some o=>(match o.op with | .load _ (.tmp p)=>some p | _=>none)
  | none=>none
section
variable {P : Program} {w0 : Cx} {w w' : World} {N m n : Nat} {s h H q q' qF : AS} {a : Act} {E : En} {o : Oper} {l : List Oper} {kds : List HK} {xs : List AV} {Q : Exit→AS→Prop} {F : List Nat} {V : Nat→Bool}
theorem plH_plain {op : Op} (h : plH op = true) : plainO op = true:=by
  cases hp : plainO op with
  | true=>rfl
  | false =>
    unfold plainO at hp
    split at hp
    · cases h
    · cases hp
theorem any_draw_r (n : Nat) (F : List Nat) (V : Nat→Bool) (hE : eagB l n F = true) (hB : drawB (addEs l n F) n = true) (hpl : PlL (addEs l n F) n) (hh : Heads P N true (addEs l n F).toArray ((addEs l n F).take n) s s kds xs qF)
    (hLd : ∀ p ∈ ldsP l F,ldOkA V qF (qF.sl p)) (hN : NoO (kilA V qF)) (hD : DeadV V qF)
    (htail : AOpsC P N ((addEs l n F).drop n) (onlyN Q) (fun _=>True) (kilA V qF)) {w0 : Cx} {a : Act} {w : World} {E : En} (hr : RepE w0 N s a w E) :
    wpAny P .any l.toArray (AQ w0 N (onlyN Q)) l.toArray.size (Array.replicate l.toArray.size false) a w.drew:=by
  have hsz : l.toArray.size = (addEs l n F).length:=by simp [addEs_len]
  have hF : ∀ i ∈ F,∃ oi,l[i]? = some oi∧i < n∧oi.guard = none∧(fltB oi.op = true ∨ isLd oi.op = true):=by
    have hE':=hE
    unfold eagB at hE'
    simp only [Bool.and_eq_true,decide_eq_true_eq,List.all_eq_true] at hE'
    intro i hi
    obtain ⟨h1,h2⟩:=hE'.2.2 i hi
    split at h2
    · rename_i oi hoi
      simp only [Bool.and_eq_true,Bool.or_eq_true] at h2
      exact ⟨oi,hoi,h1,by simpa using h2.1,h2.2.1⟩
    · cases h2
  have hqF:=heads_plain (fun o ho=>plH_plain (hpl o ho)) hh
  have hr' : RepE w0 N s a w.drew E:=hr.world' (Below.refl _ _).drew
  refine wpAny_of_held _ _ _ _ (wpAny_eagF (S:=fun w1=>∀ b,DB V s E b→w1.heap[b]? = w.drew.heap[b]?) hE (fun e a w he hq=>?_) _ _ _ _ (fun j oj _ hl=>(by rw [getD_replicate_false] at hl;cases hl)) (by simp) ?_)
  · obtain ⟨s',E',h1,_⟩:=hq
    cases e <;> first | exact he rfl | exact h1
  unfold drawB at hB
  rw [Bool.and_eq_true,decide_eq_true_eq] at hB
  obtain ⟨hB,hnd⟩:=hB
  have hnl:=(fixB_parts hB).2.1
  generalize hl' : addEs l n F = l' at *
  have hu : unl n (Array.replicate l.toArray.size false) = n:=by
    unfold unl
    have : (List.range n).filter (fun i=>!(Array.replicate l.toArray.size false).getD i false) = List.range n:=by
      rw [List.filter_eq_self]
      intro i _
      rw [getD_replicate_false];rfl
    rw [this];simp
  have hEm : ∀ i,i < s.n→∀ b ∈ E.m i,b < w.drew.heap.size:=fun i hi b hb=>hr'.m_lt i hi b hb
  obtain ⟨hkl,hxl⟩:=heads_len hh
  have htl : (l'.take n).length = n:=by rw [List.length_take];omega
  rw [htl] at hkl hxl
  obtain ⟨ha1,ha2,ha3⟩:=hAt_same (l:=l'.take n) (xs:=xs) (s:=s)
  have hobq : qF.ob = s.ob:=by rw [hqF];exact ha1
  have hnq : qF.n = s.n:=by rw [hqF];exact ha2
  have hownq : qF.own? = s.own?:=by funext i st;unfold AS.own?;rw [hobq,hnq]
  have hS : ∀ listed a w1 fs,HInv P w0 w.drew N w.drew.heap.size n s E l' kds xs listed a w1 fs→∀ b,DB V s E b→w1.heap[b]? = w.drew.heap[b]?:=by
    intro listed a w1 fs hI b _
    rw [hI.bl hpl]
  have h:=wpAny_heads (ws:=w.drew) (J:=JF P l F (fun w1=>∀ b,DB V s E b→w1.heap[b]? = w.drew.heap[b]?)) (Q:=onlyN Q) (m:=w.drew.heap.size) (E:=E) hB hnd hh hr'.bel.size hEm hr'.A_lt ?_ ?_ n (Array.replicate l.toArray.size false) a w.drew (fun _=>[]) hu
    ⟨by simp [hsz],fun j oj _ hl=>(by rw [getD_replicate_false] at hl;cases hl),fun t _ ht=>getD_in (by rw [Array.size_replicate,hsz];simpa using ht) (getD_replicate_false _ _)⟩
    ⟨by
      have : lds l' n (Array.replicate l.toArray.size false) = []:=by
        rw [List.eq_nil_iff_forall_not_mem]
        intro t ht
        obtain ⟨j,o,_,hl,_⟩:=mem_lds.1 ht
        rw [getD_replicate_false] at hl;cases hl
      rw [this]
      have e : undL s [] = s:=by unfold undL;simp
      rw [e];exact hr',Nat.le_refl _,fun j o d kd x _ hl=>(by rw [getD_replicate_false] at hl;cases hl),fun j _ hl=>(by rw [getD_replicate_false] at hl;cases hl),fun i j _ _ hl=>(by rw [getD_replicate_false] at hl;cases hl),fun _=>rfl⟩
  · rw [show l.toArray.size = n + (l'.length - n) from by rw [hsz];omega]
    rw [show (Array.replicate l.toArray.size false) = Array.replicate (n + (l'.length - n)) false from by congr 1;rw [hsz];omega] at h
    exact h
  · intro listed a w1 fs inv hI
    refine ⟨hS _ _ _ _ hI,fun i oi hi hoi hrd=>?_⟩
    obtain ⟨oi',hoi',hin,hg,hfl⟩:=hF i hi
    obtain rfl : oi' = oi:=Option.some.inj (hoi'.symm.trans hoi)
    have hne : i ≠ n:=by omega
    have hrd' : i ∈ Region.ready .any l'.toArray listed:=by rw [← hl'];exact ready_es hrd fun e=>absurd e hne
    have hoil : l'[i]? = some oi':=by rw [← hl',addEs_ne hne];exact hoi
    obtain ⟨g1,g2⟩:=hinv_rep hB hnd hh hr'.bel.size hEm inv hI hin hrd' hoil
    obtain ⟨kd,x,qi,qi',hkd,hx,⟨d,hd,hdN⟩,hstp⟩:=heads_at hh i oi' (by rw [List.getElem?_take,if_pos hin];exact hoil)
    have htt : (l'.take n).take i = l'.take i:=by rw [List.take_take,Nat.min_eq_left (by omega)]
    rw [htt,hg] at hstp
    obtain ⟨y,hy⟩:=hrun_plain hstp (hpl oi' (List.mem_of_getElem? (i:=i) (by rw [List.getElem?_take,if_pos hin];exact hoil)))
    have hy : hV P (hAt s (l'.take i) xs) oi'.op = some y:=by
      have hnb : ∀ t parts,oi'.op ≠ .build t parts:=fun t parts e=>by
        rcases hfl with hfl | hfl <;> (rw [e] at hfl;cases hfl)
      unfold hVb at hy
      split at hy
      · rename_i t parts e;exact absurd e (hnb t parts)
      · exact hy
    rw [← hV_alike g2] at hy
    rcases hfl with hfl | hfl
    · obtain ⟨v,hv⟩:=flt_yields hfl hy g1
      exact ⟨v,fun w _=>hv w⟩
    · unfold isLd at hfl
      split at hfl
      · rename_i t p hop
        have hheap:=hI.bl hpl
        have hmem : p ∈ ldsP l F:=List.mem_filterMap.2 ⟨i,hi,by rw [hoi];simp only [hop]⟩
        have hlk : p ∈ oi'.looksAt l'.toArray:=List.mem_append_left _ (List.mem_filterMap.2 ⟨.tmp p,by rw [hop];simp [Op.operands],rfl⟩)
        have hk:=hLd p hmem
        rw [hop] at hy
        simp only [hV] at hy
        have hsl : ({ s with sl:=fun t=>if (oi'.looksAt l'.toArray).contains t then (hAt s (l'.take i) xs).sl t else .und } : AS).ev (.tmp p) = qF.sl p:=by
          show (if (oi'.looksAt l'.toArray).contains p then (hAt s (l'.take i) xs).sl p else .und) = _
          rw [if_pos (by simpa using hlk),head_slot (listed:=listed) (fs:=fs) hB hnd hxl (Nat.le_of_lt hin) (fun j oj hj hoj hdj=>(looks_lt hB hin hoil hj hoj hdj hlk).1),← hqF]
        have hsr:=ev_ok g1 (.tmp p)
        rw [hsl] at hy hsr
        obtain ⟨u,hu⟩:=ldA_any (V:=V) g1 hy hsr (by
          unfold ldOkA at hk ⊢
          split at hk
          · obtain ⟨k1,k2,ty,cs,k3⟩:=hk
            exact ⟨k1,by rw [← hnq];exact k2,ty,cs,by rw [hownq] at k3;exact k3⟩
          · obtain ⟨k1,k2,ty,es,dp,k3⟩:=hk
            exact ⟨k1,by rw [← hnq];exact k2,ty,es,dp,by rw [hownq] at k3;exact k3⟩
          · trivial
          · exact hk.elim)
        refine ⟨u,fun w' hSw=>?_⟩
        have:=hu w' (fun b hb=>by
          rw [hheap]
          refine hSw b ?_
          rcases hb with hb | hb
          · rcases hb with hb | hb
            · exact .inl hb
            · rw [hheap] at hb;omega
          · exact .inr hb)
        simp only [execOp,hop]
        rw [Sem.run_bind,this];rfl
      · cases hfl
  · intro a w1 fs hI
    have hall : ∀ j,j < n→(headAll n (l'.length - n)).getD j false = true:=by
      intro j hj;simp [headAll,Array.getElem?_append,hj]
    have hrep:=head_rep hB hnd hxl hkl hr'.bel.size hEm hall hI
    rw [← hqF] at hrep
    have hheap:=hI.bl hpl
    have hseq:=(fixB_parts hB).2.2.2.1
    have hT:=htail _ a w1 _ (reframe hrep hN hD)
    have hT' : wpListC P (AQ w0 N (onlyN Q)) (fun _ w'=>∀ b,DB V s E b→w'.heap[b]? = w.drew.heap[b]?) (l'.drop n) a w1:=by
      refine wpListC_mono (fun a' w' hI' b hb=>?_) (fun e a' w' hq=>?_) hT
      · obtain ⟨s',E',_,h2⟩:=hI'
        have:=held_V hrep hN hD h2.bel (b:=b) (by
          rcases hb with hb | ⟨i,hi,h1,h2⟩
          · exact .inl (.inl hb)
          · exact .inr ⟨i,by rw [hnq];exact hi,h1,h2⟩)
        rw [this,hheap]
      · obtain ⟨s',E',h1,h2⟩:=hq
        exact ⟨s',E',h1,unframe hrep h2⟩
    rw [show wpAnyJ P .any l'.toArray (AQ w0 N (onlyN Q)) (JF P l F (fun w1=>∀ b,DB V s E b→w1.heap[b]? = w.drew.heap[b]?)) (l'.length - n) = wpAnyJ P .any l'.toArray (AQ w0 N (onlyN Q)) (JF P l F (fun w1=>∀ b,DB V s E b→w1.heap[b]? = w.drew.heap[b]?)) (l'.drop n).length from by simp]
    refine wpAnyJ_list (n:=n) (I:=fun _ w'=>∀ b,DB V s E b→w'.heap[b]? = w.drew.heap[b]?) (fun listed a w hl hSw=>⟨hSw,fun i oi hi hoi hrd=>?_⟩) (l'.drop n) n _ a w1 (fun j=>by simp [List.getElem?_drop]) (by simpa using hseq) (by simpa using hall) (hS _ _ _ _ hI) hT'
    obtain ⟨_,_,hin,_⟩:=hF i hi
    have h0:=(mem_ready.1 hrd).1
    have:=hl i hin
    rw [getD_both h0] at this;cases this
end
end Go.Proofs.Ytboheedjhnbnhaa
namespace Go.Proofs.Ytboheedjhnbnhaa
open Go.RowKit
def AnyW (P : Program) (N : Nat) (l : List Oper) (Q : Exit→AS→Prop) (s : AS) : Prop:=∀ w0 a w E,RepE w0 N s a w E→wpAny P .any l.toArray (AQ w0 N Q) l.toArray.size (Array.replicate l.toArray.size false) a w.drew
section
variable {P : Program} {R : List (Bool × List DV)→Prop} {N : Nat} {ow : OwK} {Q : Exit→AS→Prop} {s : AS} {l l' : List Oper}
theorem anyW_region {id : Nat} (hm : P.follows .mixedOrders = true) (h : AnyW P N l Q s) : AWp P N (.region id l.toArray true) Q s:=fun w0 a w E hr=>wp_region_any hm (h w0 a w E hr)
theorem anyW_perm {σ : Nat→Nat} {n : Nat} (hp : Pm σ n l l') (h : AnyW P N l' Q s) : AnyW P N l Q s:=fun w0 a w E hr=>by
  have h1:=h w0 a w E hr
  have e1 : l.toArray.size = n:=by simp [hp.len]
  have e2 : l'.toArray.size = n:=by simp [hp.len']
  rw [e2] at h1
  rw [e1]
  exact wpAny_perm hp n _ _ a _ (LR.start hp) h1
theorem awp_onlyN {c : Code} (h : AWp P N c (onlyN Q) s) : AWp P N c Q s:=fun w0 a w E hr=>by
  refine Code.wp_mono (fun e a w he=>?_) (h w0 a w E hr)
  obtain ⟨s',E',h1,h2⟩:=he
  cases e with
  | normal=>exact ⟨s',E',h1,h2⟩
  | _=>exact h1.elim
theorem drawD_any {dn : List (Nat × Nat × Bool × List Nat)} {id : Nat} {ops : Array Oper} {lv : Nat} {S : Sy} {K : Kt} {pg : Pg} (hh : drawD P N ow dn id ops lv S K = some pg) {L : Lbl} {ρ : List DV} {σ : List Nat} {Qp : Exit→AS→Prop}
    (hl : lv = L.length) (hr : Rel S ρ σ s) (hk : KOk P R L ρ Qp K) (hw : W P R pg L ρ) : P.follows .mixedOrders = true∧(AnyW P N ops.toList Qp s ∨ AnyW P N ops.toList (onlyN Qp) s):=by
  unfold drawD at hh
  split at hh
  · rename_i n pr hdn
    split at hh
    · rename_i hc
      simp only [Bool.and_eq_true] at hc
      obtain ⟨kds,xs,qF,S',ρ1,σ1,g,f1,f2,f3,f4,f5⟩:=genH_ok hh hr hr (Pre.refl _) hw
      split at f3
      · rename_i ps Q' hs
        split at f3
        · rename_i g' hg'
          injection f3 with f3;subst f3
          obtain ⟨ρ2,he,hw2,hp2⟩:=wn_po (w_nds f4)
          obtain ⟨s2,r2,k2⟩:=sSets_ok hs he f2
          have ht : AOps P N ops.toList.toArray (ops.toList.drop n) Qp qF:=aops_re r2 (genL_ok hg' hl k2 (hk.mono (Pre.refl _) (f5.trans hp2)) hw2)
          exact ⟨hc.1,.inl fun w0 a w E hr=>any_draw n pr hc.2 f1 ht hr⟩
        · cases f3
      · cases f3
    · cases hh
  · rename_i n pr F _ hdn
    split at hh
    · rename_i hc
      simp only [Bool.and_eq_true] at hc
      split at hh
      · rename_i hnl
        obtain ⟨kds,xs,qF,S',ρ1,σ1,g,f1,f2,f3,f4,f5⟩:=genH_ok hh hr hr (Pre.refl _) hw
        split at f3
        · rename_i ps Q' hs
          split at f3
          · rename_i g' hg'
            injection f3 with f3;subst f3
            obtain ⟨ρ2,he,hw2,hp2⟩:=wn_po (w_nds f4)
            obtain ⟨s2,r2,k2⟩:=sSets_ok hs he f2
            have ht : AOps P N (addEs ops.toList n F).toArray ((addEs ops.toList n F).drop n) (onlyN Qp) qF:=aops_re r2 (genL_ok hg' hl k2 ((nK_ok hk).mono (Pre.refl _) (f5.trans hp2)) hw2)
            exact ⟨hc.1,.inr fun w0 a w E hr=>any_draw_e n pr F hc.2.1 hnl hc.2.2 f1 ht hr⟩
          · cases f3
        · cases f3
      · split at hh
        · rename_i hpl
          simp only [Bool.and_eq_true,List.all_eq_true] at hpl
          obtain ⟨kds,xs,qF,S',ρ1,σ1,g,f1,f2,f3,f4,f5⟩:=genH_ok hh hr hr (Pre.refl _) hw
          split at f3
          · rename_i hcf
            split at f3
            · rename_i g' hg'
              injection f3 with f3;subst f3
              obtain ⟨ρ2,he,hw2,hp2⟩:=wn_po (w_nds f4)
              obtain ⟨rfl,hsc⟩:=scs_ok he
              have ht : AOpsC P N ((addEs ops.toList n F).drop n) (onlyN Qp) (CF P (ldsF ops.toList F)) qF:=genT_ok hsc hg' hl f2 ((nK_ok hk).mono (Pre.refl _) f5) hw2
              exact ⟨hc.1,.inr fun w0 a w E hr=>any_draw_s n F hc.2.1 hc.2.2 hpl.1 f1 (sCF_ok hcf f2 hsc) (fun o ho x hx=>by
                have:=List.all_eq_true.1 (hpl.2 o ho) x hx
                simp only [Bool.and_eq_true,Bool.not_eq_true',beq_eq_false_iff_ne,ne_eq] at this
                exact this) ht hr⟩
            · cases f3
          · cases f3
        · cases hh
    · cases hh
  · cases hh
def kilS (V : List Nat) (Q : Sy) : Sy:={ Q with ob:=V.map (fun i=>(i,SO.dead)) ++ Q.ob }
def vOf (V : List Nat) (Q : Sy) (i : Nat) : Bool:=V.contains i || (match alook Q.ob i with | some .dead=>true | none=>true | _=>false)
def ldOkS (Q : Sy) (p : Nat) : Bool:=match alook Q.sl p with
  | some (.p false [.ptr i st _])=>(match Q.own i st with | some (.var _ _ _)=>true | _=>false)
  | some (.p false [.elt i st k _ _])=>(match Q.own i st with | some (.row _ _ k' _)=>decide (k' = k) | _=>false)
  | some (.p false [.rd _])=>true
  | _=>false
def ldVs (Q : Sy) (ps : List Nat) : List Nat:=ps.filterMap fun p=>match alook Q.sl p with | some (.p false [.ptr i _ _])=>some i | some (.p false [.elt i _ _ _ _])=>some i | _=>none
def rowsX (Q : Sy) : List Nat:=(List.range Q.n).filterMap fun i=>match alook Q.ob i with | some (.row _ _ _ x)=>some x | _=>none
theorem kil_look (V : List Nat) (l : List (Nat × SO)) (i : Nat) : alook (V.map (fun i=>(i,SO.dead)) ++ l) i = if V.contains i then some .dead else alook l i:=by
  induction V with
  | nil=>simp
  | cons v V ih =>
    simp only [List.map_cons,List.cons_append,alook]
    by_cases h : v = i
    · subst h;simp
    · rw [if_neg h,ih]
      have : (v :: V).contains i = V.contains i:=by simp [List.contains_cons,Ne.symm h]
      rw [this]
theorem kil_rel {V : List Nat} {Q : Sy} {ρ : List DV} {σ : List Nat} {q : AS} (hV : V.all (fun i=>decide (i < Q.n)) = true) (hr : Rel Q ρ σ q) : Rel (kilS V Q) ρ σ (kilA (vOf V Q) q):=by
  refine ⟨hr.n,hr.c,hr.m,hr.sl,fun i x hx=>?_,hr.kn⟩
  simp only [kilS] at hx
  rw [kil_look] at hx
  split at hx
  · rename_i hv
    injection hx with hx;subst hx
    have h1 : i < Q.n:=by simpa using List.all_eq_true.1 hV i (by simpa using hv)
    exact ⟨h1,trivial⟩
  · rename_i hv
    obtain ⟨h1,h2⟩:=hr.ob i x hx
    refine ⟨h1,?_⟩
    simp only [kilA]
    split
    · rename_i hk
      unfold vOf at hk
      rw [hx] at hk
      have hv' : V.contains i = false:=by simpa using hv
      rw [hv'] at hk
      cases x <;> first | trivial | (exact absurd hk (by simp))
    · exact h2
theorem flats_ok : ∀ {ds : List Nat} {ρ ρ' : List DV},evalPs (ds.map .flat) ρ = some ρ'→ρ' = ρ∧∀ i ∈ ds,∃ t k es,ρ[i]? = some (.sl t k es)∧Flat es.flatten
  | [],ρ,ρ',h=>by simp only [List.map_nil,evalPs] at h;injection h with h;exact ⟨h.symm,by simp⟩
  | i :: ds,ρ,ρ',h=>by
    simp only [List.map_cons,evalPs] at h
    split at h
    · rename_i out ho
      simp only [evalP] at ho
      split at ho
      · rename_i t k es hd
        split at ho
        · rename_i hs
          injection ho with ho;subst ho
          rw [List.append_nil] at h
          obtain ⟨e,ih⟩:=flats_ok h
          refine ⟨e,fun j hj=>?_⟩
          rcases List.mem_cons.1 hj with rfl | hj
          · refine ⟨t,k,es,hd,fun d hdm=>?_⟩
            have:=List.all_eq_true.1 hs d hdm
            cases d with
            | sc v=>exact ⟨v,rfl⟩
            | sl=>cases this
          · exact ih j hj
        · cases ho
      · cases ho
    · cases h
theorem kil_noO {V : List Nat} {Q : Sy} {ρ : List DV} {σ : List Nat} {q : AS} (hr : Rel Q ρ σ q) (hf : ∀ i ∈ rowsX Q,∃ t k es,ρ[i]? = some (.sl t k es)∧Flat es.flatten) : NoO (kilA (vOf V Q) q)∧DeadV (vOf V Q) q:=by
  refine ⟨fun i hi st t k es he=>?_,fun i hi he=>?_⟩
  · have hi : i < Q.n:=by rw [← hr.n];exact hi
    simp only [kilA] at he
    split at he
    · cases he
    · rename_i hk
      unfold vOf at hk
      cases hx : alook Q.ob i with
      | none=>rw [hx] at hk;simp at hk
      | some x =>
        obtain ⟨-,h2⟩:=hr.ob i x hx
        rw [he] at h2
        cases x with
        | row st' t' k' x =>
          obtain ⟨_,_,_,_,h3⟩:=h2
          obtain ⟨t2,k2,es2,h4,h5⟩:=hf x (List.mem_filterMap.2 ⟨i,List.mem_range.2 hi,by rw [hx]⟩)
          rw [h3] at h4;injection h4 with h4;injection h4 with _ _ h4;subst h4
          exact h5
        | dead=>rw [hx] at hk;simp at hk
        | _=>exact h2.elim
  · unfold vOf
    cases hx : alook Q.ob i with
    | none=>simp
    | some x =>
      obtain ⟨-,h2⟩:=hr.ob i x hx
      rw [he] at h2
      cases x with
      | dead=>simp
      | _=>exact h2.elim
theorem ldOkS_ok {V : List Nat} {Q : Sy} {ρ : List DV} {σ : List Nat} {q : AS} {p : Nat} (hr : Rel Q ρ σ q) (h : ldOkS Q p = true) (hV : ∀ i st off,alook Q.sl p = some (.p false [.ptr i st off])→i ∈ V) (hV2 : ∀ i st k j off,alook Q.sl p = some (.p false [.elt i st k j off])→i ∈ V) : ldOkA (vOf V Q) q (q.sl p):=by
  unfold ldOkS at h
  split at h
  · rename_i i st off h1
    split at h
    · rename_i a ty cs ho
      obtain ⟨y,y1,y2⟩:=one_rv (c:=.ptr i st off) rfl (hr.sl _ _ h1)
      cases y <;> first | exact y2.elim | skip
      obtain ⟨rfl,hst,rfl⟩:=y2
      obtain ⟨o',k1,k2,k3,k4⟩:=hr.own ho hst
      cases o' <;> first | exact k2.elim | skip
      rename_i b2 ty' ys
      obtain ⟨k5,rfl,k6⟩:=k2
      obtain rfl:=own_stV k1 rfl
      rw [y1]
      exact ⟨by unfold vOf;simp [hV _ _ _ h1],(own?_some k1).1,_,_,k1⟩
    · cases h
  · rename_i i st k j off h1
    split at h
    · rename_i a ty k' x ho
      have h:=of_decide_eq_true h
      subst h
      obtain ⟨y,y1,y2⟩:=one_rv (c:=.elt i st _ j off) rfl (hr.sl _ _ h1)
      cases y <;> first | exact y2.elim | skip
      obtain ⟨rfl,hst,rfl,-,rfl⟩:=y2
      obtain ⟨o',k1,k2,k3,k4⟩:=hr.own ho hst
      cases o' <;> first | exact k2.elim | skip
      rename_i b2 ty' kk es dp
      obtain ⟨k5,rfl,rfl,rfl,k6⟩:=k2
      obtain rfl:=own_stV k1 rfl
      rw [y1]
      exact ⟨by unfold vOf;simp [hV2 _ _ _ _ _ h1],(own?_some k1).1,_,_,_,k1⟩
    · cases h
  · rename_i cs h1
    obtain ⟨y,y1,y2⟩:=one_rv (c:=.rd cs) rfl (hr.sl _ _ h1)
    cases y <;> first | exact y2.elim | skip
    rw [y1]
    trivial
  · cases h
def drawR (P : Program) (N : Nat) (ow : OwK) (n : Nat) (F : List Nat) : Dt:=fun id ops lv S K =>
  if (P.follows .mixedOrders && (eagB ops.toList n F && drawB (addEs ops.toList n F) n)) && ((addEs ops.toList n F).take n).all (fun o=>plH o.op) then
    genH P N ow true (addEs ops.toList n F).toArray (fun Q =>
      if (ldsP ops.toList F).all (ldOkS Q) && (ldVs Q (ldsP ops.toList F)).all (fun i=>decide (i < Q.n)) then
        (match genT P N ow (sCF P [] []) ((addEs ops.toList n F).drop n) lv (kilS (ldVs Q (ldsP ops.toList F)) Q) (nK K) with
        | some g=>some (nds (((rowsX Q).map .flat).map .po) g) | none=>none) else none) ((addEs ops.toList n F).take n) S S
  else none
theorem drawR_any {n : Nat} {F : List Nat} {id : Nat} {ops : Array Oper} {lv : Nat} {S : Sy} {K : Kt} {pg : Pg} (hh : drawR P N ow n F id ops lv S K = some pg) {L : Lbl} {ρ : List DV} {σ : List Nat} {Qp : Exit→AS→Prop}
    (hl : lv = L.length) (hr : Rel S ρ σ s) (hk : KOk P R L ρ Qp K) (hw : W P R pg L ρ) : P.follows .mixedOrders = true∧AnyW P N ops.toList (onlyN Qp) s:=by
  unfold drawR at hh
  split at hh
  · rename_i hc
    simp only [Bool.and_eq_true] at hc
    obtain ⟨⟨hm,hE,hB⟩,hpl⟩:=hc
    obtain ⟨kds,xs,qF,S',ρ1,σ1,g,f1,f2,f3,f4,f5⟩:=genH_ok hh hr hr (Pre.refl _) hw
    split at f3
    · rename_i hcf
      simp only [Bool.and_eq_true] at hcf
      split at f3
      · rename_i g' hg'
        injection f3 with f3;subst f3
        obtain ⟨ρ2,he,hw2,hp2⟩:=wn_po (w_nds f4)
        obtain ⟨rfl,hfl⟩:=flats_ok he
        obtain ⟨n1,n2⟩:=kil_noO (V:=ldVs S' (ldsP ops.toList F)) f2 hfl
        have ht : AOpsC P N ((addEs ops.toList n F).drop n) (onlyN Qp) (CF P []) (kilA (vOf (ldVs S' (ldsP ops.toList F)) S') qF):=genT_ok (by simp) hg' hl (kil_rel hcf.2 f2) ((nK_ok hk).mono (Pre.refl _) f5) hw2
        refine ⟨hm,fun w0 a w E hr=>any_draw_r n F _ hE hB (fun o ho=>List.all_eq_true.1 hpl o ho) f1 (fun p hp=>ldOkS_ok f2 (List.all_eq_true.1 hcf.1 p hp) (fun i st off h1=>List.mem_filterMap.2 ⟨p,hp,by rw [h1]⟩) (fun i st k j off h1=>List.mem_filterMap.2 ⟨p,hp,by rw [h1]⟩)) n1 n2 (fun w0 a w E hr=>wpListC_mono (fun a w h=>?_) (fun _ _ _ h=>h) (ht w0 a w E hr)) hr⟩
        obtain ⟨s',E',_,h2⟩:=h
        exact ⟨s',E',trivial,h2⟩
      · cases f3
    · cases f3
  · cases hh
def drawX (P : Program) (N : Nat) (ow : OwK) (dn : List (Nat × Nat × Bool × List Nat)) : Dt:=fun id ops lv S K =>
  match alook dn id with
  | some (n,_,2000000 :: F)=>drawR P N ow n F id ops lv S K
  | _=>drawD P N ow dn id ops lv S K
theorem drawX_any {dn : List (Nat × Nat × Bool × List Nat)} {id : Nat} {ops : Array Oper} {lv : Nat} {S : Sy} {K : Kt} {pg : Pg} (hh : drawX P N ow dn id ops lv S K = some pg) {L : Lbl} {ρ : List DV} {σ : List Nat} {Qp : Exit→AS→Prop}
    (hl : lv = L.length) (hr : Rel S ρ σ s) (hk : KOk P R L ρ Qp K) (hw : W P R pg L ρ) : P.follows .mixedOrders = true∧(AnyW P N ops.toList Qp s ∨ AnyW P N ops.toList (onlyN Qp) s):=by
  unfold drawX at hh
  split at hh
  · obtain ⟨h1,h2⟩:=drawR_any hh hl hr hk hw
    exact ⟨h1,.inr h2⟩
  · exact drawD_any hh hl hr hk hw
def pmL (π : List Nat) (l : List Oper) : List Oper:=π.filterMap fun i=>(l[i]?).map (ren fun j=>π.idxOf j)
def permB (π : List Nat) (l : List Oper) : Bool:=decide (π.length = l.length) && (decide π.Nodup && (π.all (fun i=>decide (i < l.length)) && ((List.range l.length).all (fun i=>decide (i ∈ π)) && l.all fun o=>o.after.all (fun e=>decide (e.on < l.length)) && (match o.guard with | some g=>decide (g.1 < l.length) | none=>true))))
theorem pmL_map {π : List Nat} (h : ∀ i ∈ π,i < l.length) : ∀ k : Nat,(pmL π l)[k]? = (π[k]?).bind fun i=>(l[i]?).map (ren fun j=>π.idxOf j):=by
  have key : ∀ (f : Nat→Nat) (r : List Nat),(∀ i ∈ r,i < l.length)→∀ k : Nat,(r.filterMap fun i=>(l[i]?).map (ren f))[k]? = (r[k]?).bind fun i=>(l[i]?).map (ren f):=by
    intro f r
    induction r with
    | nil=>intro _ k;rfl
    | cons i r ih =>
      intro hr k
      have hi:=hr i (List.mem_cons_self ..)
      rw [List.filterMap_cons,List.getElem?_eq_getElem hi]
      cases k with
      | zero=>simp [List.getElem?_eq_getElem hi]
      | succ k=>simpa using ih (fun j hj=>hr j (List.mem_cons_of_mem _ hj)) k
  exact key _ π h
theorem permB_pm {π : List Nat} (h : permB π l = true) : Pm (fun j=>π.idxOf j) l.length l (pmL π l):=by
  unfold permB at h
  simp only [Bool.and_eq_true,decide_eq_true_eq,List.all_eq_true,Array.all_eq_true_iff_forall_mem] at h
  obtain ⟨h1,h2,h3,h5,h4⟩:=h
  have hmem : ∀ i,i < l.length→i ∈ π:=fun i hi=>h5 i (List.mem_range.2 hi)
  have hg:=pmL_map h3
  have hlen : (pmL π l).length = l.length:=by
    have : ∀ k,k < l.length→((pmL π l)[k]?).isSome:=by
      intro k hk
      have hkp : k < π.length:=by omega
      have hlt:=h3 _ (List.getElem_mem hkp)
      rw [hg,List.getElem?_eq_getElem hkp,Option.bind_some,List.getElem?_eq_getElem hlt]
      rfl
    have hle : (pmL π l).length≤π.length:=List.length_filterMap_le _ _
    rcases Nat.lt_or_ge (pmL π l).length l.length with hlt | hge
    · have:=this _ hlt
      rw [List.getElem?_eq_none (Nat.le_refl _)] at this
      cases this
    · omega
  refine ⟨rfl,hlen,fun i hi=>?_,fun i j hi hj he=>?_,fun j hj=>?_,fun i o ho=>?_,fun i o ho=>?_⟩
  · have:=List.idxOf_lt_length_of_mem (hmem i hi)
    omega
  · have e1:=List.getElem_idxOf (List.idxOf_lt_length_of_mem (hmem i hi))
    have e2:=List.getElem_idxOf (List.idxOf_lt_length_of_mem (hmem j hj))
    rw [← e1,← e2]
    congr 1
  · have hjp : j < π.length:=by omega
    refine ⟨π[j],h3 _ (List.getElem_mem hjp),?_⟩
    exact List.Nodup.idxOf_getElem h2 j hjp
  · have hi : i < l.length:=(List.getElem?_eq_some_iff.1 ho).1
    have hlt:=List.idxOf_lt_length_of_mem (hmem i hi)
    rw [hg,List.getElem?_eq_getElem hlt,Option.bind_some,List.getElem_idxOf hlt,ho]
    rfl
  · have:=h4 o (List.mem_of_getElem? ho)
    refine ⟨fun e he=>this.1 e he,fun j b hgd=>?_⟩
    have h6:=this.2
    rw [hgd] at h6
    simpa using h6
def drawP (P : Program) (N : Nat) (ow : OwK) (dn : List (Nat × Nat × Bool × List Nat)) : Dt:=fun id ops lv S K =>
  match alook dn id with
  | some (n,pr,1000000 :: r) =>
    if permB (r.takeWhile (· < 1000000)) ops.toList then drawX P N ow [(id,n,pr,(r.dropWhile (· < 1000000)).drop 1)] id (pmL (r.takeWhile (· < 1000000)) ops.toList).toArray lv S K else none
  | _=>drawX P N ow dn id ops lv S K
theorem drawP_ok {dn : List (Nat × Nat × Bool × List Nat)} : DOk P R N (drawP P N ow dn):=by
  intro id ops lv S K pg hh L ρ σ s Qp hl hr hk hw
  unfold drawP at hh
  split at hh
  · split at hh
    · rename_i hp
      obtain ⟨hm,h⟩:=drawX_any hh hl hr hk hw
      have hpm:=permB_pm hp
      rw [List.toList_toArray] at h
      have e : (Code.region id ops true) = .region id ops.toList.toArray true:=by simp
      rw [e]
      rcases h with h | h
      · exact anyW_region hm (anyW_perm hpm h)
      · exact awp_onlyN (anyW_region hm (anyW_perm hpm h))
    · cases hh
  · obtain ⟨hm,h⟩:=drawX_any hh hl hr hk hw
    have e : (Code.region id ops true) = .region id ops.toList.toArray true:=by simp
    rw [e]
    rcases h with h | h
    · exact anyW_region hm h
    · exact awp_onlyN (anyW_region hm h)
end
end Go.Proofs.Ytboheedjhnbnhaa
namespace Go.Proofs.Ytboheedjhnbnhaa
open Go.RowKit
def psh {α : Type} : List α→List α→List α
  | [],r=>r
  | x :: e,r=>psh e (x :: r)
inductive UP where
  | po (o : PO) (k : UP)
  | cl (f : FuncId) (a : List (Bool × List Nat)) (sh : Sh) (k : UP)
  | mk (f : FuncId) (b : Bool) (xs : List (Nat × Nat)) (j : Nat) (k : UP)
  | ite (x : Nat) (a b : UP)
  | jump (l : Nat) (xs : List Nat)
  | join (n : Nat) (rest k : UP)
  | loop (xs : List Nat) (body : UP)
  | ret (xs : List (Bool × List Nat))
  | sel (xs : List Nat) (k : UP)
def V (P : Program) (R : List (Bool × List DV)→Prop) : UP→Lbl→List DV→Prop
  | .po o k,L,ρ=>(match evalP ρ o with | some out=>V P R k L (psh out ρ) | none=>False)
  | .cl f a sh k,L,ρ=>∃ ys res,gArgs ρ a = some ys∧MeetsX P f ys res∧shOk sh res = true∧V P R k L (psh (flatR res) ρ)
  | .mk f b xs j k,L,ρ=>∃ ds ds' n n',gL ρ (xs.map (·.1)) = some ds∧ρ[j]? = some (.sc (.int .i64 n))∧Marks P f b ds n ds' n'∧mkEq xs ds ds'∧V P R k L (psh (ds' ++ [.sc (.int .i64 n')]) ρ)
  | .ite x a b,L,ρ=>(match ρ[x]? with | some (.sc (.bool c))=>(match c with | true=>V P R a L ρ | false=>V P R b L ρ) | _=>False)
  | .jump l xs,L,ρ=>∃ J vs,L[l]? = some J∧gL ρ xs = some vs∧J vs
  | .join n rest k,L,ρ=>∃ J : List DV→Prop,(∀ vs,vs.length = n→J vs→V P R rest L (psh vs ρ))∧V P R k (L ++ [J]) ρ
  | .loop xs body,L,ρ=>∃ (I : List DV→Nat→Prop) (m : Nat) (vs : List DV),gL ρ xs = some vs∧I vs m∧∀ vs m,vs.length = xs.length→I vs m→V P R body (L ++ [fun vs'=>∃ m',m' < m∧I vs' m']) (psh vs ρ)
  | .ret xs,L,ρ=>∃ vs,gArgs ρ xs = some vs∧R vs
  | .sel xs k,L,ρ=>(match gL ρ xs with | some vs=>V P R k L vs | none=>False)
def pos : List Nat→Nat→Option Nat
  | [],_=>none
  | j :: r,i=>if j = i then some 0 else (match pos r i with | some p=>some (p + 1) | none=>none)
theorem pos_get : ∀ {μ : List Nat} {i p : Nat},pos μ i = some p→μ[p]? = some i
  | [],i,p,h=>by simp [pos] at h
  | j :: r,i,p,h=>by
    simp only [pos] at h
    split at h
    · rename_i e;injection h with h;subst e h;rfl
    · split at h
      · rename_i q hq;injection h with h;subst h;simpa using pos_get hq
      · cases h
def Al (μ : List Nat) (ρ ρ' : List DV) : Prop:=∀ (p i : Nat),μ[p]? = some i→ρ'[p]? = ρ[i]?
theorem Al.look {μ : List Nat} {ρ ρ' : List DV} (h : Al μ ρ ρ') {i p : Nat} (hp : pos μ i = some p) : ρ'[p]? = ρ[i]?:=h p i (pos_get hp)
theorem Al.one {μ : List Nat} {ρ ρ' : List DV} (h : Al μ ρ ρ') (hb : ∀ i ∈ μ,i < ρ.length) (x : DV) : Al (ρ.length :: μ) (ρ ++ [x]) (x :: ρ'):=by
  intro p i hp
  cases p with
  | zero=>simp at hp;subst hp;simp
  | succ p =>
    simp only [List.getElem?_cons_succ] at hp ⊢
    have:=hb i (List.mem_of_getElem? hp)
    rw [h p i hp,List.getElem?_append_left this]
theorem Al.many : ∀ {e : List DV} {μ : List Nat} {ρ ρ' : List DV},Al μ ρ ρ'→(∀ i ∈ μ,i < ρ.length)→Al (psh (vars ρ.length e.length) μ) (ρ ++ e) (psh e ρ')∧∀ i ∈ psh (vars ρ.length e.length) μ,i < (ρ ++ e).length
  | [],μ,ρ,ρ',h,hb=>by simpa [psh,vars] using ⟨h,hb⟩
  | x :: e,μ,ρ,ρ',h,hb=>by
    have h1:=h.one hb x
    have h2 : ∀ i ∈ ρ.length :: μ,i < (ρ ++ [x]).length:=by
      intro i hi
      rcases List.mem_cons.1 hi with rfl | hi
      · simp
      · have:=hb i hi;simp;omega
    have:=Al.many (e:=e) h1 h2
    simpa [psh,vars] using this
def pO (μ : List Nat) : Option Nat→Option (Option Nat)
  | none=>some none
  | some i=>(match pos μ i with | some p=>some (some p) | none=>none)
def pL (μ : List Nat) : List Nat→Option (List Nat)
  | []=>some []
  | i :: r=>(match pos μ i,pL μ r with | some p,some q=>some (p :: q) | _,_=>none)
def pLL (μ : List Nat) : List (List Nat)→Option (List (List Nat))
  | []=>some []
  | i :: r=>(match pL μ i,pLL μ r with | some p,some q=>some (p :: q) | _,_=>none)
def pA (μ : List Nat) : List (Bool × List Nat)→Option (List (Bool × List Nat))
  | []=>some []
  | (b,i) :: r=>(match pL μ i,pA μ r with | some p,some q=>some ((b,p) :: q) | _,_=>none)
section
variable {μ : List Nat} {ρ ρ' : List DV}
theorem gI_al (h : Al μ ρ ρ') {i p : Nat} (hp : pos μ i = some p) : gI ρ' p = gI ρ i:=by unfold gI;rw [h.look hp]
theorem gIo_al (h : Al μ ρ ρ') {i p : Option Nat} (hp : pO μ i = some p) : gIo ρ' p = gIo ρ i:=by
  cases i with
  | none=>simp only [pO] at hp;injection hp with hp;subst hp;rfl
  | some i =>
    simp only [pO] at hp
    split at hp
    · rename_i q hq;injection hp with hp;subst hp;simp only [gIo,gI_al h hq]
    · cases hp
theorem gL_al (h : Al μ ρ ρ') : ∀ {is ps : List Nat},pL μ is = some ps→gL ρ' ps = gL ρ is
  | [],ps,hp=>by simp only [pL] at hp;injection hp with hp;subst hp;rfl
  | i :: is,ps,hp=>by
    simp only [pL] at hp
    split at hp
    · rename_i p q h1 h2;injection hp with hp;subst hp;simp only [gL,h.look h1,gL_al h h2]
    · cases hp
theorem gLL_al (h : Al μ ρ ρ') : ∀ {is ps : List (List Nat)},pLL μ is = some ps→gLL ρ' ps = gLL ρ is
  | [],ps,hp=>by simp only [pLL] at hp;injection hp with hp;subst hp;rfl
  | i :: is,ps,hp=>by
    simp only [pLL] at hp
    split at hp
    · rename_i p q h1 h2;injection hp with hp;subst hp;simp only [gLL,gL_al h h1,gLL_al h h2]
    · cases hp
theorem gArgs_al (h : Al μ ρ ρ') : ∀ {is ps : List (Bool × List Nat)},pA μ is = some ps→gArgs ρ' ps = gArgs ρ is
  | [],ps,hp=>by simp only [pA] at hp;injection hp with hp;subst hp;rfl
  | (b,i) :: is,ps,hp=>by
    simp only [pA] at hp
    split at hp
    · rename_i p q h1 h2;injection hp with hp;subst hp;simp only [gArgs,gL_al h h1,gArgs_al h h2]
    · cases hp
end
def mapO (μ : List Nat) : PO→Option PO
  | .k v=>some (.k v)
  | .e t k=>some (.e t k)
  | .sc x=>(match pos μ x with | some x=>some (.sc x) | none=>none)
  | .isI x=>(match pos μ x with | some x=>some (.isI x) | none=>none)
  | .flat x=>(match pos μ x with | some x=>some (.flat x) | none=>none)
  | .isL t k x=>(match pos μ x with | some x=>some (.isL t k x) | none=>none)
  | .bin op b x y=>(match pos μ x,pos μ y with | some x,some y=>some (.bin op b x y) | _,_=>none)
  | .un op x=>(match pos μ x with | some x=>some (.un op x) | none=>none)
  | .cvI k x=>(match pos μ x with | some x=>some (.cvI k x) | none=>none)
  | .cvS x=>(match pos μ x with | some x=>some (.cvS x) | none=>none)
  | .cvB x=>(match pos μ x with | some x=>some (.cvB x) | none=>none)
  | .lenS x=>(match pos μ x with | some x=>some (.lenS x) | none=>none)
  | .lenL x=>(match pos μ x with | some x=>some (.lenL x) | none=>none)
  | .chr x i=>(match pos μ x,pos μ i with | some x,some i=>some (.chr x i) | _,_=>none)
  | .idx k x i=>(match pos μ x,pos μ i with | some x,some i=>some (.idx k x i) | _,_=>none)
  | .chk k x i=>(match pos μ x,pos μ i with | some x,some i=>some (.chk k x i) | _,_=>none)
  | .cutS x lo hi=>(match pos μ x,pO μ lo,pO μ hi with | some x,some lo,some hi=>some (.cutS x lo hi) | _,_,_=>none)
  | .cutL k x lo hi=>(match pos μ x,pO μ lo,pO μ hi with | some x,some lo,some hi=>some (.cutL k x lo hi) | _,_,_=>none)
  | .app el k b x y=>(match pos μ x,pos μ y with | some x,some y=>some (.app el k b x y) | _,_=>none)
  | .mk el k rows=>(match pLL μ rows with | some r=>some (.mk el k r) | none=>none)
  | .make el k b z n=>(match pos μ n with | some n=>some (.make el k b z n) | none=>none)
  | .set k x j off vs=>(match pos μ x,pos μ j,pL μ vs with | some x,some j,some vs=>some (.set k x j off vs) | _,_,_=>none)
  | .mm mx x y=>(match pos μ x,pos μ y with | some x,some y=>some (.mm mx x y) | _,_=>none)
  | .eqS neg ks xs ys=>(match pL μ xs,pL μ ys with | some xs,some ys=>some (.eqS neg ks xs ys) | _,_=>none)
  | .cutI x lo hi=>(match pos μ x,pO μ lo,pO μ hi with | some x,some lo,some hi=>some (.cutI x lo hi) | _,_,_=>none)
  | .cutJ z m lo hi=>(match pos μ z,pos μ m,pO μ lo,pO μ hi with | some z,some m,some lo,some hi=>some (.cutJ z m lo hi) | _,_,_,_=>none)
  | .atJ z m i=>(match pos μ z,pos μ m,pos μ i with | some z,some m,some i=>some (.atJ z m i) | _,_,_=>none)
  | .viewD x z m=>(match pos μ x,pos μ z,pos μ m with | some x,some z,some m=>some (.viewD x z m) | _,_,_=>none)
  | .cutP x z m=>(match pos μ x,pos μ z,pos μ m with | some x,some z,some m=>some (.cutP x z m) | _,_,_=>none)
  | .emp x=>(match pos μ x with | some x=>some (.emp x) | none=>none)
  | .unc z n=>(match pos μ z with | some z=>some (.unc z n) | none=>none)
  | .cuS z off v=>(match pos μ z,pos μ v with | some z,some v=>some (.cuS z off v) | _,_=>none)
  | .stop k=>some (.stop k)
  | .cpy k x lo n lo' n'=>(match pos μ x,pos μ lo,pos μ n,pos μ lo',pos μ n' with | some x,some lo,some n,some lo',some n'=>some (.cpy k x lo n lo' n') | _,_,_,_,_=>none)
def outN : PO→Nat
  | .sc _ | .isI _ | .flat _ | .isL _ _ _ | .chk _ _ _=>0
  | .idx k _ _=>k
  | .cutI _ _ _ | .cutJ _ _ _ _ | .cpy _ _ _ _ _ _=>2
  | .unc _ n | .stop n=>n
  | _=>1
theorem mapO_al {μ : List Nat} {ρ ρ' : List DV} (h : Al μ ρ ρ') {o o' : PO} (ho : mapO μ o = some o') : evalP ρ' o' = evalP ρ o:=by
  cases o <;> simp only [mapO] at ho
  all_goals first
    | (injection ho with ho;subst ho;rfl)
    | (split at ho
       · injection ho with ho;subst ho
         rename_i h1 h2 h3
         simp only [evalP,h.look h1,h.look h2,gIo_al h h2,gIo_al h h3,gL_al h h3]
       · cases ho)
    | (split at ho
       · injection ho with ho;subst ho
         rename_i h1 h2 h3
         simp only [evalP,h.look h1,gIo_al h h2,gIo_al h h3]
       · cases ho)
    | (split at ho
       · injection ho with ho;subst ho
         rename_i h1 h2 h3
         simp only [evalP,h.look h1,h.look h2,gL_al h h3]
       · cases ho)
    | (split at ho
       · injection ho with ho;subst ho
         rename_i h1 h2 h3
         simp only [evalP,h.look h1,h.look h2,h.look h3]
       · cases ho)
    | (split at ho
       · injection ho with ho;subst ho
         rename_i h1 h2 h3 h4
         simp only [evalP,h.look h1,h.look h2,gIo_al h h3,gIo_al h h4]
       · cases ho)
    | (split at ho
       · injection ho with ho;subst ho
         rename_i h1 h2
         simp only [evalP,h.look h1,h.look h2]
       · cases ho)
    | (split at ho
       · injection ho with ho;subst ho
         rename_i h1 h2
         simp only [evalP,gL_al h h1,gL_al h h2]
       · cases ho)
    | (split at ho
       · injection ho with ho;subst ho
         rename_i h1
         simp only [evalP,h.look h1]
       · cases ho)
    | (split at ho
       · injection ho with ho;subst ho
         rename_i h1
         simp only [evalP,gLL_al h h1]
       · cases ho)
    | (split at ho
       · injection ho with ho;subst ho
         rename_i h1 h2 h3 h4 h5
         simp only [evalP,h.look h1,h.look h2,h.look h3,h.look h4,h.look h5]
       · cases ho)
theorem evalP_len {ρ : List DV} {o : PO} {out : List DV} (h : evalP ρ o = some out) : out.length = outN o:=by
  cases o with
  | idx k x i=>obtain ⟨t,es,kd,z,h1,h2,h3,h4,h5⟩:=idx_eval h;exact h5
  | unc z n =>
    simp only [evalP] at h
    split at h
    · split at h
      · rename_i hl;injection h with h;subst h;simpa [outN] using hl
      · cases h
    · cases h
  | _ =>
    simp only [evalP] at h
    repeat' split at h
    all_goals first
      | (injection h with h;subst h;rfl)
      | (cases h;done)
      | (unfold sc1 at h;split at h <;> first | (injection h with h;subst h;rfl) | cases h)
def mk1 (i : Nat) : Nat:=1 <<< i
def mkL : List Nat→Nat
  | []=>0
  | i :: r=>mk1 i ||| mkL r
def mkO : Option Nat→Nat
  | none=>0
  | some i=>mk1 i
def mkLL : List (List Nat)→Nat
  | []=>0
  | i :: r=>mkL i ||| mkLL r
def mkA : List (Bool × List Nat)→Nat
  | []=>0
  | (_,i) :: r=>mkL i ||| mkA r
def fvO : PO→Nat
  | .k _ | .e _ _ | .stop _=>0
  | .cpy _ x lo n lo' n'=>mk1 x ||| (mk1 lo ||| (mk1 n ||| (mk1 lo' ||| mk1 n')))
  | .sc x | .isI x | .flat x | .isL _ _ x | .un _ x | .cvI _ x | .cvS x | .cvB x | .lenS x | .lenL x | .make _ _ _ _ x | .emp x | .unc x _=>mk1 x
  | .cuS x _ y=>mk1 x ||| mk1 y
  | .bin _ _ x y | .chr x y | .idx _ x y | .chk _ x y | .app _ _ _ x y | .mm _ x y=>mk1 x ||| mk1 y
  | .cutS x lo hi | .cutL _ x lo hi | .cutI x lo hi=>mk1 x ||| (mkO lo ||| mkO hi)
  | .cutJ z m lo hi=>mk1 z ||| (mk1 m ||| (mkO lo ||| mkO hi))
  | .atJ x y z | .viewD x y z | .cutP x y z=>mk1 x ||| (mk1 y ||| mk1 z)
  | .mk _ _ rows=>mkLL rows
  | .set _ x j _ vs=>mk1 x ||| (mk1 j ||| mkL vs)
  | .eqS _ _ xs ys=>mkL xs ||| mkL ys
def fv : Pg→Nat
  | .nd (.po o) k=>fvO o ||| fv k
  | .nd (.call _ a _) k=>mkA a ||| fv k
  | .nd (.mark _ _ xs j) k=>mkL (xs.map (·.1)) ||| (mk1 j ||| fv k)
  | .ite x a b=>mk1 x ||| (fv a ||| fv b)
  | .jump _ xs=>mkL xs
  | .join _ rest k=>fv rest ||| fv k
  | .loop xs body=>mkL xs ||| fv body
  | .ret xs=>mkA xs
def keep (msk : Nat) : List Nat→Nat→List Nat × List Nat
  | [],_=>([],[])
  | i :: r,p=>if (msk >>> i) % 2 = 1 then (p :: (keep msk r (p + 1)).1,i :: (keep msk r (p + 1)).2) else keep msk r (p + 1)
theorem keep_ok {msk : Nat} {μ0 : List Nat} : ∀ {μ pre : List Nat},μ0 = pre ++ μ→∀ (j : Nat) (i : Nat),(keep msk μ pre.length).2[j]? = some i→∃ p,(keep msk μ pre.length).1[j]? = some p∧μ0[p]? = some i
  | [],pre,h,j,i,hi=>by simp [keep] at hi
  | x :: μ,pre,h,j,i,hi=>by
    have hr:=keep_ok (msk:=msk) (μ0:=μ0) (μ:=μ) (pre:=pre ++ [x]) (by simp [h])
    simp only [List.length_append,List.length_singleton] at hr
    simp only [keep] at hi ⊢
    split
    · rename_i hm
      rw [if_pos hm] at hi
      cases j with
      | zero=>simp at hi;subst hi;exact ⟨pre.length,by simp,by rw [h];simp⟩
      | succ j=>simpa using hr j i (by simpa using hi)
    · rename_i hm
      rw [if_neg hm] at hi
      exact hr j i hi
def prn (msk : Nat) (μ : List Nat) (f : List Nat→Option UP) : Option UP :=
  if (keep msk μ 0).2.length + 3 < μ.length then (match f (keep msk μ 0).2 with | some k=>some (.sel (keep msk μ 0).1 k) | none=>none) else f μ
def cv : Pg→Nat→List Nat→Option UP
  | .nd (.po o) k,m,μ=>(match mapO μ o,cv k (m + outN o) (psh (vars m (outN o)) μ) with | some o,some k=>some (.po o k) | _,_=>none)
  | .nd (.call f a sh) k,m,μ=>prn (mkA a ||| fv k) μ fun μ=>(match pA μ a,cv k (m + shLen sh) (psh (vars m (shLen sh)) μ) with | some a,some k=>some (.cl f a sh k) | _,_=>none)
  | .nd (.mark f b xs j) k,m,μ=>prn (mkL (xs.map (·.1)) ||| (mk1 j ||| fv k)) μ fun μ=>(match pL μ (xs.map (·.1)),pos μ j,cv k (m + (xs.length + 1)) (psh (vars m (xs.length + 1)) μ) with | some ys,some j,some k=>some (.mk f b (ys.zip (xs.map (·.2))) j k) | _,_,_=>none)
  | .ite x a b,m,μ=>(match pos μ x,cv a m μ,cv b m μ with | some x,some a,some b=>some (.ite x a b) | _,_,_=>none)
  | .jump l xs,m,μ=>(match pL μ xs with | some xs=>some (.jump l xs) | none=>none)
  | .join n rest k,m,μ=>prn (fv rest ||| fv k) μ fun μ=>(match cv rest (m + n) (psh (vars m n) μ),cv k m μ with | some rest,some k=>some (.join n rest k) | _,_=>none)
  | .loop xs body,m,μ=>prn (mkL xs ||| fv body) μ fun μ=>(match pL μ xs,cv body (m + xs.length) (psh (vars m xs.length) μ) with | some xs,some body=>some (.loop xs body) | _,_=>none)
  | .ret xs,m,μ=>(match pA μ xs with | some xs=>some (.ret xs) | none=>none)
section
variable {P : Program} {R : List (Bool × List DV)→Prop}
theorem Al.keep {μ : List Nat} {ρ ρ' vs : List DV} {msk : Nat} (h : Al μ ρ ρ') (hb : ∀ i ∈ μ,i < ρ.length) (hv : gL ρ' (keep msk μ 0).1 = some vs) : Al (keep msk μ 0).2 ρ vs∧∀ i ∈ (keep msk μ 0).2,i < ρ.length:=by
  have hk:=keep_ok (msk:=msk) (μ0:=μ) (μ:=μ) (pre:=[]) rfl
  simp only [List.length_nil] at hk
  refine ⟨fun j i hi=>?_,fun i hi=>?_⟩
  · obtain ⟨p,h1,h2⟩:=hk j i hi
    obtain ⟨x,x1,x2⟩:=(gL_rd hv).at h1
    rw [x1,← h p i h2,x2]
  · obtain ⟨j,hj⟩:=List.getElem?_of_mem hi
    obtain ⟨p,h1,h2⟩:=hk j i hj
    exact hb i (List.mem_of_getElem? h2)
theorem prn_ok {msk : Nat} {μ : List Nat} {f : List Nat→Option UP} {up : UP} {L : Lbl} {ρ ρ' : List DV} {Z : Prop} (h : prn msk μ f = some up) (ha : Al μ ρ ρ') (hb : ∀ i ∈ μ,i < ρ.length) (hv : V P R up L ρ')
    (hk : ∀ μ up ρ',f μ = some up→Al μ ρ ρ'→(∀ i ∈ μ,i < ρ.length)→V P R up L ρ'→Z) : Z:=by
  unfold prn at h
  split at h
  · split at h
    · rename_i k hf
      injection h with h;subst h
      simp only [V] at hv
      split at hv
      · rename_i vs hg
        obtain ⟨h1,h2⟩:=ha.keep hb hg
        exact hk _ _ _ hf h1 h2 hv
      · exact hv.elim
    · cases h
  · exact hk _ _ _ h ha hb hv
theorem pL_len {μ : List Nat} : ∀ {is ps : List Nat},pL μ is = some ps→ps.length = is.length
  | [],ps,hp=>by simp only [pL] at hp;injection hp with hp;subst hp;rfl
  | i :: is,ps,hp=>by
    simp only [pL] at hp
    split at hp
    · rename_i p q h1 h2;injection hp with hp;subst hp;simp [pL_len h2]
    · cases hp
theorem mkEq_kinds : ∀ {xs ys : List (Nat × Nat)} {ds ds' : List DV},xs.map (·.2) = ys.map (·.2)→mkEq xs ds ds'→mkEq ys ds ds'
  | [],[],[],[],_,_=>trivial
  | (a,b) :: xs,(c,d) :: ys,ds,ds',h,hm=>by
    simp only [List.map_cons,List.cons.injEq] at h
    obtain ⟨rfl,h⟩:=h
    match b,ds,ds',hm with
    | 0,d :: ds,d' :: ds',hm=>exact ⟨hm.1,mkEq_kinds h hm.2⟩
    | 1,d :: ds,d' :: ds',hm=>exact ⟨hm.1,mkEq_kinds h hm.2⟩
    | 2,d :: ds,d' :: ds',hm=>exact mkEq_kinds (ds:=ds) (ds':=ds') h hm
  | [],_ :: _,_,_,h,_=>by simp at h
  | _ :: _,[],_,_,h,_=>by simp at h
theorem mkEq_len : ∀ {xs : List (Nat × Nat)} {ds ds' : List DV},mkEq xs ds ds'→ds'.length = xs.length
  | [],[],[],_=>rfl
  | (a,0) :: xs,d :: ds,d' :: ds',hm=>by simp [mkEq_len hm.2]
  | (a,1) :: xs,d :: ds,d' :: ds',hm=>by simp [mkEq_len hm.2]
  | (a,2) :: xs,d :: ds,d' :: ds',hm=>by simp [mkEq_len (ds:=ds) (show mkEq xs ds ds' from hm)]
theorem cv_ok : ∀ (pg : Pg) {m : Nat} {μ : List Nat} {up : UP} {L : Lbl} {ρ ρ' : List DV},cv pg m μ = some up→m = ρ.length→Al μ ρ ρ'→(∀ i ∈ μ,i < ρ.length)→V P R up L ρ'→W P R pg L ρ:=by
  intro pg
  induction pg with
  | nd n k ih =>
    intro m μ up L ρ ρ' h hm ha hb hv
    subst hm
    cases n with
    | po o =>
      simp only [cv] at h
      split at h
      · rename_i o' k' h1 h2
        injection h with h;subst h
        simp only [V] at hv
        rw [mapO_al ha h1] at hv
        simp only [W]
        split at hv
        · rename_i out ho
          rw [ho]
          have hl:=evalP_len ho
          obtain ⟨a1,a2⟩:=ha.many (e:=out) hb
          rw [hl] at a1 a2
          exact ih h2 (by simp [hl]) a1 a2 hv
        · exact hv.elim
      · cases h
    | call f a sh =>
      simp only [cv] at h
      refine prn_ok h ha hb hv ?_
      intro μ up ρ' h ha hb hv
      split at h
      · rename_i a' k' h1 h2
        injection h with h;subst h
        simp only [V] at hv
        obtain ⟨ys,res,v1,v2,v3,v4⟩:=hv
        rw [gArgs_al ha h1] at v1
        simp only [W]
        have hl:=shOk_len v3
        obtain ⟨a1,a2⟩:=ha.many (e:=flatR res) hb
        rw [hl] at a1 a2
        exact ⟨ys,res,v1,v2,v3,ih h2 (by simp [hl]) a1 a2 v4⟩
      · cases h
    | mark f b xs j =>
      simp only [cv] at h
      refine prn_ok h ha hb hv ?_
      intro μ up ρ' h ha hb hv
      split at h
      · rename_i ys j' k' h1 h3 h2
        injection h with h;subst h
        simp only [V] at hv
        obtain ⟨ds,ds',n,n',v1,v2,v3,v4,v5⟩:=hv
        have hyl:=pL_len h1
        rw [List.length_map] at hyl
        have e1 : (ys.zip (xs.map (·.2))).map (·.1) = ys:=by rw [List.map_fst_zip (by simp [hyl])]
        have e2 : (ys.zip (xs.map (·.2))).map (·.2) = xs.map (·.2):=by rw [List.map_snd_zip (by simp [hyl])]
        rw [e1,gL_al ha h1] at v1
        rw [ha.look h3] at v2
        have v4':=mkEq_kinds e2 v4
        have hl:=mkEq_len v4'
        simp only [W]
        obtain ⟨a1,a2⟩:=ha.many (e:=ds' ++ [.sc (.int .i64 n')]) hb
        have hl2 : (ds' ++ [DV.sc (.int .i64 n')]).length = xs.length + 1:=by simp [hl]
        rw [hl2] at a1 a2
        exact ⟨ds,ds',n,n',v1,v2,v3,v4',ih h2 (by rw [List.length_append,hl2]) a1 a2 v5⟩
      · cases h
  | ite x a b iha ihb =>
    intro m μ up L ρ ρ' h hm ha hb hv
    simp only [cv] at h
    split at h
    · rename_i x' a' b' h1 h2 h3
      injection h with h;subst h
      simp only [V] at hv
      simp only [W]
      rw [ha.look h1] at hv
      split at hv
      · rename_i c hc
        rw [hc]
        cases c with
        | true=>exact iha h2 hm ha hb hv
        | false=>exact ihb h3 hm ha hb hv
      · exact hv.elim
    · cases h
  | jump l xs =>
    intro m μ up L ρ ρ' h hm ha hb hv
    simp only [cv] at h
    split at h
    · rename_i ys h1
      injection h with h;subst h
      simp only [V,gL_al ha h1] at hv
      exact hv
    · cases h
  | join n rest k ihr ihk =>
    intro m μ up L ρ ρ' h hm ha hb hv
    subst hm
    simp only [cv] at h
    refine prn_ok h ha hb hv ?_
    intro μ up ρ' h ha hb hv
    split at h
    · rename_i r' k' h1 h2
      injection h with h;subst h
      simp only [V] at hv
      obtain ⟨J,j1,j2⟩:=hv
      refine ⟨J,fun vs hl hJ=>?_,ihk h2 rfl ha hb j2⟩
      obtain ⟨a1,a2⟩:=ha.many (e:=vs) hb
      rw [hl] at a1 a2
      exact ihr h1 (by simp [hl]) a1 a2 (j1 vs hl hJ)
    · cases h
  | loop xs body ih =>
    intro m μ up L ρ ρ' h hm ha hb hv
    subst hm
    simp only [cv] at h
    refine prn_ok h ha hb hv ?_
    intro μ up ρ' h ha hb hv
    split at h
    · rename_i ys b' h1 h2
      injection h with h;subst h
      simp only [V] at hv
      obtain ⟨I,m,vs,v1,v2,v3⟩:=hv
      rw [gL_al ha h1] at v1
      refine ⟨I,m,vs,v1,v2,fun vs m hl hI=>?_⟩
      obtain ⟨a1,a2⟩:=ha.many (e:=vs) hb
      rw [hl] at a1 a2
      exact ih h2 (by simp [hl]) a1 a2 (v3 vs m (by rw [hl,pL_len h1]) hI)
    · cases h
  | ret xs =>
    intro m μ up L ρ ρ' h hm ha hb hv
    simp only [cv] at h
    split at h
    · rename_i ys h1
      injection h with h;subst h
      simp only [V,gArgs_al ha h1] at hv
      exact hv
    · cases h
def toUP (P : Program) (N : Nat) (ow : OwK) (hs : List Hint) (dn : List (Nat × Nat × Bool × List Nat)) (c : Code) (sh : List (Bool × Nat)) (rvs : List ResultVar) (ty : List (List (Option (Nat × Nat)))) : Option UP :=
  match gen P N ow hs (drawP P N ow dn) c 0 (initSy sh) (retKt P rvs ty) with
  | some pg=>cv pg ((sh.map (·.2)).sum) (psh (vars 0 ((sh.map (·.2)).sum)) [])
  | none=>none
theorem sum_flatA (args : List (Bool × List DV)) : ((shA args).map (·.2)).sum = (flatA args).length:=by
  induction args with
  | nil=>rfl
  | cons a r ih=>obtain ⟨b,ds⟩:=a;simp only [shA,List.map_cons,List.sum_cons,flatA,List.length_append] at ih ⊢;rw [ih]
theorem meets_up {ow : OwK} {hs : List Hint} {dn : List (Nat × Nat × Bool × List Nat)} {f : FuncId} {fn : Func} {c : Code} {args : List (Bool × List DV)} {res : List Rs} {ty : List (List (Option (Nat × Nat)))} {sh : List (Bool × Nat)} {up : UP} {N : Nat} {rvs : List ResultVar}
    (hf : P.funcs[f]? = some fn) (hb : fn.body = some c) (hc : callable P f = true) (hN : fn.ntmps = N) (hrv : fn.results.toList = rvs)
    (hg : toUP P N ow hs dn c sh rvs ty = some up) (hl : sh.length≤N) (hsh : shA args = sh) (hw : V P (isRes res) up [] (psh (flatA args) [])) : Meets P f args res:=by
  subst hN hrv hsh
  unfold toUP at hg
  split at hg
  · rename_i pg hp
    have hlen : args.length≤fn.ntmps:=by simpa [shA] using hl
    refine meets_vd drawP_ok hf hb hc hlen rfl hp ?_
    rw [sum_flatA] at hg
    obtain ⟨a1,a2⟩:=Al.many (e:=flatA args) (μ:=[]) (ρ:=[]) (ρ':=[]) (fun p i h=>by simp at h) (by simp)
    simp only [List.nil_append,List.length_nil] at a1 a2
    exact cv_ok pg hg rfl a1 a2 hw
  · cases hg
end
section
variable {P : Program}
def shP (P : Program) (fn : Func) : List (Bool × Nat):=fn.params.toList.map fun t=>((tagg P t).getD false,(tcl P 9 t).length)
def toUPf (P : Program) (f : FuncId) (fn : Func) (ow : OwK) (hs : List Hint) (dn : List (Nat × Nat × Bool × List Nat)) : Option (List (Bool × Nat) × UP) :=
  match fn.body with
  | some c=>if callable P f && decide (fn.params.toList.length≤fn.ntmps) then (match toUP P fn.ntmps ow hs dn c (shP P fn) fn.results.toList (fn.resultTypes.toList.map (tcl P 9)) with | some up=>some (shP P fn,up) | none=>none) else none
  | none=>none
theorem meets_upf {ow : OwK} {hs : List Hint} {dn : List (Nat × Nat × Bool × List Nat)} {f : FuncId} {fn : Func} {args : List (Bool × List DV)} {res : List Rs} {sh : List (Bool × Nat)} {up : UP}
    (hf : P.funcs[f]? = some fn) (hg : toUPf P f fn ow hs dn = some (sh,up)) (hsh : shA args = sh) (hw : V P (isRes res) up [] (psh (flatA args) [])) : Meets P f args res:=by
  unfold toUPf at hg
  split at hg
  · rename_i c hc
    split at hg
    · rename_i hb
      rw [Bool.and_eq_true,decide_eq_true_eq] at hb
      split at hg
      · rename_i up' hu
        injection hg with hg;injection hg with e1 e2;subst e1 e2
        exact meets_up hf hc hb.1 rfl rfl hu (by simpa [shP] using hb.2) hsh hw
      · cases hg
    · cases hg
  · cases hg
end
end Go.Proofs.Ytboheedjhnbnhaa
namespace Go.Proofs.Ytboheedjhnbnhaa
open Go.RowKit
section
variable {P : Program} {ρ ρ' : List DV} {σ : List Nat} {S S' : Sy} {s s0 : AS} {ps : List PO}
def sRdvs : List (Bool × List SC)→List (List (Option (Nat × Nat)))→Sy→Option (List PO × List (Bool × List Nat))
  | [],_,S=>some ([],[])
  | (b,cs) :: r,ty,S=>(match sRd false cs (ty.headD []) S with
    | some (p,xs,S1)=>(match sRdvs r ty.tail S1 with | some (q,l)=>some (p ++ q,(b,xs) :: l) | none=>none)
    | none=>none)
def retKr (P : Program) (rvs : List ResultVar) (ty : List (List (Option (Nat × Nat)))) : Kt:=fun _ e S =>
  match e with
  | .normal | .ret=>(match sRvs P rvs S with
    | some (p,xs,S1)=>(match sRdvs xs ty S1 with | some (q,l)=>some (nds ((p ++ q).map .po) (.ret l)) | none=>none)
    | none=>none)
  | _=>none
def toUPr (P : Program) (N : Nat) (ow : OwK) (hs : List Hint) (dn : List (Nat × Nat × Bool × List Nat)) (c : Code) (sh : List (Bool × Nat)) (rvs : List ResultVar) (ty : List (List (Option (Nat × Nat)))) : Option UP :=
  match gen P N ow hs (drawP P N ow dn) c 0 (initSy sh) (retKr P rvs ty) with
  | some pg=>cv pg ((sh.map (·.2)).sum) (psh (vars 0 ((sh.map (·.2)).sum)) [])
  | none=>none
def toUPrf (P : Program) (f : FuncId) (fn : Func) (ow : OwK) (hs : List Hint) (dn : List (Nat × Nat × Bool × List Nat)) : Option (List (Bool × Nat) × UP) :=
  match fn.body with
  | some c=>if callable P f && decide (fn.params.toList.length≤fn.ntmps) then (match toUPr P fn.ntmps ow hs dn c (shP P fn) fn.results.toList (fn.resultTypes.toList.map (tcl P 9)) with | some up=>some (shP P fn,up) | none=>none) else none
  | none=>none
end
section
variable {P : Program}
def initSyP (t k : Nat) (sh : List (Bool × Nat)) : Sy:=⟨(0,.p false [.own 0 0]) :: iSl sh 1 1,[(0,.row 0 t k 0)],1,1,1 + (sh.map (·.2)).sum,[]⟩
theorem initP_rel (t k : Nat) (es : List (List DV)) (rest : List (Bool × List DV)) : Rel (initSyP t k (shA rest)) ([DV.sl t k es] ++ flatA rest) [0] (initP t k es rest):=by
  refine ⟨rfl,rfl,?_,fun j x hx=>?_,fun i x hx=>?_,fun i b hb=>by simp [initSyP,alook] at hb⟩
  · simp only [initSyP,sum_flatA,List.length_append,List.length_singleton]
  · simp only [initSyP,alook] at hx
    split at hx
    · rename_i e
      subst e
      injection hx with hx;subst hx
      exact ⟨rfl,⟨rfl,rfl⟩,trivial⟩
    · rename_i e
      obtain ⟨b,ds,m,h1,h2,h3,h4⟩:=iSl_ok (pre:=[DV.sl t k es]) hx
      subst h3
      have hj : (initP t k es rest).sl j = (initS ((true,[]) :: rest)).sl j:=by
        simp only [initP,AS.put,AS.push,upd_at]
        rw [if_neg (by omega)]
      rw [hj]
      have : ((true,[]) :: rest)[j]? = rest[j - 1]?:=by
        obtain ⟨q,rfl⟩:=Nat.exists_eq_succ_of_ne_zero (show j ≠ 0 by omega)
        simp
      simp only [initS,this,h2]
      exact ⟨rfl,RD.toC h4⟩
  · simp only [initSyP,alook] at hx
    split at hx
    · rename_i e
      subst e
      injection hx with hx;subst hx
      refine ⟨Nat.lt_succ_self _,?_⟩
      have : (initP t k es rest).ob 0 = .row 0 t k es true:=by simp only [initP,AS.put,AS.push];exact upd_same _ _ _
      rw [this]
      exact ⟨rfl,rfl,rfl,rfl,rfl⟩
    · cases hx
def toUPp (P : Program) (N : Nat) (ow : OwK) (hs : List Hint) (dn : List (Nat × Nat × Bool × List Nat)) (c : Code) (t k : Nat) (sh : List (Bool × Nat)) (rvs : List ResultVar) (ty : List (List (Option (Nat × Nat)))) : Option UP :=
  match gen P N ow hs (drawP P N ow dn) c 0 (initSyP t k sh) (retKt P rvs ty) with
  | some pg=>cv pg (1 + (sh.map (·.2)).sum) (psh (vars 0 (1 + (sh.map (·.2)).sum)) [])
  | none=>none
def shL (P : Program) (ts : List TypeId) : List (Bool × Nat):=ts.map fun t=>((tagg P t).getD false,(tcl P 9 t).length)
def toUPpf (P : Program) (f : FuncId) (fn : Func) (ow : OwK) (hs : List Hint) (dn : List (Nat × Nat × Bool × List Nat)) : Option ((Nat × Nat × List (Bool × Nat)) × UP) :=
  match fn.body,fn.params.toList with
  | some c,T :: ts=>(match tel P T with
    | some (t,k)=>if callable P f && decide (ts.length + 1≤fn.ntmps) then (match toUPp P fn.ntmps ow hs dn c t k (shL P ts) fn.results.toList (fn.resultTypes.toList.map (tcl P 9)) with | some up=>some ((t,k,shL P ts),up) | none=>none) else none
    | none=>none)
  | _,_=>none
theorem meets_uppf {ow : OwK} {hs : List Hint} {dn : List (Nat × Nat × Bool × List Nat)} {f : FuncId} {fn : Func} {t k : Nat} {es : List (List DV)} {rest : List (Bool × List DV)} {res : List Rs} {sh : List (Bool × Nat)} {up : UP}
    (hf : P.funcs[f]? = some fn) (hg : toUPpf P f fn ow hs dn = some ((t,k,sh),up)) (hsh : shA rest = sh) (hfl : Flat es.flatten) (hdp : ∀ r ∈ res,r.2.2 = true) (hw : V P (isRes res) up [] (psh (flatA ((false,[.sl t k es]) :: rest)) [])) : MeetsP P f ((false,[.sl t k es]) :: rest) res:=by
  unfold toUPpf at hg
  split at hg
  · rename_i c T ts hc hp
    split at hg
    · rename_i t' k' ht
      split at hg
      · rename_i hb
        rw [Bool.and_eq_true,decide_eq_true_eq] at hb
        split at hg
        · rename_i up' hu
          injection hg with hg;injection hg with e1 e2;injection e1 with e3 e4;injection e4 with e5 e6;subst e2 e3 e5
          unfold toUPp at hu
          split at hu
          · rename_i pg hp'
            have hlen : rest.length + 1≤fn.ntmps:=by
              have h1:=congrArg List.length (hsh.trans e6.symm)
              simp only [shA,shL,List.length_map] at h1
              rw [h1];exact hb.2
            rw [e6,← hsh] at hp' hu
            refine meetsP_awp hf hc hb.1 hlen hfl hdp (gen_ok (L:=[]) drawP_ok c hp' rfl (initP_rel _ _ es rest) retKt_ok ?_)
            rw [sum_flatA] at hu
            have hl : (flatA ((false,[DV.sl t' k' es]) :: rest)).length = 1 + (flatA rest).length:=by simp [flatA];omega
            obtain ⟨a1,a2⟩:=Al.many (e:=flatA ((false,[DV.sl t' k' es]) :: rest)) (μ:=[]) (ρ:=[]) (ρ':=[]) (fun p i h=>by simp at h) (by simp)
            rw [hl] at a1 a2
            simp only [List.nil_append,List.length_nil] at a1 a2
            exact cv_ok pg hu (by rw [← hl];rfl) a1 a2 hw
          · cases hu
        · cases hg
      · cases hg
    · cases hg
  · cases hg
theorem flat_map {α : Type} {e : α→List DV} (he : ∀ x,Flat (e x)) (l : List α) : Flat (l.map e).flatten:=by
  intro d hd
  obtain ⟨x,hx,hd⟩:=List.mem_flatten.1 hd
  obtain ⟨y,_,rfl⟩:=List.mem_map.1 hx
  exact he y d hd
end
end Go.Proofs.Ytboheedjhnbnhaa
namespace Go.Proofs.Ytboheedjhnbnhaa
open Go.RowKit
set_option maxRecDepth 100000
def owA : OwK:=⟨fun g=>!([] : List FuncId).contains g,false,[],[31,32,36,37],[],[],[]⟩
def owL : OwK:=⟨fun g=>!([] : List FuncId).contains g,true,[9,25],[31,32,36,37],[],[],[]⟩
def u_laws_FnExactRenameName_h : List Hint:=[]
def u_laws_FnExactRenameName_d : List (Nat × Nat × Bool × List Nat):=[]
def u_laws_FnExactRenameName_u : UP:=.po (.k (.bool false)) <| .po (.lenS 2) <| .po (.k (.int .i64 1048576)) <| .po (.bin .gtr false 1 0) <| .ite 0 (.po (.k (.bool true)) <| .po (.sc 0) <| .ret [(false,[0])]) <| .po (.lenS 4) <| .po (.k (.int .i64 1048576)) <| .po (.bin .gtr false 1 0) <| .ite 0 (.po (.k (.bool true)) <| .po (.sc 0) <| .ret [(false,[0])]) <| .po (.k (.int .i64 1048576)) <| .sel [0,8,9,10] <| .cl 4 [(false,[3]),(false,[0])] [(false,[none],true)] <| .po (.k (.int .i64 0)) <| .po (.bin .lss false 1 0) <| .ite 0 (.po (.k (.bool true)) <| .po (.sc 0) <| .ret [(false,[0])]) <| .sel [4,5,6] <| .cl 6 [(false,[2])] [(false,[some (40,5)],true)] <| .cl 5 [(false,[0]),(false,[2]),(false,[1])] [(false,[some (40,5)],true),(false,[none],true)] <| .cl 6 [(false,[5])] [(false,[some (40,5)],true)] <| .cl 7 [(false,[0]),(false,[5]),(false,[4])] [(false,[some (40,5)],true),(false,[none],true)] <| .cl 8 [(false,[1]),(false,[4])] [(false,[none],true)] <| .po (.un .not 0) <| .ite 0 (.po (.k (.bool true)) <| .po (.k (.bool false)) <| .po (.sc 0) <| .ret [(false,[0])]) <| .po (.bin .neq true 2 5) <| .ite 0 (.po (.k (.bool false)) <| .po (.sc 0) <| .ret [(false,[0])]) <| .sel [3,4,5,6,7,9,10,11] <| .cl 6 [(false,[7])] [(false,[some (40,5)],true)] <| .cl 8 [(false,[3]),(false,[0])] [(false,[none],true)] <| .po (.un .not 0) <| .ite 0 (.po (.k (.bool false)) <| .po (.sc 0) <| .ret [(false,[0])]) <| .po (.k (.int .i64 1)) <| .mk 9 false [(6,2)] 0 <| .po (.k (.int .i64 0)) <| .po (.bin .lss false 1 0) <| .ite 0 (.po (.k (.bool true)) <| .po (.k (.bool true)) <| .po (.k (.bool false)) <| .po (.sc 0) <| .ret [(false,[0])]) <| .sel [8,9,11,12,13,14,15] <| .cl 8 [(false,[1]),(false,[3])] [(false,[none],true)] <| .po (.un .not 0) <| .ite 0 (.po (.k (.bool true)) <| .po (.k (.bool false)) <| .po (.sc 0) <| .ret [(false,[0])]) <| .po (.bin .neq true 2 4) <| .ite 0 (.po (.k (.bool false)) <| .po (.sc 0) <| .ret [(false,[0])]) <| .po (.k (.int .i64 1)) <| .sel [0,5,6,7,8,9,10] <| .mk 9 false [(1,2)] 0 <| .po (.k (.int .i64 1)) <| .cl 10 [(false,[2]),(false,[0])] [(false,[none],true)] <| .po (.k (.int .i64 0)) <| .po (.bin .lss false 1 0) <| .ite 0 (.po (.k (.bool false)) <| .po (.sc 0) <| .ret [(false,[0])]) <| .po (.bin .neq false 2 4) <| .ite 0 (.po (.k (.bool false)) <| .po (.sc 0) <| .ret [(false,[0])]) <| .sel [5,6,9,10,11,12,13] <| .cl 6 [(false,[6])] [(false,[some (40,5)],true)] <| .cl 7 [(false,[0]),(false,[6]),(false,[5])] [(false,[some (40,5)],true),(false,[none],true)] <| .sel [0,1,3,4,5,6] <| .cl 8 [(false,[1]),(false,[5])] [(false,[none],true)] <| .po (.un .not 0) <| .ite 0 (.po (.k (.bool true)) <| .po (.k (.bool false)) <| .po (.sc 0) <| .ret [(false,[0])]) <| .po (.bin .neq true 2 6) <| .ite 0 (.po (.k (.bool false)) <| .po (.sc 0) <| .ret [(false,[0])]) <| .po (.k (.int .i64 1)) <| .sel [0,6,7] <| .cl 10 [(false,[2]),(false,[0])] [(false,[none],true)] <| .po (.k (.int .i64 0)) <| .po (.bin .lss false 1 0) <| .ite 0 (.po (.k (.bool false)) <| .po (.sc 0) <| .ret [(false,[0])]) <| .po (.bin .neq false 2 4) <| .ite 0 (.po (.k (.bool false)) <| .po (.sc 0) <| .ret [(false,[0])]) <| .po (.k (.bool true)) <| .po (.sc 0) <| .ret [(false,[0])]
theorem u_laws_FnExactRenameName_g : toUPf Try.prog 3 Try.f3 owL u_laws_FnExactRenameName_h u_laws_FnExactRenameName_d = some ([(false,1),(false,1),(false,1)],u_laws_FnExactRenameName_u):=by kernel_rfl
def u_spec_RenameName_h : List Hint:=[⟨2000001,5,⟨[(44,.p false [.d 18]),(43,.p false [.d 19]),(36,.p false [.d 20]),(9,.p false [.d 21]),(8,.p false [.own 0 0]),(29,.p false [.d 11]),(7,.p false [.d 3]),(6,.p false [.nil]),(0,.p false [.d 0]),(1,.p false [.d 1]),(2,.p false [.d 2])],[(0,.dx 0 22)],1,1,23,[(11,false),(9,false),(7,false),(5,false),(3,false)]⟩,[⟨true,8,7,0,0⟩]⟩,⟨2000004,2,⟨[(87,.p false [.d 48]),(75,.p false [.d 47]),(10,.p false [.d 29]),(66,.p false [.d 30]),(44,.p false [.d 31]),(43,.p false [.d 32]),(36,.p false [.d 33]),(9,.p false [.d 34]),(8,.p false [.own 0 0]),(29,.p false [.d 11]),(7,.p false [.d 3]),(6,.p false [.nil]),(0,.p false [.d 0]),(1,.p false [.d 1]),(2,.p false [.d 2])],[(0,.opn 0 5 35 (some (34,3,1,1))),(1,.row 1 9 1 49)],2,2,50,[(47,true),(11,false),(9,false),(7,false),(5,false),(3,false)]⟩,[]⟩,⟨3000021,7,⟨[(10,.p false [.d 29]),(66,.p false [.d 30]),(44,.p false [.d 31]),(43,.p false [.d 32]),(36,.p false [.d 33]),(9,.p false [.d 34]),(8,.p false [.own 0 0]),(29,.p false [.d 11]),(7,.p false [.d 3]),(6,.p false [.nil]),(0,.p false [.d 0]),(1,.p false [.d 1]),(2,.p false [.d 2])],[(0,.dx 0 35)],1,1,36,[(11,false),(9,false),(7,false),(5,false),(3,false)]⟩,[⟨true,8,7,0,0⟩]⟩,⟨1000009,1,⟨[(44,.p false [.d 25]),(43,.p false [.d 18]),(36,.p false [.d 17]),(9,.p false [.d 14]),(8,.p false [.own 0 0]),(29,.p false [.d 11]),(7,.p false [.d 3]),(6,.p false [.nil]),(0,.p false [.d 0]),(1,.p false [.d 1]),(2,.p false [.d 2])],[(0,.opn 0 5 15 none)],1,1,26,[(17,true),(11,false),(9,false),(7,false),(5,false),(3,false)]⟩,[]⟩,⟨3000005,2,⟨[(9,.p false [.d 14]),(8,.p false [.own 0 0]),(29,.p false [.d 11]),(7,.p false [.d 3]),(6,.p false [.nil]),(0,.p false [.d 0]),(1,.p false [.d 1]),(2,.p false [.d 2])],[(0,.dx 0 15)],1,1,16,[(11,false),(9,false),(7,false),(5,false),(3,false)]⟩,[⟨true,8,7,0,0⟩]⟩]
def u_spec_RenameName_d : List (Nat × Nat × Bool × List Nat):=[]
def u_spec_RenameName_j0 : UP:=.po (.k (.int .i64 1)) <| .po (.bin .add false 10 0) <| .po (.flat 2) <| .po (.set 5 5 6 3 [2]) <| .jump 2 [1,11,10,9,8,7,0]
def u_spec_RenameName_l1 : UP:=.po (.isI 1) <| .po (.chk 5 0 1) <| .po (.idx 5 0 1) <| .po (.isL 9 1 1) <| .po (.idx 5 5 6) <| .po (.flat 1) <| .po (.lenL 6) <| .po (.bin .lss false 17 0) <| .ite 0 (.sel [8,12,13,14,15,16,17,18,28,29] <| .join 2 u_spec_RenameName_j0 <| .po (.isI 2) <| .po (.chk 5 1 2) <| .po (.idx 5 1 2) <| .po (.flat 1) <| .po (.isI 12) <| .po (.chk 1 5 12) <| .po (.idx 1 5 12) <| .po (.bin .eql false 0 15) <| .ite 0 (.po (.isI 9) <| .po (.chk 5 8 9) <| .po (.idx 5 8 9) <| .po (.flat 1) <| .po (.isI 19) <| .po (.chk 1 12 19) <| .po (.sc 20) <| .po (.set 1 12 19 0 [20]) <| .jump 3 [6,0]) <| .jump 3 [0,7]) <| .po (.flat 8) <| .po (.set 5 12 13 3 [8]) <| .jump 1 [17,16,15,14,0]
def u_spec_RenameName_j2 : UP:=.ite 0 (.po (.isI 5) <| .po (.chk 5 4 5) <| .po (.idx 5 4 5) <| .po (.sc 2) <| .po (.bin .eql false 2 12) <| .ite 0 (.po (.isI 11) <| .po (.chk 5 10 11) <| .po (.idx 5 10 11) <| .po (.sc 2) <| .po (.sc 17) <| .po (.set 5 15 16 2 [17]) <| .jump 1 [12,14,15,17,0]) <| .jump 1 [6,8,9,11,10]) <| .po (.k (.int .i64 8)) <| .po (.bin .eql false 3 0) <| .ite 0 (.po (.k (.int .i64 0)) <| .loop [0,1,3,5,6,8,7] u_spec_RenameName_l1) <| .jump 1 [2,4,5,7,6]
def u_spec_RenameName_j3 : UP:=.po (.k (.int .i64 1)) <| .po (.bin .add false 2 0) <| .jump 0 [0,2]
def u_spec_RenameName_l4 : UP:=.po (.lenL 0) <| .po (.bin .lss false 2 0) <| .ite 0 (.sel [0,2,3,6,7] <| .join 5 u_spec_RenameName_j3 <| .po (.isI 2) <| .po (.chk 5 1 2) <| .po (.idx 5 1 2) <| .po (.sc 4) <| .po (.k (.int .i64 7)) <| .po (.bin .eql false 5 0) <| .sel [0,6,7,8,9,10,11] <| .join 1 u_spec_RenameName_j2 <| .ite 0 (.jump 2 [0]) <| .po (.k (.int .i64 18)) <| .po (.bin .eql false 2 0) <| .ite 0 (.jump 2 [0]) <| .po (.k (.int .i64 22)) <| .po (.bin .eql false 4 0) <| .ite 0 (.jump 2 [0]) <| .po (.k (.int .i64 23)) <| .po (.bin .eql false 6 0) <| .ite 0 (.jump 2 [0]) <| .po (.k (.int .i64 24)) <| .po (.bin .eql false 8 0) <| .ite 0 (.jump 2 [0]) <| .po (.k (.int .i64 25)) <| .po (.bin .eql false 10 0) <| .ite 0 (.jump 2 [0]) <| .po (.k (.int .i64 26)) <| .po (.bin .eql false 12 0) <| .ite 0 (.jump 2 [0]) <| .po (.k (.int .i64 27)) <| .po (.bin .eql false 14 0) <| .ite 0 (.jump 2 [0]) <| .po (.k (.int .i64 32)) <| .po (.bin .eql false 16 0) <| .jump 2 [0]) <| .po (.k (.bool true)) <| .po (.sc 0) <| .ret [(false,[3]),(false,[0])]
def u_spec_RenameName_u : UP:=.po (.k (.bool false)) <| .cl 12 [(false,[3])] [(false,[none],true)] <| .po (.un .not 0) <| .ite 0 (.po (.k (.bool true)) <| .po (.k (.bool true)) <| .po (.k (.bool true)) <| .po (.mk 40 5 []) <| .po (.k (.bool false)) <| .po (.sc 0) <| .ret [(false,[1]),(false,[0])]) <| .cl 13 [(false,[4])] [(false,[none],true)] <| .po (.un .not 0) <| .ite 0 (.po (.k (.bool true)) <| .po (.k (.bool true)) <| .po (.mk 40 5 []) <| .po (.k (.bool false)) <| .po (.sc 0) <| .ret [(false,[1]),(false,[0])]) <| .sel [5,6,7] <| .cl 13 [(false,[0])] [(false,[none],true)] <| .po (.un .not 0) <| .ite 0 (.po (.k (.bool true)) <| .po (.mk 40 5 []) <| .po (.k (.bool false)) <| .po (.sc 0) <| .ret [(false,[1]),(false,[0])]) <| .cl 15 [(false,[4])] [(false,[some (9,1)],true)] <| .cl 14 [(false,[0]),(false,[3])] [(false,[none],true)] <| .ite 0 (.po (.mk 40 5 []) <| .po (.k (.bool false)) <| .po (.sc 0) <| .ret [(false,[1]),(false,[0])]) <| .sel [4,5,6] <| .cl 16 [(false,[2])] [(false,[some (40,5)],true)] <| .po (.k (.int .i64 0)) <| .loop [0,1] u_spec_RenameName_l4
theorem u_spec_RenameName_g : toUPf Try.prog 5 Try.f5 owL u_spec_RenameName_h u_spec_RenameName_d = some ([(false,1),(false,1),(false,1)],u_spec_RenameName_u):=by kernel_rfl
def u_impl_RenameName_h : List Hint:=[⟨2000004,3,⟨[(74,.p false [.d 52]),(12,.p false [.d 53]),(11,.p false [.d 39]),(68,.p false [.d 51]),(67,.p false [.d 39]),(66,.p false [.d 40]),(65,.p false [.own 1 1]),(62,.p false [.d 41]),(43,.p false [.d 42]),(42,.p false [.d 43]),(9,.p false [.d 44]),(10,.p false [.ptr 2 2 0]),(37,.p false [.d 45]),(36,.p false [.d 44]),(35,.p false [.d 13]),(34,.p false [.own 0 0]),(8,.p false [.own 0 0]),(31,.p false [.d 11]),(7,.p false [.d 3]),(6,.p false [.nil]),(0,.p false [.d 0]),(1,.p false [.d 1]),(2,.p false [.d 2])],[(0,.opn 0 5 46 (some (44,3,1,1))),(1,.row 1 9 1 54),(2,.var 2 40 [.d 43,.d 48,.d 49,.own 1 1,.d 50])],3,3,55,[(51,true),(11,false),(9,false),(7,false),(5,false),(3,false)]⟩,[]⟩,⟨3000021,12,⟨[(67,.p false [.d 39]),(66,.p false [.d 40]),(65,.p false [.own 1 1]),(62,.p false [.d 41]),(43,.p false [.d 42]),(42,.p false [.d 43]),(9,.p false [.d 44]),(10,.p false [.ptr 2 2 0]),(37,.p false [.d 45]),(36,.p false [.d 44]),(35,.p false [.d 13]),(34,.p false [.own 0 0]),(8,.p false [.own 0 0]),(31,.p false [.d 11]),(7,.p false [.d 3]),(6,.p false [.nil]),(0,.p false [.d 0]),(1,.p false [.d 1]),(2,.p false [.d 2])],[(0,.opn 0 5 46 (some (44,3,1,1))),(1,.row 1 9 1 47),(2,.var 2 40 [.d 43,.d 48,.d 49,.own 1 1,.d 50])],3,3,51,[(11,false),(9,false),(7,false),(5,false),(3,false)]⟩,[]⟩,⟨2000001,9,⟨[(43,.p false [.d 18]),(42,.p false [.d 19]),(9,.p false [.d 20]),(10,.p false [.ptr 2 2 0]),(37,.p false [.d 21]),(36,.p false [.d 20]),(35,.p false [.d 13]),(34,.p false [.own 0 0]),(8,.p false [.own 0 0]),(31,.p false [.d 11]),(7,.p false [.d 3]),(6,.p false [.nil]),(0,.p false [.d 0]),(1,.p false [.d 1]),(2,.p false [.d 2])],[(0,.opn 0 5 22 (some (20,3,1,1))),(1,.row 1 9 1 23),(2,.var 2 40 [.d 19,.d 24,.d 25,.own 1 1,.d 26])],3,3,27,[(11,false),(9,false),(7,false),(5,false),(3,false)]⟩,[]⟩,⟨1000009,1,⟨[(43,.p false [.d 34]),(42,.p false [.d 23]),(9,.p false [.d 15]),(10,.p false [.ptr 2 2 0]),(37,.p false [.d 17]),(36,.p false [.d 15]),(35,.p false [.d 13]),(34,.p false [.own 0 0]),(8,.p false [.own 0 0]),(31,.p false [.d 11]),(7,.p false [.d 3]),(6,.p false [.nil]),(0,.p false [.d 0]),(1,.p false [.d 1]),(2,.p false [.d 2])],[(0,.opn 0 5 16 (some (15,3,1,1))),(1,.row 1 9 1 21),(2,.var 2 40 [.d 23,.d 24,.d 25,.own 1 1,.d 27])],3,3,35,[(17,true),(11,false),(9,false),(7,false),(5,false),(3,false)]⟩,[]⟩,⟨3000005,2,⟨[(36,.p false [.d 15]),(35,.p false [.d 13]),(34,.p false [.own 0 0]),(8,.p false [.own 0 0]),(31,.p false [.d 11]),(7,.p false [.d 3]),(6,.p false [.nil]),(0,.p false [.d 0]),(1,.p false [.d 1]),(2,.p false [.d 2])],[(0,.dx 0 16)],1,1,17,[(11,false),(9,false),(7,false),(5,false),(3,false)]⟩,[⟨true,34,7,0,0⟩,⟨true,8,7,0,0⟩]⟩]
def u_impl_RenameName_d : List (Nat × Nat × Bool × List Nat):=[]
def u_impl_RenameName_j0 : UP:=.po (.k (.int .i64 1)) <| .po (.bin .add false 15 0) <| .jump 2 [0,15,14,13,12,11,10,9,2,7,6,5]
def u_impl_RenameName_l1 : UP:=.po (.bin .lss false 11 10) <| .ite 0 (.sel [1,2,3,4,5,6,7,8,9,10,11,12,27,28] <| .join 3 u_impl_RenameName_j0 <| .po (.isI 11) <| .po (.chk 1 3 11) <| .po (.idx 1 3 11) <| .po (.bin .eql false 0 14) <| .ite 0 (.po (.isI 8) <| .po (.chk 5 6 8) <| .po (.idx 5 6 8) <| .po (.flat 1) <| .po (.isI 18) <| .po (.chk 1 10 18) <| .po (.sc 19) <| .po (.set 1 10 18 0 [19]) <| .jump 3 [6,7,0]) <| .jump 3 [0,1,5]) <| .jump 1 [9,8,7,6,5,4,3,2,1]
def u_impl_RenameName_j2 : UP:=.ite 0 (.po (.bin .eql false 3 11) <| .ite 0 (.po (.isI 10) <| .po (.chk 5 9 10) <| .po (.idx 5 9 10) <| .po (.sc 2) <| .po (.sc 16) <| .po (.set 5 14 15 2 [16]) <| .jump 1 [7,12,16,14,0,13,11,10,9]) <| .jump 1 [1,6,10,8,9,7,5,4,3]) <| .po (.k (.int .i64 8)) <| .po (.bin .eql false 6 0) <| .ite 0 (.po (.lenL 8) <| .po (.k (.int .i64 0)) <| .loop [0,1,2,4,9,13,11,12,10,8,7,6] u_impl_RenameName_l1) <| .jump 1 [2,7,11,9,10,8,6,5,4]
def u_impl_RenameName_j3 : UP:=.po (.k (.int .i64 1)) <| .po (.bin .add false 7 0) <| .po (.flat 5) <| .po (.set 5 6 8 3 [5]) <| .jump 0 [1,0]
def u_impl_RenameName_l4 : UP:=.po (.bin .lss false 1 3) <| .ite 0 (.sel [0,1,2,6,7] <| .join 9 u_impl_RenameName_j3 <| .po (.isI 2) <| .po (.chk 5 1 2) <| .po (.idx 5 1 2) <| .po (.isL 9 1 1) <| .po (.idx 5 6 7) <| .po (.sc 4) <| .po (.sc 3) <| .po (.sc 2) <| .po (.flat 1) <| .po (.sc 0) <| .po (.k (.int .i64 0)) <| .po (.k (.int .i64 0)) <| .po (.k (.string ⟨#[]⟩)) <| .po (.k (.int .i64 0)) <| .po (.k (.int .i64 7)) <| .po (.bin .eql false 9 0) <| .sel [0,6,8,9,10,12,16,17,18,19,20] <| .join 1 u_impl_RenameName_j2 <| .ite 0 (.jump 2 [0]) <| .po (.k (.int .i64 18)) <| .po (.bin .eql false 5 0) <| .ite 0 (.jump 2 [0]) <| .po (.k (.int .i64 22)) <| .po (.bin .eql false 7 0) <| .ite 0 (.jump 2 [0]) <| .po (.k (.int .i64 23)) <| .po (.bin .eql false 9 0) <| .ite 0 (.jump 2 [0]) <| .po (.k (.int .i64 24)) <| .po (.bin .eql false 11 0) <| .ite 0 (.jump 2 [0]) <| .po (.k (.int .i64 25)) <| .po (.bin .eql false 13 0) <| .ite 0 (.jump 2 [0]) <| .po (.k (.int .i64 26)) <| .po (.bin .eql false 15 0) <| .ite 0 (.jump 2 [0]) <| .po (.k (.int .i64 27)) <| .po (.bin .eql false 17 0) <| .ite 0 (.jump 2 [0]) <| .po (.k (.int .i64 32)) <| .po (.bin .eql false 19 0) <| .jump 2 [0]) <| .po (.k (.bool true)) <| .po (.sc 0) <| .ret [(false,[2]),(false,[0])]
def u_impl_RenameName_u : UP:=.po (.k (.bool false)) <| .cl 18 [(false,[3])] [(false,[none],true)] <| .po (.un .not 0) <| .ite 0 (.po (.k (.bool true)) <| .po (.k (.bool true)) <| .po (.k (.bool true)) <| .po (.k (.bool false)) <| .po (.e 40 5) <| .po (.sc 1) <| .ret [(false,[0]),(false,[1])]) <| .cl 19 [(false,[4])] [(false,[none],true)] <| .po (.un .not 0) <| .ite 0 (.po (.k (.bool true)) <| .po (.k (.bool true)) <| .po (.k (.bool false)) <| .po (.e 40 5) <| .po (.sc 1) <| .ret [(false,[0]),(false,[1])]) <| .sel [5,6,7] <| .cl 19 [(false,[0])] [(false,[none],true)] <| .po (.un .not 0) <| .ite 0 (.po (.k (.bool true)) <| .po (.k (.bool false)) <| .po (.e 40 5) <| .po (.sc 1) <| .ret [(false,[0]),(false,[1])]) <| .cl 21 [(false,[4])] [(false,[some (9,1)],true)] <| .cl 20 [(false,[0]),(false,[3])] [(false,[none],true)] <| .ite 0 (.po (.k (.bool false)) <| .po (.e 40 5) <| .po (.sc 1) <| .ret [(false,[0]),(false,[1])]) <| .sel [4,5,6] <| .cl 22 [(false,[2])] [(false,[some (40,5)],true)] <| .po (.lenL 0) <| .po (.k (.int .i64 0)) <| .loop [0,2] u_impl_RenameName_l4
theorem u_impl_RenameName_g : toUPf Try.prog 7 Try.f7 owL u_impl_RenameName_h u_impl_RenameName_d = some ([(false,1),(false,1),(false,1)],u_impl_RenameName_u):=by kernel_rfl
def u_impl_MentionsOf_h : List Hint:=[⟨3000025,2,⟨[(61,.p false [.d 30]),(60,.p false [.d 28]),(59,.p false [.d 13]),(56,.p false [.d 27]),(43,.p false [.d 25]),(32,.p false [.d 23]),(19,.p false [.d 21]),(18,.p false [.d 10]),(5,.p false [.ptr 2 2 0]),(14,.p false [.d 9]),(2,.p false [.own 1 1]),(3,.p false [.own 0 0]),(13,.p false [.d 7]),(12,.p false [.d 3]),(11,.p false [.d 0]),(10,.p false [.d 2]),(0,.p false [.d 0])],[(0,.row 0 9 1 31),(1,.row 1 9 1 6),(2,.var 2 40 [.d 10,.d 11,.d 12,.d 13,.d 14])],3,3,32,[(27,true),(25,false),(23,false),(21,false),(9,true),(2,false)]⟩,[]⟩,⟨2000001,7,⟨[(3,.p false [.own 2 2]),(19,.p false [.d 10]),(18,.p false [.d 11]),(5,.p false [.ptr 1 1 0]),(14,.p false [.d 9]),(2,.p false [.own 0 0]),(13,.p false [.d 7]),(12,.p false [.d 3]),(11,.p false [.d 0]),(10,.p false [.d 2]),(0,.p false [.d 0])],[(0,.row 0 9 1 6),(1,.var 1 40 [.d 11,.d 12,.d 13,.d 14,.d 15]),(2,.row 2 9 1 16)],3,3,17,[(9,true),(2,false)]⟩,[]⟩,⟨1000009,1,⟨[(19,.p false [.d 21]),(18,.p false [.d 10]),(5,.p false [.ptr 2 2 0]),(14,.p false [.d 9]),(2,.p false [.own 1 1]),(3,.p false [.own 0 0]),(13,.p false [.d 7]),(12,.p false [.d 3]),(11,.p false [.d 0]),(10,.p false [.d 2]),(0,.p false [.d 0])],[(0,.row 0 9 1 8),(1,.row 1 9 1 6),(2,.var 2 40 [.d 10,.d 11,.d 12,.d 13,.d 14])],3,3,22,[(9,true),(2,false)]⟩,[]⟩,⟨3000005,2,⟨[(2,.p false [.own 1 1]),(3,.p false [.own 0 0]),(13,.p false [.d 7]),(12,.p false [.d 3]),(11,.p false [.d 0]),(10,.p false [.d 2]),(0,.p false [.d 0])],[(0,.row 0 9 1 8),(1,.row 1 9 1 6)],2,2,9,[(2,false)]⟩,[⟨true,3,0,9,1⟩,⟨true,2,0,9,1⟩]⟩]
def u_impl_MentionsOf_d : List (Nat × Nat × Bool × List Nat):=[]
def u_impl_MentionsOf_l0 : UP:=.po (.bin .lss false 1 3) <| .ite 0 (.po (.isI 2) <| .po (.idx 1 7 2) <| .sel [0,2,3] <| .cl 1000036 [(false,[1]),(false,[0])] [(false,[some (9,1)],true)] <| .po (.k (.int .i64 1)) <| .po (.bin .add false 4 0) <| .jump 2 [0,2]) <| .jump 1 [5,10,9,8,7,6,1]
def u_impl_MentionsOf_j1 : UP:=.ite 0 (.cl 1000036 [(false,[7]),(false,[4])] [(false,[some (9,1)],true)] <| .jump 1 [1,7,6,5,4,3,0]) <| .po (.k (.int .i64 34)) <| .po (.bin .eql false 7 0) <| .ite 0 (.cl 1000036 [(false,[9]),(false,[6])] [(false,[some (9,1)],true)] <| .po (.k (.string ⟨#[46]⟩)) <| .po (.bin .add false 8 0) <| .sel [0,2,5,7,8,9,10,11] <| .cl 1000037 [(false,[1]),(false,[0])] [(false,[some (9,1)],true)] <| .jump 1 [3,8,7,6,5,4,0]) <| .po (.k (.int .i64 27)) <| .po (.bin .eql false 9 0) <| .ite 0 (.sel [4,6,7,8,9,10,11] <| .cl 1000036 [(false,[6]),(false,[3])] [(false,[some (9,1)],true)] <| .po (.k (.int .i64 0)) <| .po (.isI 0) <| .po (.idx 1 4 0) <| .po (.k (.string ⟨#[60,45]⟩)) <| .po (.bin .add false 1 0) <| .sel [0,4,5,6,7,8,9,10] <| .cl 1000036 [(false,[1]),(false,[0])] [(false,[some (9,1)],true)] <| .jump 1 [3,8,7,6,5,4,0]) <| .po (.k (.int .i64 8)) <| .po (.bin .eql false 11 0) <| .ite 0 (.po (.lenL 9) <| .po (.k (.int .i64 0)) <| .sel [0,1,8,10,11,12,13,14,15] <| .loop [0,8] u_impl_MentionsOf_l0) <| .jump 1 [6,12,11,10,9,8,13]
def u_impl_MentionsOf_j2 : UP:=.po (.k (.int .i64 1)) <| .po (.bin .add false 9 0) <| .jump 0 [0,2]
def u_impl_MentionsOf_l3 : UP:=.po (.bin .lss false 1 5) <| .ite 0 (.sel [1,2,9] <| .join 7 u_impl_MentionsOf_j2 <| .po (.isI 1) <| .po (.idx 5 2 1) <| .po (.k (.int .i64 0)) <| .po (.k (.int .i64 0)) <| .po (.k (.string ⟨#[]⟩)) <| .po (.k (.int .i64 0)) <| .po (.k (.int .i64 7)) <| .po (.bin .eql false 9 0) <| .sel [0,6,7,8,9,10,11] <| .join 1 u_impl_MentionsOf_j1 <| .ite 0 (.jump 2 [0]) <| .po (.k (.int .i64 18)) <| .po (.bin .eql false 6 0) <| .ite 0 (.jump 2 [0]) <| .po (.k (.int .i64 22)) <| .po (.bin .eql false 8 0) <| .ite 0 (.jump 2 [0]) <| .po (.k (.int .i64 23)) <| .po (.bin .eql false 10 0) <| .ite 0 (.jump 2 [0]) <| .po (.k (.int .i64 24)) <| .po (.bin .eql false 12 0) <| .ite 0 (.jump 2 [0]) <| .po (.k (.int .i64 25)) <| .po (.bin .eql false 14 0) <| .ite 0 (.jump 2 [0]) <| .po (.k (.int .i64 26)) <| .po (.bin .eql false 16 0) <| .ite 0 (.jump 2 [0]) <| .po (.k (.int .i64 32)) <| .po (.bin .eql false 18 0) <| .jump 2 [0]) <| .ret [(false,[1])]
def u_impl_MentionsOf_u : UP:=.cl 18 [(false,[0])] [(false,[none],true)] <| .po (.un .not 0) <| .ite 0 (.po (.e 9 1) <| .ret [(false,[0])]) <| .po (.lenL 2) <| .po (.k (.int .i64 0)) <| .po (.e 9 1) <| .po (.e 9 1) <| .loop [2,1] u_impl_MentionsOf_l3
theorem u_impl_MentionsOf_g : toUPf Try.prog 21 Try.f21 owA u_impl_MentionsOf_h u_impl_MentionsOf_d = some ([(false,1)],u_impl_MentionsOf_u):=by kernel_rfl
def u_spec_MentionsOf_h : List Hint:=[⟨3000022,2,⟨[(6,.p false [.d 27]),(59,.p false [.d 25]),(47,.p false [.d 23]),(37,.p false [.d 21]),(24,.p false [.d 19]),(23,.p false [.d 8]),(5,.p false [.ptr 1 1 0]),(15,.p false [.d 7]),(4,.p false [.d 3]),(3,.p false [.own 0 0]),(2,.p false [.nil]),(0,.p false [.d 0])],[(0,.row 0 9 1 28),(1,.var 1 40 [.d 8,.d 9,.d 10,.d 11,.d 12])],2,2,29,[(25,true),(23,false),(21,false),(19,false),(7,true),(5,true)]⟩,[]⟩,⟨2000001,3,⟨[(3,.p false [.own 0 0]),(24,.p false [.d 8]),(23,.p false [.d 9]),(15,.p false [.d 7]),(4,.p false [.d 3]),(2,.p false [.nil]),(0,.p false [.d 0])],[(0,.row 0 9 1 10)],1,1,11,[(7,true),(5,true)]⟩,[]⟩,⟨1000008,1,⟨[(24,.p false [.d 19]),(23,.p false [.d 8]),(5,.p false [.ptr 1 1 0]),(15,.p false [.d 7]),(4,.p false [.d 3]),(3,.p false [.own 0 0]),(2,.p false [.nil]),(0,.p false [.d 0])],[(0,.row 0 9 1 4),(1,.var 1 40 [.d 8,.d 9,.d 10,.d 11,.d 12])],2,2,20,[(7,true),(5,true)]⟩,[]⟩,⟨3000003,2,⟨[(4,.p false [.d 3]),(3,.p false [.own 0 0]),(2,.p false [.nil]),(0,.p false [.d 0])],[(0,.row 0 9 1 4)],1,1,5,[]⟩,[]⟩]
def u_spec_MentionsOf_d : List (Nat × Nat × Bool × List Nat):=[(19,8,true,[1000000,0,1,2,4,5,6,7,8,3,9,10,1000000,2000000,3,4,5,6,7]),(17,6,false,[1000000,0,1,2,4,5,6,3,7,8,1000000,3,4,5])]
def u_spec_MentionsOf_l0 : UP:=.po (.lenL 4) <| .po (.bin .lss false 2 0) <| .ite 0 (.po (.isI 3) <| .po (.idx 1 6 3) <| .sel [0,3,4] <| .cl 1000031 [(false,[1]),(false,[0])] [(false,[some (9,1)],true)] <| .po (.k (.int .i64 1)) <| .po (.bin .add false 4 0) <| .jump 2 [0,2]) <| .jump 1 [5,7,2]
def u_spec_MentionsOf_j1 : UP:=.ite 0 (.cl 1000031 [(false,[5]),(false,[3])] [(false,[some (9,1)],true)] <| .jump 1 [1,5,0]) <| .po (.k (.int .i64 34)) <| .po (.bin .eql false 5 0) <| .ite 0 (.po (.k (.string ⟨#[46]⟩)) <| .po (.bin .add false 6 0) <| .po (.sc 7) <| .sel [0,4,7,8,9] <| .cl 1000031 [(false,[4]),(false,[2])] [(false,[some (9,1)],true)] <| .cl 1000032 [(false,[0]),(false,[1])] [(false,[some (9,1)],true)] <| .jump 1 [3,5,0]) <| .po (.k (.int .i64 27)) <| .po (.bin .eql false 7 0) <| .ite 0 (.po (.k (.int .i64 0)) <| .po (.isI 0) <| .po (.idx 1 7 0) <| .po (.k (.string ⟨#[60,45]⟩)) <| .po (.bin .add false 1 0) <| .po (.flat 13) <| .sel [0,8,11,12,13] <| .cl 1000031 [(false,[4]),(false,[2])] [(false,[some (9,1)],true)] <| .cl 1000031 [(false,[0]),(false,[1])] [(false,[some (9,1)],true)] <| .jump 1 [3,5,0]) <| .po (.k (.int .i64 8)) <| .po (.bin .eql false 9 0) <| .ite 0 (.po (.k (.int .i64 0)) <| .sel [0,7,9,11,12] <| .loop [0,4] u_spec_MentionsOf_l0) <| .jump 1 [6,10,11]
def u_spec_MentionsOf_j2 : UP:=.po (.k (.int .i64 1)) <| .po (.bin .add false 5 0) <| .jump 0 [0,2]
def u_spec_MentionsOf_l3 : UP:=.cl 12 [(false,[4])] [(false,[none],true)] <| .ite 0 (.po (.lenL 5) <| .po (.bin .lss false 3 0) <| .ite 0 (.sel [3,4,7] <| .join 3 u_spec_MentionsOf_j2 <| .po (.isI 1) <| .po (.idx 5 2 1) <| .po (.k (.int .i64 0)) <| .po (.k (.int .i64 0)) <| .po (.k (.string ⟨#[]⟩)) <| .po (.k (.int .i64 0)) <| .po (.k (.int .i64 7)) <| .po (.bin .eql false 9 0) <| .sel [0,7,8,10,11] <| .join 1 u_spec_MentionsOf_j1 <| .ite 0 (.jump 2 [0]) <| .po (.k (.int .i64 18)) <| .po (.bin .eql false 4 0) <| .ite 0 (.jump 2 [0]) <| .po (.k (.int .i64 22)) <| .po (.bin .eql false 6 0) <| .ite 0 (.jump 2 [0]) <| .po (.k (.int .i64 23)) <| .po (.bin .eql false 8 0) <| .ite 0 (.jump 2 [0]) <| .po (.k (.int .i64 24)) <| .po (.bin .eql false 10 0) <| .ite 0 (.jump 2 [0]) <| .po (.k (.int .i64 25)) <| .po (.bin .eql false 12 0) <| .ite 0 (.jump 2 [0]) <| .po (.k (.int .i64 26)) <| .po (.bin .eql false 14 0) <| .ite 0 (.jump 2 [0]) <| .po (.k (.int .i64 32)) <| .po (.bin .eql false 16 0) <| .jump 2 [0]) <| .ret [(false,[3])]) <| .po (.k (.bool false)) <| .ret [(false,[2])]
def u_spec_MentionsOf_u : UP:=.po (.mk 9 1 []) <| .po (.k (.int .i64 0)) <| .loop [0,1] u_spec_MentionsOf_l3
theorem u_spec_MentionsOf_g : toUPf Try.prog 15 Try.f15 owA u_spec_MentionsOf_h u_spec_MentionsOf_d = some ([(false,1)],u_spec_MentionsOf_u):=by kernel_rfl
def u_spec_l19Mention_h : List Hint:=[⟨2000001,2,⟨[(0,.p false [.own 0 0]),(15,.p false [.d 7]),(9,.p false [.d 6]),(5,.p false [.d 3]),(4,.p false [.nil]),(1,.p false [.d 1])],[(0,.row 0 9 1 8)],1,1,9,[(6,true)]⟩,[]⟩,⟨3000002,2,⟨[(5,.p false [.d 3]),(4,.p false [.nil]),(0,.p false [.own 0 0]),(1,.p false [.d 1])],[(0,.row 0 9 1 4)],1,1,5,[]⟩,[]⟩]
def u_spec_l19Mention_d : List (Nat × Nat × Bool × List Nat):=[]
def u_spec_l19Mention_j0 : UP:=.po (.k (.int .i64 1)) <| .po (.bin .add false 4 0) <| .jump 0 [0,2]
def u_spec_l19Mention_l1 : UP:=.po (.lenS 3) <| .po (.bin .lss false 2 0) <| .ite 0 (.sel [2,3,5] <| .join 2 u_spec_l19Mention_j0 <| .po (.chr 2 1) <| .po (.k (.int .u8 46)) <| .po (.bin .eql false 1 0) <| .ite 0 (.po (.k (.int .i64 1)) <| .po (.bin .add false 5 0) <| .po (.cutS 7 none (some 0)) <| .sel [0,3,6] <| .cl 1000032 [(false,[2]),(false,[0])] [(false,[some (9,1)],true)] <| .jump 1 [2,0]) <| .jump 1 [0,3]) <| .po (.k (.string ⟨#[114,97,110,100,111,109]⟩)) <| .po (.bin .eql false 6 0) <| .ite 0 (.po (.k (.bool true)) <| .po (.k (.string ⟨#[46,114,97,110,100,111,109]⟩)) <| .sel [0,6,9] <| .cl 1000032 [(false,[1]),(false,[0])] [(false,[some (9,1)],true)] <| .cl 1000032 [(false,[0]),(false,[3])] [(false,[some (9,1)],true)] <| .ret [(false,[0])]) <| .po (.k (.string ⟨#[115,101,101,100]⟩)) <| .po (.bin .eql false 8 0) <| .ite 0 (.po (.k (.string ⟨#[46,114,97,110,100,111,109]⟩)) <| .sel [0,7,10] <| .cl 1000032 [(false,[1]),(false,[0])] [(false,[some (9,1)],true)] <| .cl 1000032 [(false,[0]),(false,[3])] [(false,[some (9,1)],true)] <| .ret [(false,[0])]) <| .sel [6,9] <| .cl 1000032 [(false,[0]),(false,[1])] [(false,[some (9,1)],true)] <| .ret [(false,[0])]
def u_spec_l19Mention_u : UP:=.po (.k (.int .i64 1)) <| .loop [0,2] u_spec_l19Mention_l1
theorem u_spec_l19Mention_g : toUPpf Try.prog 31 Try.f31 owA u_spec_l19Mention_h u_spec_l19Mention_d = some ((9,1,[(false,1)]),u_spec_l19Mention_u):=by kernel_rfl
def u_impl_mention_h : List Hint:=[⟨2000001,2,⟨[(0,.p false [.own 0 0]),(15,.p false [.d 7]),(9,.p false [.d 6]),(5,.p false [.d 3]),(4,.p false [.nil]),(1,.p false [.d 1])],[(0,.row 0 9 1 8)],1,1,9,[(6,true)]⟩,[]⟩,⟨3000002,2,⟨[(5,.p false [.d 3]),(4,.p false [.nil]),(0,.p false [.own 0 0]),(1,.p false [.d 1])],[(0,.row 0 9 1 4)],1,1,5,[]⟩,[]⟩]
def u_impl_mention_d : List (Nat × Nat × Bool × List Nat):=[]
def u_impl_mention_j0 : UP:=.po (.k (.int .i64 1)) <| .po (.bin .add false 4 0) <| .jump 0 [0,2]
def u_impl_mention_l1 : UP:=.po (.lenS 3) <| .po (.bin .lss false 2 0) <| .ite 0 (.sel [2,3,5] <| .join 2 u_impl_mention_j0 <| .po (.chr 2 1) <| .po (.k (.int .u8 46)) <| .po (.bin .eql false 1 0) <| .ite 0 (.po (.k (.int .i64 1)) <| .po (.bin .add false 5 0) <| .po (.cutS 7 none (some 0)) <| .sel [0,3,6] <| .cl 1000037 [(false,[2]),(false,[0])] [(false,[some (9,1)],true)] <| .jump 1 [2,0]) <| .jump 1 [0,3]) <| .po (.k (.string ⟨#[114,97,110,100,111,109]⟩)) <| .po (.bin .eql false 6 0) <| .ite 0 (.po (.k (.bool true)) <| .po (.k (.string ⟨#[46,114,97,110,100,111,109]⟩)) <| .sel [0,6,9] <| .cl 1000037 [(false,[1]),(false,[0])] [(false,[some (9,1)],true)] <| .cl 1000037 [(false,[0]),(false,[3])] [(false,[some (9,1)],true)] <| .ret [(false,[0])]) <| .po (.k (.string ⟨#[115,101,101,100]⟩)) <| .po (.bin .eql false 8 0) <| .ite 0 (.po (.k (.string ⟨#[46,114,97,110,100,111,109]⟩)) <| .sel [0,7,10] <| .cl 1000037 [(false,[1]),(false,[0])] [(false,[some (9,1)],true)] <| .cl 1000037 [(false,[0]),(false,[3])] [(false,[some (9,1)],true)] <| .ret [(false,[0])]) <| .sel [6,9] <| .cl 1000037 [(false,[0]),(false,[1])] [(false,[some (9,1)],true)] <| .ret [(false,[0])]
def u_impl_mention_u : UP:=.po (.k (.int .i64 1)) <| .loop [0,2] u_impl_mention_l1
theorem u_impl_mention_g : toUPpf Try.prog 36 Try.f36 owA u_impl_mention_h u_impl_mention_d = some ((9,1,[(false,1)]),u_impl_mention_u):=by kernel_rfl
def u_impl_addText_h : List Hint:=[]
def u_impl_addText_d : List (Nat × Nat × Bool × List Nat):=[]
def u_impl_addText_u : UP:=.cl 20 [(false,[1]),(false,[0])] [(false,[none],true)] <| .ite 0 (.ret [(false,[2])]) <| .po (.sc 1) <| .po (.mk 9 1 [[1]]) <| .po (.flat 0) <| .po (.app 9 1 16 3 0) <| .ret [(false,[0])]
theorem u_impl_addText_g : toUPpf Try.prog 37 Try.f37 owA u_impl_addText_h u_impl_addText_d = some ((9,1,[(false,1)]),u_impl_addText_u):=by kernel_rfl
def u_spec_l19Put_h : List Hint:=[]
def u_spec_l19Put_d : List (Nat × Nat × Bool × List Nat):=[]
def u_spec_l19Put_u : UP:=.po (.k (.string ⟨#[]⟩)) <| .po (.bin .eql false 1 0) <| .ite 0 (.po (.k (.bool true)) <| .ret [(false,[4])]) <| .cl 14 [(false,[3]),(false,[2])] [(false,[none],true)] <| .ite 0 (.ret [(false,[4])]) <| .po (.sc 3) <| .po (.mk 9 1 [[3]]) <| .po (.flat 0) <| .po (.app 9 1 16 5 0) <| .ret [(false,[0])]
theorem u_spec_l19Put_g : toUPpf Try.prog 32 Try.f32 owA u_spec_l19Put_h u_spec_l19Put_d = some ((9,1,[(false,1)]),u_spec_l19Put_u):=by kernel_rfl
def u_spec_IsTree_h : List Hint:=[⟨2000003,1,⟨[(75,.p false [.d 28]),(52,.p false [.d 27]),(6,.p false [.d 25]),(43,.p false [.d 22]),(5,.p false [.ptr 1 1 0]),(15,.p false [.d 12]),(4,.p false [.d 9]),(11,.p false [.d 7]),(3,.p false [.own 0 0]),(2,.p false [.d 1]),(0,.p false [.d 0])],[(0,.row 0 3 1 10),(1,.var 1 40 [.d 13,.d 14,.d 15,.d 16,.d 17])],2,2,29,[(27,true),(22,false),(12,true),(7,false),(1,false)]⟩,[]⟩,⟨3000011,1,⟨[(6,.p false [.d 25]),(43,.p false [.d 22]),(5,.p false [.ptr 1 1 0]),(15,.p false [.d 12]),(4,.p false [.d 9]),(11,.p false [.d 7]),(3,.p false [.own 0 0]),(2,.p false [.d 1]),(0,.p false [.d 0])],[(0,.row 0 3 1 10),(1,.var 1 40 [.d 13,.d 14,.d 15,.d 16,.d 17])],2,2,26,[(22,false),(12,true),(7,false),(1,false)]⟩,[]⟩,⟨8,1,⟨[(43,.p false [.d 22]),(5,.p false [.ptr 1 1 0]),(15,.p false [.d 12]),(4,.p false [.d 9]),(11,.p false [.d 7]),(3,.p false [.own 0 0]),(2,.p false [.d 1]),(0,.p false [.d 0])],[(0,.row 0 3 1 10),(1,.var 1 40 [.d 13,.d 14,.d 15,.d 16,.d 17])],2,2,23,[(12,true),(7,false),(1,false)]⟩,[]⟩,⟨3000005,2,⟨[(4,.p false [.d 9]),(11,.p false [.d 7]),(3,.p false [.own 0 0]),(2,.p false [.d 1]),(0,.p false [.d 0])],[(0,.row 0 3 1 10)],1,1,11,[(7,false),(1,false)]⟩,[]⟩]
def u_spec_IsTree_d : List (Nat × Nat × Bool × List Nat):=[]
def u_spec_IsTree_j0 : UP:=.po (.k (.int .i64 1)) <| .po (.bin .add false 2 0) <| .jump 1 [0]
def u_spec_IsTree_l1 : UP:=.po (.lenL 4) <| .po (.bin .lss false 1 0) <| .ite 0 (.sel [2,5,6,8] <| .join 1 u_spec_IsTree_j0 <| .po (.isI 0) <| .po (.chk 1 2 0) <| .po (.idx 1 2 0) <| .po (.isI 0) <| .po (.idx 5 4 0) <| .po (.k (.int .i64 1)) <| .po (.bin .eql false 5 0) <| .ite 0 (.po (.k (.int .i64 8)) <| .po (.bin .neq false 10 0) <| .ite 0 (.po (.k (.bool true)) <| .po (.k (.bool false)) <| .po (.sc 0) <| .ret [(false,[0])]) <| .po (.lenL 12) <| .po (.k (.int .i64 1)) <| .po (.bin .sub false 1 0) <| .po (.bin .eql false 13 0) <| .ite 0 (.po (.k (.bool false)) <| .po (.sc 0) <| .ret [(false,[0])]) <| .jump 2 [0]) <| .po (.k (.bool false)) <| .jump 2 [0]) <| .po (.lenL 6) <| .po (.bin .sub false 0 5) <| .po (.cutI 8 none (some 0)) <| .po (.sc 11) <| .po (.mk 3 1 [[11]]) <| .po (.cutP 11 2 1) <| .po (.flat 1) <| .po (.app 3 1 8 0 1) <| .po (.k (.int .i64 1)) <| .po (.bin .add false 15 0) <| .jump 0 [0,2]
def u_spec_IsTree_j2 : UP:=.ite 0 (.po (.k (.bool false)) <| .po (.sc 0) <| .ret [(false,[0])]) <| .po (.lenL 6) <| .po (.bin .sub false 0 2) <| .sel [0,3,7,8,9,10] <| .loop [0] u_spec_IsTree_l1
def u_spec_IsTree_l3 : UP:=.po (.lenL 4) <| .po (.bin .lss false 2 0) <| .ite 0 (.po (.isI 3) <| .po (.idx 5 6 3) <| .po (.k (.int .i64 0)) <| .po (.k (.int .i64 0)) <| .po (.k (.string ⟨#[]⟩)) <| .po (.k (.int .i64 0)) <| .sel [4,5,6,7,8,11,12,15] <| .join 1 u_spec_IsTree_j2 <| .cl 29 [(true,[4,3,2,1,0])] [(false,[none],true)] <| .po (.un .not 0) <| .ite 0 (.po (.k (.bool true)) <| .po (.k (.bool true)) <| .jump 1 [0]) <| .po (.lenL 7) <| .po (.bin .gtr false 3 0) <| .ite 0 (.po (.k (.bool true)) <| .jump 1 [0]) <| .po (.k (.int .i64 0)) <| .po (.bin .eql false 9 0) <| .ite 0 (.po (.lenL 13) <| .po (.k (.int .i64 1)) <| .po (.bin .sub false 1 0) <| .po (.bin .lss false 15 0) <| .jump 1 [0]) <| .po (.k (.bool false)) <| .jump 1 [0]) <| .po (.lenL 2) <| .po (.k (.int .i64 1)) <| .po (.bin .eql false 1 0) <| .ite 0 (.po (.lenL 9) <| .po (.k (.int .i64 1)) <| .po (.bin .sub false 1 0) <| .po (.isI 0) <| .po (.idx 5 12 0) <| .po (.k (.int .i64 1)) <| .po (.bin .neq false 5 0) <| .po (.sc 0) <| .ret [(false,[0])]) <| .po (.k (.bool false)) <| .po (.sc 0) <| .ret [(false,[0])]
def u_spec_IsTree_u : UP:=.po (.k (.bool false)) <| .po (.mk 3 1 []) <| .po (.lenL 2) <| .po (.k (.int .i64 1)) <| .po (.k (.int .i64 200)) <| .cl 28 [(false,[2]),(false,[1]),(false,[0])] [(false,[none],true)] <| .po (.un .not 0) <| .ite 0 (.po (.k (.bool false)) <| .po (.sc 0) <| .ret [(false,[0])]) <| .po (.k (.int .i64 0)) <| .sel [0,6,8] <| .loop [0,1] u_spec_IsTree_l3
theorem u_spec_IsTree_g : toUPf Try.prog 12 Try.f12 owA u_spec_IsTree_h u_spec_IsTree_d = some ([(false,1)],u_spec_IsTree_u):=by kernel_rfl
def u_spec_l16Shape_h : List Hint:=[⟨3000023,1,⟨[(7,.p false [.d 17]),(91,.p false [.d 15]),(56,.p false [.d 13]),(55,.p false [.d 0]),(5,.p false [.d 11]),(50,.p false [.d 10]),(4,.p false [.d 9]),(3,.p false [.d 7]),(10,.p false [.d 8]),(9,.p false [.d 0]),(2,.p false [.d 5]),(1,.p false [.ptr 0 0 0]),(0,.p true [.d 0,.d 1,.d 2,.d 3,.d 4])],[(0,.var 0 40 [.d 0,.d 1,.d 2,.d 3,.d 4])],1,1,18,[(15,true),(13,false),(10,false),(5,false)]⟩,[]⟩,⟨2000003,1,⟨[(85,.p false [.d 19]),(64,.p false [.d 18]),(6,.p false [.d 15]),(56,.p false [.d 13]),(55,.p false [.d 0]),(5,.p false [.d 11]),(50,.p false [.d 10]),(4,.p false [.d 9]),(3,.p false [.d 7]),(10,.p false [.d 8]),(9,.p false [.d 0]),(2,.p false [.d 5]),(1,.p false [.ptr 0 0 0]),(0,.p true [.d 0,.d 1,.d 2,.d 3,.d 4])],[(0,.var 0 40 [.d 0,.d 1,.d 2,.d 3,.d 4])],1,1,20,[(18,true),(16,true),(13,true),(10,false),(5,false)]⟩,[]⟩,⟨3000016,1,⟨[(6,.p false [.d 15]),(56,.p false [.d 13]),(55,.p false [.d 0]),(5,.p false [.d 11]),(50,.p false [.d 10]),(4,.p false [.d 9]),(3,.p false [.d 7]),(10,.p false [.d 8]),(9,.p false [.d 0]),(2,.p false [.d 5]),(1,.p false [.ptr 0 0 0]),(0,.p true [.d 0,.d 1,.d 2,.d 3,.d 4])],[(0,.var 0 40 [.d 0,.d 1,.d 2,.d 3,.d 4])],1,1,16,[(13,true),(10,false),(5,false)]⟩,[]⟩,⟨10,1,⟨[(50,.p false [.d 10]),(4,.p false [.d 9]),(3,.p false [.d 7]),(10,.p false [.d 8]),(9,.p false [.d 0]),(2,.p false [.d 5]),(1,.p false [.ptr 0 0 0]),(0,.p true [.d 0,.d 1,.d 2,.d 3,.d 4])],[(0,.var 0 40 [.d 0,.d 1,.d 2,.d 3,.d 4])],1,1,11,[(5,false)]⟩,[]⟩,⟨2000000,2,⟨[(3,.p false [.d 7]),(10,.p false [.d 8]),(9,.p false [.d 0]),(2,.p false [.d 5]),(1,.p false [.ptr 0 0 0]),(0,.p true [.d 0,.d 1,.d 2,.d 3,.d 4])],[(0,.var 0 40 [.d 0,.d 1,.d 2,.d 3,.d 4])],1,1,9,[(5,false)]⟩,[]⟩]
def u_spec_l16Shape_d : List (Nat × Nat × Bool × List Nat):=[(18,19,false,[])]
def u_spec_l16Shape_j0 : UP:=.po (.k (.int .i64 1)) <| .po (.bin .add false 2 0) <| .jump 0 [0]
def u_spec_l16Shape_l1 : UP:=.po (.bin .lss false 0 2) <| .ite 0 (.po (.k (.int .i64 200)) <| .po (.bin .leq false 4 0) <| .ite 0 (.sel [3,7] <| .join 1 u_spec_l16Shape_j0 <| .po (.isI 0) <| .po (.idx 1 1 0) <| .po (.sc 0) <| .cl 13 [(false,[0])] [(false,[none],true)] <| .po (.un .not 0) <| .po (.sc 0) <| .ite 0 (.po (.k (.bool true)) <| .po (.sc 0) <| .ite 0 (.po (.k (.bool false)) <| .po (.sc 0) <| .ret [(false,[0])]) <| .jump 1 [0]) <| .po (.isI 3) <| .po (.idx 1 4 3) <| .po (.sc 0) <| .cl 30 [(false,[5]),(false,[0])] [(false,[none],true)] <| .po (.bin .lss false 0 5) <| .po (.sc 0) <| .po (.sc 0) <| .ite 0 (.po (.k (.bool false)) <| .po (.sc 0) <| .ret [(false,[0])]) <| .jump 1 [0]) <| .po (.k (.int .i64 1)) <| .po (.bin .add false 6 0) <| .po (.bin .eql false 8 0) <| .po (.sc 0) <| .ret [(false,[0])]) <| .po (.k (.bool false)) <| .po (.k (.int .i64 1)) <| .po (.bin .add false 5 0) <| .po (.bin .eql false 7 0) <| .po (.sc 0) <| .ret [(false,[0])]
def u_spec_l16Shape_l2 : UP:=.po (.bin .lss false 0 2) <| .ite 0 (.po (.k (.int .i64 200)) <| .po (.bin .leq false 4 0) <| .ite 0 (.po (.isI 3) <| .po (.idx 1 7 3) <| .po (.lenS 0) <| .po (.k (.int .i64 60)) <| .po (.bin .gtr false 1 0) <| .ite 0 (.po (.k (.bool false)) <| .po (.sc 0) <| .ret [(false,[0])]) <| .po (.k (.int .i64 1)) <| .po (.bin .add false 8 0) <| .jump 0 [0]) <| .po (.k (.int .i64 1)) <| .po (.bin .add false 6 0) <| .po (.bin .eql false 8 0) <| .po (.sc 0) <| .ret [(false,[0])]) <| .po (.k (.bool false)) <| .po (.k (.int .i64 1)) <| .po (.bin .add false 5 0) <| .po (.bin .eql false 7 0) <| .po (.sc 0) <| .ret [(false,[0])]
def u_spec_l16Shape_j3 : UP:=.ite 0 (.po (.k (.bool false)) <| .po (.sc 0) <| .ret [(false,[0])]) <| .po (.lenL 7) <| .po (.k (.int .i64 8)) <| .po (.bin .eql false 12 0) <| .ite 0 (.po (.k (.int .i64 0)) <| .sel [0,3,10,11] <| .loop [0] u_spec_l16Shape_l1) <| .po (.k (.int .i64 9)) <| .po (.bin .eql false 14 0) <| .ite 0 (.po (.k (.int .i64 0)) <| .sel [0,5,12,13] <| .loop [0] u_spec_l16Shape_l2) <| .po (.k (.int .i64 16)) <| .po (.bin .eql false 16 0) <| .ite 0 (.po (.k (.int .i64 0)) <| .po (.bin .eql false 7 0) <| .ite 0 (.po (.k (.int .i64 2)) <| .po (.k (.int .i64 3)) <| .sel [0,1,17] <| .cl 28 [(false,[2]),(false,[1]),(false,[0])] [(false,[none],true)] <| .po (.sc 0) <| .ret [(false,[0])]) <| .po (.k (.bool false)) <| .po (.sc 0) <| .ret [(false,[0])]) <| .po (.k (.int .i64 26)) <| .po (.bin .eql false 18 0) <| .ite 0 (.po (.k (.int .i64 1)) <| .po (.bin .eql false 9 0) <| .ite 0 (.po (.k (.int .i64 0)) <| .po (.isI 0) <| .po (.idx 1 19 0) <| .po (.lenS 0) <| .po (.k (.int .i64 1)) <| .po (.k (.int .i64 60)) <| .sel [0,1,2] <| .cl 28 [(false,[2]),(false,[1]),(false,[0])] [(false,[none],true)] <| .po (.sc 0) <| .ret [(false,[0])]) <| .po (.k (.bool false)) <| .po (.sc 0) <| .ret [(false,[0])]) <| .po (.k (.int .i64 27)) <| .po (.bin .eql false 20 0) <| .ite 0 (.po (.k (.int .i64 1)) <| .po (.bin .eql false 11 0) <| .ite 0 (.po (.k (.int .i64 0)) <| .po (.isI 0) <| .po (.idx 1 21 0) <| .sel [0,22] <| .cl 13 [(false,[0])] [(false,[none],true)] <| .ite 0 (.po (.k (.int .i64 0)) <| .po (.isI 0) <| .po (.idx 1 3 0) <| .po (.k (.string ⟨#[60,45]⟩)) <| .po (.bin .add false 1 0) <| .sel [0] <| .cl 13 [(false,[0])] [(false,[none],true)] <| .po (.sc 0) <| .ret [(false,[0])]) <| .po (.k (.bool false)) <| .po (.sc 0) <| .ret [(false,[0])]) <| .po (.k (.bool false)) <| .po (.k (.bool false)) <| .po (.sc 0) <| .ret [(false,[0])]) <| .po (.k (.int .i64 0)) <| .po (.bin .eql false 11 0) <| .po (.sc 0) <| .ret [(false,[0])]
def u_spec_l16Shape_j4 : UP:=.cl 40 [(false,[8])] [(false,[none],true)] <| .join 1 u_spec_l16Shape_j3 <| .po (.k (.int .i64 0)) <| .po (.k (.int .i64 35)) <| .cl 28 [(false,[11]),(false,[1]),(false,[0])] [(false,[none],true)] <| .po (.un .not 0) <| .ite 0 (.po (.k (.bool true)) <| .po (.k (.bool true)) <| .po (.k (.bool true)) <| .po (.k (.bool true)) <| .jump 0 [0]) <| .po (.k (.int .i64 0)) <| .sel [0,5,7,10,11,12,13,14] <| .cl 28 [(false,[6]),(false,[0]),(false,[2])] [(false,[none],true)] <| .po (.un .not 0) <| .ite 0 (.po (.k (.bool true)) <| .po (.k (.bool true)) <| .po (.k (.bool true)) <| .jump 0 [0]) <| .sel [3,5,6,7,8,9] <| .cl 41 [(true,[5,4,3,2,1])] [(false,[none],true)] <| .po (.un .not 0) <| .ite 0 (.po (.k (.bool true)) <| .po (.k (.bool true)) <| .jump 0 [0]) <| .po (.k (.int .i64 0)) <| .po (.k (.int .i64 200)) <| .sel [0,1,4,5] <| .cl 28 [(false,[3]),(false,[1]),(false,[0])] [(false,[none],true)] <| .po (.un .not 0) <| .ite 0 (.po (.k (.bool true)) <| .jump 0 [0]) <| .po (.k (.int .i64 0)) <| .po (.bin .geq false 5 0) <| .ite 0 (.po (.bin .neq false 7 6) <| .jump 0 [0]) <| .po (.k (.bool false)) <| .jump 0 [0]
def u_spec_l16Shape_u : UP:=.po (.k (.bool false)) <| .po (.k (.int .i64 0)) <| .join 2 u_spec_l16Shape_j4 <| .po (.k (.int .i64 2)) <| .po (.bin .eql false 7 0) <| .ite 0 (.po (.k (.int .i64 999999999)) <| .jump 0 [0,1]) <| .po (.k (.int .i64 4)) <| .po (.bin .eql false 9 0) <| .ite 0 (.po (.k (.int .i64 2)) <| .jump 0 [0,3]) <| .po (.k (.int .i64 5)) <| .po (.bin .eql false 11 0) <| .ite 0 (.po (.k (.int .i64 1)) <| .jump 0 [0,5]) <| .jump 0 [6,4]
theorem u_spec_l16Shape_g : toUPf Try.prog 29 Try.f29 owA u_spec_l16Shape_h u_spec_l16Shape_d = some ([(true,5)],u_spec_l16Shape_u):=by kernel_rfl
def u_impl_labelsRight_h : List Hint:=[⟨3000011,1,⟨[(36,.p false [.d 12]),(35,.p false [.d 10]),(34,.p false [.d 3]),(31,.p false [.d 9]),(9,.p false [.d 7]),(8,.p false [.d 0]),(2,.p false [.d 5]),(1,.p false [.ptr 0 0 0]),(0,.p true [.d 0,.d 1,.d 2,.d 3,.d 4])],[(0,.var 0 40 [.d 0,.d 1,.d 2,.d 3,.d 4])],1,1,13,[(9,true),(7,false),(5,false)]⟩,[]⟩,⟨3000004,1,⟨[(14,.p false [.d 10]),(13,.p false [.d 8]),(12,.p false [.d 3]),(9,.p false [.d 7]),(8,.p false [.d 0]),(2,.p false [.d 5]),(1,.p false [.ptr 0 0 0]),(0,.p true [.d 0,.d 1,.d 2,.d 3,.d 4])],[(0,.var 0 40 [.d 0,.d 1,.d 2,.d 3,.d 4])],1,1,11,[(7,true),(5,false)]⟩,[]⟩]
def u_impl_labelsRight_d : List (Nat × Nat × Bool × List Nat):=[]
def u_impl_labelsRight_l0 : UP:=.po (.bin .lss false 0 2) <| .ite 0 (.po (.isI 1) <| .po (.idx 1 4 1) <| .cl 19 [(false,[0])] [(false,[none],true)] <| .po (.un .not 0) <| .ite 0 (.po (.k (.bool true)) <| .po (.k (.bool false)) <| .po (.sc 0) <| .ret [(false,[0])]) <| .po (.cutL 1 7 none (some 4)) <| .sel [0,3,5] <| .cl 20 [(false,[0]),(false,[1])] [(false,[none],true)] <| .ite 0 (.po (.k (.bool false)) <| .po (.sc 0) <| .ret [(false,[0])]) <| .po (.k (.int .i64 1)) <| .po (.bin .add false 4 0) <| .jump 0 [0]) <| .po (.k (.bool true)) <| .po (.sc 0) <| .ret [(false,[0])]
def u_impl_labelsRight_l1 : UP:=.po (.bin .lss false 0 2) <| .ite 0 (.po (.isI 1) <| .po (.idx 1 4 1) <| .po (.lenS 0) <| .po (.k (.int .i64 60)) <| .po (.bin .gtr false 1 0) <| .ite 0 (.po (.k (.bool false)) <| .po (.sc 0) <| .ret [(false,[0])]) <| .po (.k (.int .i64 1)) <| .po (.bin .add false 6 0) <| .jump 0 [0]) <| .po (.k (.bool true)) <| .po (.sc 0) <| .ret [(false,[0])]
def u_impl_labelsRight_u : UP:=.po (.k (.bool false)) <| .po (.k (.int .i64 8)) <| .po (.bin .eql false 6 0) <| .ite 0 (.po (.lenL 4) <| .po (.k (.int .i64 0)) <| .sel [0,1,6] <| .loop [0] u_impl_labelsRight_l0) <| .po (.k (.int .i64 9)) <| .po (.bin .eql false 8 0) <| .ite 0 (.po (.lenL 6) <| .po (.k (.int .i64 0)) <| .sel [0,1,8] <| .loop [0] u_impl_labelsRight_l1) <| .po (.k (.int .i64 26)) <| .po (.bin .eql false 10 0) <| .ite 0 (.po (.lenL 8) <| .po (.k (.int .i64 1)) <| .po (.bin .eql false 1 0) <| .ite 0 (.po (.k (.int .i64 0)) <| .po (.isI 0) <| .po (.idx 1 12 0) <| .po (.lenS 0) <| .po (.k (.int .i64 1)) <| .po (.bin .geq false 1 0) <| .ite 0 (.po (.k (.int .i64 0)) <| .po (.isI 0) <| .po (.idx 1 17 0) <| .po (.lenS 0) <| .po (.k (.int .i64 60)) <| .po (.bin .leq false 1 0) <| .po (.sc 0) <| .ret [(false,[0])]) <| .po (.k (.bool false)) <| .po (.sc 0) <| .ret [(false,[0])]) <| .po (.k (.bool false)) <| .po (.k (.bool false)) <| .po (.sc 0) <| .ret [(false,[0])]) <| .po (.k (.int .i64 27)) <| .po (.bin .eql false 12 0) <| .ite 0 (.po (.lenL 10) <| .po (.k (.int .i64 1)) <| .po (.bin .eql false 1 0) <| .ite 0 (.po (.k (.int .i64 0)) <| .po (.isI 0) <| .po (.idx 1 14 0) <| .sel [0,15] <| .cl 19 [(false,[0])] [(false,[none],true)] <| .ite 0 (.po (.k (.int .i64 0)) <| .po (.isI 0) <| .po (.idx 1 3 0) <| .po (.k (.string ⟨#[60,45]⟩)) <| .po (.bin .add false 1 0) <| .sel [0] <| .cl 19 [(false,[0])] [(false,[none],true)] <| .po (.sc 0) <| .ret [(false,[0])]) <| .po (.k (.bool false)) <| .po (.sc 0) <| .ret [(false,[0])]) <| .po (.k (.bool false)) <| .po (.k (.bool false)) <| .po (.sc 0) <| .ret [(false,[0])]) <| .po (.k (.bool true)) <| .po (.sc 0) <| .ret [(false,[0])]
theorem u_impl_labelsRight_g : toUPf Try.prog 45 Try.f45 owA u_impl_labelsRight_h u_impl_labelsRight_d = some ([(true,5)],u_impl_labelsRight_u):=by kernel_rfl
def u_impl_nodeRight_h : List Hint:=[⟨4,1,⟨[(51,.p false [.d 15]),(5,.p false [.d 14]),(4,.p false [.d 13]),(3,.p false [.d 12]),(18,.p false [.d 11]),(2,.p false [.d 5]),(1,.p false [.ptr 0 0 0]),(0,.p true [.d 0,.d 1,.d 2,.d 3,.d 4])],[(0,.var 0 40 [.d 0,.d 1,.d 2,.d 3,.d 4])],1,1,16,[(11,false),(9,false),(7,false),(5,false)]⟩,[]⟩]
def u_impl_nodeRight_d : List (Nat × Nat × Bool × List Nat):=[]
def u_impl_nodeRight_j0 : UP:=.ite 0 (.po (.k (.bool false)) <| .po (.sc 0) <| .ret [(false,[0])]) <| .po (.k (.int .i64 2)) <| .po (.bin .eql false 11 0) <| .ite 0 (.po (.k (.int .i64 0)) <| .po (.bin .geq false 12 0) <| .ite 0 (.po (.k (.int .i64 999999999)) <| .po (.bin .leq false 14 0) <| .po (.sc 0) <| .ret [(false,[0])]) <| .po (.k (.bool false)) <| .po (.sc 0) <| .ret [(false,[0])]) <| .po (.k (.int .i64 4)) <| .po (.bin .eql false 13 0) <| .ite 0 (.po (.k (.int .i64 0)) <| .po (.bin .geq false 14 0) <| .ite 0 (.po (.k (.int .i64 2)) <| .po (.bin .leq false 16 0) <| .po (.sc 0) <| .ret [(false,[0])]) <| .po (.k (.bool false)) <| .po (.sc 0) <| .ret [(false,[0])]) <| .po (.k (.int .i64 5)) <| .po (.bin .eql false 15 0) <| .ite 0 (.po (.k (.int .i64 0)) <| .po (.bin .geq false 16 0) <| .ite 0 (.po (.k (.int .i64 1)) <| .po (.bin .leq false 18 0) <| .po (.sc 0) <| .ret [(false,[0])]) <| .po (.k (.bool false)) <| .po (.sc 0) <| .ret [(false,[0])]) <| .po (.un .not 8) <| .ite 0 (.po (.k (.bool true)) <| .po (.un .not 9) <| .ite 0 (.po (.k (.bool true)) <| .po (.sc 0) <| .ret [(false,[0])]) <| .sel [15,16,17,18,19] <| .cl 45 [(true,[4,3,2,1,0])] [(false,[none],true)] <| .po (.sc 0) <| .ret [(false,[0])]) <| .sel [8,13,14,15,16,17] <| .cl 44 [(true,[5,4,3,2,1])] [(false,[none],true)] <| .ite 0 (.po (.un .not 1) <| .ite 0 (.po (.k (.bool true)) <| .po (.sc 0) <| .ret [(false,[0])]) <| .cl 45 [(true,[7,6,5,4,3])] [(false,[none],true)] <| .po (.sc 0) <| .ret [(false,[0])]) <| .po (.k (.bool false)) <| .po (.sc 0) <| .ret [(false,[0])]
def u_impl_nodeRight_u : UP:=.po (.k (.bool false)) <| .po (.k (.int .i64 0)) <| .po (.bin .lss false 6 0) <| .ite 0 (.po (.k (.bool true)) <| .po (.k (.bool true)) <| .po (.k (.bool false)) <| .po (.sc 0) <| .ret [(false,[0])]) <| .po (.k (.int .i64 35)) <| .po (.bin .gtr false 8 0) <| .ite 0 (.po (.k (.bool true)) <| .po (.k (.bool false)) <| .po (.sc 0) <| .ret [(false,[0])]) <| .sel [5,6,7,8,9] <| .cl 42 [(true,[4,3,2,1,0])] [(false,[none],true)] <| .po (.un .not 0) <| .ite 0 (.po (.k (.bool false)) <| .po (.sc 0) <| .ret [(false,[0])]) <| .cl 43 [(false,[6])] [(false,[none],true),(false,[none],true),(false,[none],true)] <| .join 1 u_impl_nodeRight_j0 <| .po (.un .not 2) <| .ite 0 (.po (.k (.int .i64 0)) <| .po (.bin .neq false 10 0) <| .ite 0 (.po (.k (.bool true)) <| .po (.k (.bool true)) <| .jump 0 [0]) <| .po (.un .not 4) <| .ite 0 (.po (.k (.string ⟨#[]⟩)) <| .po (.bin .neq false 12 0) <| .ite 0 (.po (.k (.bool true)) <| .jump 0 [0]) <| .po (.un .not 6) <| .ite 0 (.po (.lenL 13) <| .po (.k (.int .i64 0)) <| .po (.bin .gtr false 1 0) <| .jump 0 [0]) <| .po (.k (.bool false)) <| .jump 0 [0]) <| .po (.k (.bool false)) <| .po (.un .not 5) <| .ite 0 (.po (.lenL 12) <| .po (.k (.int .i64 0)) <| .po (.bin .gtr false 1 0) <| .jump 0 [0]) <| .po (.k (.bool false)) <| .jump 0 [0]) <| .po (.k (.bool false)) <| .po (.un .not 3) <| .ite 0 (.po (.k (.string ⟨#[]⟩)) <| .po (.bin .neq false 11 0) <| .ite 0 (.po (.k (.bool true)) <| .jump 0 [0]) <| .po (.un .not 5) <| .ite 0 (.po (.lenL 12) <| .po (.k (.int .i64 0)) <| .po (.bin .gtr false 1 0) <| .jump 0 [0]) <| .po (.k (.bool false)) <| .jump 0 [0]) <| .po (.k (.bool false)) <| .po (.un .not 4) <| .ite 0 (.po (.lenL 11) <| .po (.k (.int .i64 0)) <| .po (.bin .gtr false 1 0) <| .jump 0 [0]) <| .po (.k (.bool false)) <| .jump 0 [0]
theorem u_impl_nodeRight_g : toUPf Try.prog 34 Try.f34 owA u_impl_nodeRight_h u_impl_nodeRight_d = some ([(true,5)],u_impl_nodeRight_u):=by kernel_rfl
def u_impl_kidsRight_h : List Hint:=[⟨1000022,1,⟨[(37,.p false [.d 19]),(27,.p false [.d 16]),(11,.p false [.d 12]),(5,.p false [.d 9]),(4,.p false [.d 0]),(2,.p false [.d 5]),(1,.p false [.ptr 0 0 0]),(0,.p true [.d 0,.d 1,.d 2,.d 3,.d 4])],[(0,.var 0 40 [.d 0,.d 1,.d 2,.d 3,.d 4])],1,1,20,[(16,false),(14,false),(12,false),(9,false),(7,false),(5,false)]⟩,[]⟩,⟨1000006,1,⟨[(11,.p false [.d 12]),(5,.p false [.d 9]),(4,.p false [.d 0]),(2,.p false [.d 5]),(1,.p false [.ptr 0 0 0]),(0,.p true [.d 0,.d 1,.d 2,.d 3,.d 4])],[(0,.var 0 40 [.d 0,.d 1,.d 2,.d 3,.d 4])],1,1,13,[(9,false),(7,false),(5,false)]⟩,[]⟩]
def u_impl_kidsRight_d : List (Nat × Nat × Bool × List Nat):=[]
def u_impl_kidsRight_j0 : UP:=.ite 0 (.po (.k (.int .i64 1)) <| .po (.bin .eql false 3 0) <| .po (.sc 0) <| .ret [(false,[0])]) <| .po (.k (.int .i64 16)) <| .po (.bin .eql false 4 0) <| .ite 0 (.po (.k (.int .i64 2)) <| .po (.bin .eql false 5 0) <| .ite 0 (.po (.k (.bool true)) <| .po (.sc 0) <| .ret [(false,[0])]) <| .po (.k (.int .i64 3)) <| .po (.bin .eql false 7 0) <| .po (.sc 0) <| .ret [(false,[0])]) <| .po (.k (.int .i64 2)) <| .po (.bin .eql false 5 0) <| .po (.sc 0) <| .ret [(false,[0])]
def u_impl_kidsRight_j1 : UP:=.ite 0 (.po (.k (.int .i64 0)) <| .po (.bin .eql false 3 0) <| .po (.sc 0) <| .ret [(false,[0])]) <| .po (.k (.int .i64 8)) <| .po (.bin .eql false 5 0) <| .ite 0 (.po (.lenL 5) <| .po (.k (.int .i64 1)) <| .po (.bin .add false 1 0) <| .po (.bin .eql false 7 0) <| .po (.sc 0) <| .ret [(false,[0])]) <| .po (.k (.int .i64 9)) <| .po (.bin .eql false 7 0) <| .ite 0 (.po (.lenL 7) <| .po (.k (.int .i64 1)) <| .po (.bin .add false 1 0) <| .po (.bin .eql false 9 0) <| .po (.sc 0) <| .ret [(false,[0])]) <| .po (.k (.int .i64 10)) <| .po (.bin .eql false 9 0) <| .sel [0,8,10] <| .join 1 u_impl_kidsRight_j0 <| .ite 0 (.jump 0 [0]) <| .po (.k (.int .i64 14)) <| .po (.bin .eql false 3 0) <| .ite 0 (.jump 0 [0]) <| .po (.k (.int .i64 21)) <| .po (.bin .eql false 5 0) <| .ite 0 (.jump 0 [0]) <| .po (.k (.int .i64 33)) <| .po (.bin .eql false 7 0) <| .ite 0 (.jump 0 [0]) <| .po (.k (.int .i64 22)) <| .po (.bin .eql false 9 0) <| .ite 0 (.jump 0 [0]) <| .po (.k (.int .i64 23)) <| .po (.bin .eql false 11 0) <| .ite 0 (.jump 0 [0]) <| .po (.k (.int .i64 26)) <| .po (.bin .eql false 13 0) <| .ite 0 (.jump 0 [0]) <| .po (.k (.int .i64 27)) <| .po (.bin .eql false 15 0) <| .ite 0 (.jump 0 [0]) <| .po (.k (.int .i64 31)) <| .po (.bin .eql false 17 0) <| .jump 0 [0]
def u_impl_kidsRight_u : UP:=.po (.k (.bool false)) <| .po (.k (.int .i64 0)) <| .po (.bin .eql false 6 0) <| .ite 0 (.po (.k (.int .i64 0)) <| .po (.bin .geq false 4 0) <| .po (.sc 0) <| .ret [(false,[0])]) <| .po (.k (.int .i64 15)) <| .po (.bin .eql false 8 0) <| .ite 0 (.po (.k (.int .i64 0)) <| .po (.bin .geq false 6 0) <| .po (.sc 0) <| .ret [(false,[0])]) <| .po (.k (.int .i64 1)) <| .po (.bin .eql false 10 0) <| .sel [0,7,8,11] <| .join 1 u_impl_kidsRight_j1 <| .ite 0 (.jump 0 [0]) <| .po (.k (.int .i64 2)) <| .po (.bin .eql false 4 0) <| .ite 0 (.jump 0 [0]) <| .po (.k (.int .i64 3)) <| .po (.bin .eql false 6 0) <| .ite 0 (.jump 0 [0]) <| .po (.k (.int .i64 4)) <| .po (.bin .eql false 8 0) <| .ite 0 (.jump 0 [0]) <| .po (.k (.int .i64 5)) <| .po (.bin .eql false 10 0) <| .ite 0 (.jump 0 [0]) <| .po (.k (.int .i64 6)) <| .po (.bin .eql false 12 0) <| .ite 0 (.jump 0 [0]) <| .po (.k (.int .i64 19)) <| .po (.bin .eql false 14 0) <| .ite 0 (.jump 0 [0]) <| .po (.k (.int .i64 20)) <| .po (.bin .eql false 16 0) <| .ite 0 (.jump 0 [0]) <| .po (.k (.int .i64 35)) <| .po (.bin .eql false 18 0) <| .ite 0 (.jump 0 [0]) <| .po (.k (.int .i64 7)) <| .po (.bin .eql false 20 0) <| .ite 0 (.jump 0 [0]) <| .po (.k (.int .i64 32)) <| .po (.bin .eql false 22 0) <| .ite 0 (.jump 0 [0]) <| .po (.k (.int .i64 34)) <| .po (.bin .eql false 24 0) <| .jump 0 [0]
theorem u_impl_kidsRight_g : toUPf Try.prog 42 Try.f42 owA u_impl_kidsRight_h u_impl_kidsRight_d = some ([(true,5)],u_impl_kidsRight_u):=by kernel_rfl
def u_impl_uses_h : List Hint:=[⟨1000007,1,⟨[(10,.p false [.d 12]),(6,.p false [.d 9]),(5,.p false [.d 0]),(4,.p false [.d 3]),(3,.p false [.d 2]),(2,.p false [.d 1]),(0,.p false [.d 0])],[],0,0,13,[(9,false),(7,false),(5,false),(3,false),(2,false),(1,false)]⟩,[]⟩]
def u_impl_uses_d : List (Nat × Nat × Bool × List Nat):=[]
def u_impl_uses_j0 : UP:=.ite 0 (.po (.k (.bool false)) <| .po (.k (.bool true)) <| .po (.k (.bool false)) <| .po (.sc 2) <| .po (.sc 1) <| .po (.sc 0) <| .ret [(false,[2]),(false,[1]),(false,[0])]) <| .po (.k (.int .i64 8)) <| .po (.bin .eql false 3 0) <| .ite 0 (.po (.k (.bool false)) <| .po (.k (.bool false)) <| .po (.k (.bool true)) <| .po (.sc 2) <| .po (.sc 1) <| .po (.sc 0) <| .ret [(false,[2]),(false,[1]),(false,[0])]) <| .po (.k (.int .i64 9)) <| .po (.bin .eql false 5 0) <| .ite 0 (.po (.k (.bool false)) <| .po (.k (.bool false)) <| .po (.k (.bool true)) <| .po (.sc 2) <| .po (.sc 1) <| .po (.sc 0) <| .ret [(false,[2]),(false,[1]),(false,[0])]) <| .po (.k (.int .i64 26)) <| .po (.bin .eql false 7 0) <| .ite 0 (.po (.k (.bool false)) <| .po (.k (.bool true)) <| .po (.k (.bool true)) <| .po (.sc 2) <| .po (.sc 1) <| .po (.sc 0) <| .ret [(false,[2]),(false,[1]),(false,[0])]) <| .po (.k (.int .i64 27)) <| .po (.bin .eql false 9 0) <| .ite 0 (.po (.k (.bool false)) <| .po (.k (.bool true)) <| .po (.k (.bool true)) <| .po (.sc 2) <| .po (.sc 1) <| .po (.sc 0) <| .ret [(false,[2]),(false,[1]),(false,[0])]) <| .po (.k (.bool false)) <| .po (.k (.bool false)) <| .po (.k (.bool false)) <| .po (.sc 2) <| .po (.sc 1) <| .po (.sc 0) <| .ret [(false,[2]),(false,[1]),(false,[0])]
def u_impl_uses_u : UP:=.po (.k (.bool false)) <| .po (.k (.bool false)) <| .po (.k (.bool false)) <| .po (.k (.int .i64 2)) <| .po (.bin .eql false 4 0) <| .ite 0 (.po (.k (.bool true)) <| .po (.k (.bool false)) <| .po (.k (.bool false)) <| .po (.sc 2) <| .po (.sc 1) <| .po (.sc 0) <| .ret [(false,[2]),(false,[1]),(false,[0])]) <| .po (.k (.int .i64 4)) <| .po (.bin .eql false 6 0) <| .ite 0 (.po (.k (.bool true)) <| .po (.k (.bool false)) <| .po (.k (.bool false)) <| .po (.sc 2) <| .po (.sc 1) <| .po (.sc 0) <| .ret [(false,[2]),(false,[1]),(false,[0])]) <| .po (.k (.int .i64 5)) <| .po (.bin .eql false 8 0) <| .ite 0 (.po (.k (.bool true)) <| .po (.k (.bool false)) <| .po (.k (.bool false)) <| .po (.sc 2) <| .po (.sc 1) <| .po (.sc 0) <| .ret [(false,[2]),(false,[1]),(false,[0])]) <| .po (.k (.int .i64 3)) <| .po (.bin .eql false 10 0) <| .sel [0,11] <| .join 1 u_impl_uses_j0 <| .ite 0 (.jump 0 [0]) <| .po (.k (.int .i64 7)) <| .po (.bin .eql false 2 0) <| .ite 0 (.jump 0 [0]) <| .po (.k (.int .i64 10)) <| .po (.bin .eql false 4 0) <| .ite 0 (.jump 0 [0]) <| .po (.k (.int .i64 11)) <| .po (.bin .eql false 6 0) <| .ite 0 (.jump 0 [0]) <| .po (.k (.int .i64 14)) <| .po (.bin .eql false 8 0) <| .ite 0 (.jump 0 [0]) <| .po (.k (.int .i64 18)) <| .po (.bin .eql false 10 0) <| .ite 0 (.jump 0 [0]) <| .po (.k (.int .i64 22)) <| .po (.bin .eql false 12 0) <| .ite 0 (.jump 0 [0]) <| .po (.k (.int .i64 23)) <| .po (.bin .eql false 14 0) <| .ite 0 (.jump 0 [0]) <| .po (.k (.int .i64 24)) <| .po (.bin .eql false 16 0) <| .ite 0 (.jump 0 [0]) <| .po (.k (.int .i64 25)) <| .po (.bin .eql false 18 0) <| .ite 0 (.jump 0 [0]) <| .po (.k (.int .i64 28)) <| .po (.bin .eql false 20 0) <| .ite 0 (.jump 0 [0]) <| .po (.k (.int .i64 29)) <| .po (.bin .eql false 22 0) <| .ite 0 (.jump 0 [0]) <| .po (.k (.int .i64 30)) <| .po (.bin .eql false 24 0) <| .ite 0 (.jump 0 [0]) <| .po (.k (.int .i64 31)) <| .po (.bin .eql false 26 0) <| .ite 0 (.jump 0 [0]) <| .po (.k (.int .i64 32)) <| .po (.bin .eql false 28 0) <| .ite 0 (.jump 0 [0]) <| .po (.k (.int .i64 34)) <| .po (.bin .eql false 30 0) <| .jump 0 [0]
theorem u_impl_uses_g : toUPf Try.prog 43 Try.f43 owA u_impl_uses_h u_impl_uses_d = some ([(false,1)],u_impl_uses_u):=by kernel_rfl
def u_impl_isBinary_h : List Hint:=[]
def u_impl_isBinary_d : List (Nat × Nat × Bool × List Nat):=[]
def u_impl_isBinary_u : UP:=.po (.k (.bool false)) <| .po (.k (.string ⟨#[43]⟩)) <| .po (.k (.string ⟨#[45]⟩)) <| .po (.k (.string ⟨#[42]⟩)) <| .po (.k (.string ⟨#[47]⟩)) <| .po (.k (.string ⟨#[94]⟩)) <| .po (.k (.string ⟨#[37,37]⟩)) <| .po (.k (.string ⟨#[37,47,37]⟩)) <| .po (.k (.string ⟨#[61,61]⟩)) <| .po (.k (.string ⟨#[33,61]⟩)) <| .po (.k (.string ⟨#[60]⟩)) <| .po (.k (.string ⟨#[60,61]⟩)) <| .po (.k (.string ⟨#[62]⟩)) <| .po (.k (.string ⟨#[62,61]⟩)) <| .po (.k (.string ⟨#[38]⟩)) <| .po (.k (.string ⟨#[124]⟩)) <| .po (.k (.string ⟨#[38,38]⟩)) <| .po (.k (.string ⟨#[124,124]⟩)) <| .po (.k (.string ⟨#[58]⟩)) <| .po (.k (.string ⟨#[126]⟩)) <| .po (.sc 18) <| .po (.sc 17) <| .po (.sc 16) <| .po (.sc 15) <| .po (.sc 14) <| .po (.sc 13) <| .po (.sc 12) <| .po (.sc 11) <| .po (.sc 10) <| .po (.sc 9) <| .po (.sc 8) <| .po (.sc 7) <| .po (.sc 6) <| .po (.sc 5) <| .po (.sc 4) <| .po (.sc 3) <| .po (.sc 2) <| .po (.sc 1) <| .po (.sc 0) <| .po (.mk 9 1 [[18],[17],[16],[15],[14],[13],[12],[11],[10],[9],[8],[7],[6],[5],[4],[3],[2],[1],[0]]) <| .sel [0,21] <| .cl 20 [(false,[0]),(false,[1])] [(false,[none],true)] <| .po (.sc 0) <| .ret [(false,[0])]
theorem u_impl_isBinary_g : toUPf Try.prog 48 Try.f48 owA u_impl_isBinary_h u_impl_isBinary_d = some ([(false,1)],u_impl_isBinary_u):=by kernel_rfl
def u_impl_textRight_h : List Hint:=[]
def u_impl_textRight_d : List (Nat × Nat × Bool × List Nat):=[]
def u_impl_textRight_u : UP:=.po (.k (.bool false)) <| .po (.k (.int .i64 3)) <| .po (.bin .eql false 6 0) <| .ite 0 (.po (.lenS 5) <| .po (.k (.int .i64 60)) <| .po (.bin .leq false 1 0) <| .po (.sc 0) <| .ret [(false,[0])]) <| .po (.k (.int .i64 10)) <| .po (.bin .eql false 8 0) <| .ite 0 (.po (.k (.string ⟨#[45]⟩)) <| .po (.bin .eql false 8 0) <| .ite 0 (.po (.k (.bool true)) <| .po (.k (.bool true)) <| .po (.sc 0) <| .ret [(false,[0])]) <| .po (.k (.string ⟨#[33]⟩)) <| .po (.bin .eql false 10 0) <| .ite 0 (.po (.k (.bool true)) <| .po (.sc 0) <| .ret [(false,[0])]) <| .po (.k (.string ⟨#[126]⟩)) <| .po (.bin .eql false 12 0) <| .po (.sc 0) <| .ret [(false,[0])]) <| .po (.k (.int .i64 11)) <| .po (.bin .eql false 10 0) <| .ite 0 (.sel [9] <| .cl 48 [(false,[0])] [(false,[none],true)] <| .po (.sc 0) <| .ret [(false,[0])]) <| .po (.k (.int .i64 14)) <| .po (.bin .eql false 12 0) <| .ite 0 (.po (.lenS 11) <| .po (.k (.int .i64 1)) <| .po (.bin .geq false 1 0) <| .ite 0 (.po (.lenS 14) <| .po (.k (.int .i64 60)) <| .po (.bin .leq false 1 0) <| .po (.sc 0) <| .ret [(false,[0])]) <| .po (.k (.bool false)) <| .po (.sc 0) <| .ret [(false,[0])]) <| .sel [11] <| .cl 19 [(false,[0])] [(false,[none],true)] <| .po (.sc 0) <| .ret [(false,[0])]
theorem u_impl_textRight_g : toUPf Try.prog 44 Try.f44 owA u_impl_textRight_h u_impl_textRight_d = some ([(true,5)],u_impl_textRight_u):=by kernel_rfl
def u_spec_l16Binary_h : List Hint:=[]
def u_spec_l16Binary_d : List (Nat × Nat × Bool × List Nat):=[]
def u_spec_l16Binary_u : UP:=.po (.k (.string ⟨#[43]⟩)) <| .po (.k (.string ⟨#[45]⟩)) <| .po (.k (.string ⟨#[42]⟩)) <| .po (.k (.string ⟨#[47]⟩)) <| .po (.k (.string ⟨#[94]⟩)) <| .po (.k (.string ⟨#[37,37]⟩)) <| .po (.k (.string ⟨#[37,47,37]⟩)) <| .po (.k (.string ⟨#[61,61]⟩)) <| .po (.k (.string ⟨#[33,61]⟩)) <| .po (.k (.string ⟨#[60]⟩)) <| .po (.k (.string ⟨#[60,61]⟩)) <| .po (.k (.string ⟨#[62]⟩)) <| .po (.k (.string ⟨#[62,61]⟩)) <| .po (.k (.string ⟨#[38]⟩)) <| .po (.k (.string ⟨#[124]⟩)) <| .po (.k (.string ⟨#[38,38]⟩)) <| .po (.k (.string ⟨#[124,124]⟩)) <| .po (.k (.string ⟨#[58]⟩)) <| .po (.k (.string ⟨#[126]⟩)) <| .po (.sc 18) <| .po (.sc 17) <| .po (.sc 16) <| .po (.sc 15) <| .po (.sc 14) <| .po (.sc 13) <| .po (.sc 12) <| .po (.sc 11) <| .po (.sc 10) <| .po (.sc 9) <| .po (.sc 8) <| .po (.sc 7) <| .po (.sc 6) <| .po (.sc 5) <| .po (.sc 4) <| .po (.sc 3) <| .po (.sc 2) <| .po (.sc 1) <| .po (.sc 0) <| .po (.mk 9 1 [[18],[17],[16],[15],[14],[13],[12],[11],[10],[9],[8],[7],[6],[5],[4],[3],[2],[1],[0]]) <| .ret [(false,[0])]
theorem u_spec_l16Binary_g : toUPf Try.prog 47 Try.f47 owA u_spec_l16Binary_h u_spec_l16Binary_d = some ([],u_spec_l16Binary_u):=by kernel_rfl
def u_spec_l16Count_h : List Hint:=[]
def u_spec_l16Count_d : List (Nat × Nat × Bool × List Nat):=[]
def u_spec_l16Count_u : UP:=.po (.k (.int .i64 0)) <| .po (.k (.int .i64 0)) <| .po (.bin .eql false 2 0) <| .ite 0 (.po (.k (.int .i64 (-1))) <| .po (.sc 0) <| .ret [(false,[0])]) <| .po (.k (.int .i64 8)) <| .po (.bin .eql false 4 0) <| .ite 0 (.po (.k (.int .i64 (-1))) <| .po (.sc 0) <| .ret [(false,[0])]) <| .po (.k (.int .i64 9)) <| .po (.bin .eql false 6 0) <| .ite 0 (.po (.k (.int .i64 (-1))) <| .po (.sc 0) <| .ret [(false,[0])]) <| .po (.k (.int .i64 15)) <| .po (.bin .eql false 8 0) <| .ite 0 (.po (.k (.int .i64 (-1))) <| .po (.sc 0) <| .ret [(false,[0])]) <| .po (.k (.int .i64 16)) <| .po (.bin .eql false 10 0) <| .ite 0 (.po (.k (.int .i64 (-1))) <| .po (.sc 0) <| .ret [(false,[0])]) <| .po (.k (.int .i64 10)) <| .po (.bin .eql false 12 0) <| .ite 0 (.po (.k (.int .i64 1)) <| .po (.sc 0) <| .ret [(false,[0])]) <| .po (.k (.int .i64 14)) <| .po (.bin .eql false 14 0) <| .ite 0 (.po (.k (.int .i64 1)) <| .po (.sc 0) <| .ret [(false,[0])]) <| .po (.k (.int .i64 21)) <| .po (.bin .eql false 16 0) <| .ite 0 (.po (.k (.int .i64 1)) <| .po (.sc 0) <| .ret [(false,[0])]) <| .po (.k (.int .i64 22)) <| .po (.bin .eql false 18 0) <| .ite 0 (.po (.k (.int .i64 1)) <| .po (.sc 0) <| .ret [(false,[0])]) <| .po (.k (.int .i64 23)) <| .po (.bin .eql false 20 0) <| .ite 0 (.po (.k (.int .i64 1)) <| .po (.sc 0) <| .ret [(false,[0])]) <| .po (.k (.int .i64 26)) <| .po (.bin .eql false 22 0) <| .ite 0 (.po (.k (.int .i64 1)) <| .po (.sc 0) <| .ret [(false,[0])]) <| .po (.k (.int .i64 27)) <| .po (.bin .eql false 24 0) <| .ite 0 (.po (.k (.int .i64 1)) <| .po (.sc 0) <| .ret [(false,[0])]) <| .po (.k (.int .i64 31)) <| .po (.bin .eql false 26 0) <| .ite 0 (.po (.k (.int .i64 1)) <| .po (.sc 0) <| .ret [(false,[0])]) <| .po (.k (.int .i64 33)) <| .po (.bin .eql false 28 0) <| .ite 0 (.po (.k (.int .i64 1)) <| .po (.sc 0) <| .ret [(false,[0])]) <| .po (.k (.int .i64 11)) <| .po (.bin .eql false 30 0) <| .ite 0 (.po (.k (.int .i64 2)) <| .po (.sc 0) <| .ret [(false,[0])]) <| .po (.k (.int .i64 12)) <| .po (.bin .eql false 32 0) <| .ite 0 (.po (.k (.int .i64 2)) <| .po (.sc 0) <| .ret [(false,[0])]) <| .po (.k (.int .i64 13)) <| .po (.bin .eql false 34 0) <| .ite 0 (.po (.k (.int .i64 2)) <| .po (.sc 0) <| .ret [(false,[0])]) <| .po (.k (.int .i64 17)) <| .po (.bin .eql false 36 0) <| .ite 0 (.po (.k (.int .i64 2)) <| .po (.sc 0) <| .ret [(false,[0])]) <| .po (.k (.int .i64 18)) <| .po (.bin .eql false 38 0) <| .ite 0 (.po (.k (.int .i64 2)) <| .po (.sc 0) <| .ret [(false,[0])]) <| .po (.k (.int .i64 24)) <| .po (.bin .eql false 40 0) <| .ite 0 (.po (.k (.int .i64 2)) <| .po (.sc 0) <| .ret [(false,[0])]) <| .po (.k (.int .i64 25)) <| .po (.bin .eql false 42 0) <| .ite 0 (.po (.k (.int .i64 2)) <| .po (.sc 0) <| .ret [(false,[0])]) <| .po (.k (.int .i64 28)) <| .po (.bin .eql false 44 0) <| .ite 0 (.po (.k (.int .i64 2)) <| .po (.sc 0) <| .ret [(false,[0])]) <| .po (.k (.int .i64 29)) <| .po (.bin .eql false 46 0) <| .ite 0 (.po (.k (.int .i64 2)) <| .po (.sc 0) <| .ret [(false,[0])]) <| .po (.k (.int .i64 30)) <| .po (.bin .eql false 48 0) <| .ite 0 (.po (.k (.int .i64 2)) <| .po (.sc 0) <| .ret [(false,[0])]) <| .po (.k (.int .i64 0)) <| .po (.sc 0) <| .ret [(false,[0])]
theorem u_spec_l16Count_g : toUPf Try.prog 40 Try.f40 owA u_spec_l16Count_h u_spec_l16Count_d = some ([(false,1)],u_spec_l16Count_u):=by kernel_rfl
def u_spec_l16Text_h : List Hint:=[⟨1000011,1,⟨[(29,.p false [.d 16]),(23,.p false [.d 13]),(17,.p false [.d 11]),(11,.p false [.d 9]),(5,.p false [.d 7]),(4,.p false [.d 0]),(2,.p false [.d 5]),(1,.p false [.ptr 0 0 0]),(0,.p true [.d 0,.d 1,.d 2,.d 3,.d 4])],[(0,.var 0 40 [.d 0,.d 1,.d 2,.d 3,.d 4])],1,1,17,[(13,false),(11,false),(9,false),(7,false),(5,false)]⟩,[]⟩]
def u_spec_l16Text_d : List (Nat × Nat × Bool × List Nat):=[(9,5,false,[])]
def u_spec_l16Text_j0 : UP:=.ite 0 (.cl 13 [(false,[2])] [(false,[none],true)] <| .po (.sc 0) <| .ret [(false,[0])]) <| .po (.k (.string ⟨#[]⟩)) <| .po (.bin .eql false 3 0) <| .po (.sc 0) <| .ret [(false,[0])]
def u_spec_l16Text_u : UP:=.po (.k (.bool false)) <| .po (.k (.int .i64 3)) <| .po (.bin .eql false 6 0) <| .ite 0 (.po (.lenS 5) <| .po (.k (.int .i64 60)) <| .po (.bin .leq false 1 0) <| .po (.sc 0) <| .ret [(false,[0])]) <| .po (.k (.int .i64 14)) <| .po (.bin .eql false 8 0) <| .ite 0 (.po (.lenS 7) <| .po (.k (.int .i64 1)) <| .po (.k (.int .i64 60)) <| .sel [0,1,2] <| .cl 28 [(false,[2]),(false,[1]),(false,[0])] [(false,[none],true)] <| .po (.sc 0) <| .ret [(false,[0])]) <| .po (.k (.int .i64 10)) <| .po (.bin .eql false 10 0) <| .ite 0 (.po (.k (.string ⟨#[45]⟩)) <| .po (.k (.string ⟨#[33]⟩)) <| .po (.k (.string ⟨#[126]⟩)) <| .po (.sc 2) <| .po (.sc 1) <| .po (.sc 0) <| .po (.mk 9 1 [[2],[1],[0]]) <| .sel [0,13] <| .cl 14 [(false,[0]),(false,[1])] [(false,[none],true)] <| .po (.sc 0) <| .ret [(false,[0])]) <| .po (.k (.int .i64 11)) <| .po (.bin .eql false 12 0) <| .ite 0 (.sel [11] <| .cl 47 [] [(false,[some (9,1)],true)] <| .po (.sc 1) <| .cl 14 [(false,[0]),(false,[1])] [(false,[none],true)] <| .po (.sc 0) <| .po (.sc 0) <| .ret [(false,[0])]) <| .po (.k (.int .i64 7)) <| .po (.bin .eql false 14 0) <| .sel [0,13,15] <| .join 1 u_spec_l16Text_j0 <| .ite 0 (.jump 0 [0]) <| .po (.k (.int .i64 18)) <| .po (.bin .eql false 3 0) <| .ite 0 (.jump 0 [0]) <| .po (.k (.int .i64 22)) <| .po (.bin .eql false 5 0) <| .ite 0 (.jump 0 [0]) <| .po (.k (.int .i64 23)) <| .po (.bin .eql false 7 0) <| .ite 0 (.jump 0 [0]) <| .po (.k (.int .i64 24)) <| .po (.bin .eql false 9 0) <| .ite 0 (.jump 0 [0]) <| .po (.k (.int .i64 25)) <| .po (.bin .eql false 11 0) <| .ite 0 (.jump 0 [0]) <| .po (.k (.int .i64 26)) <| .po (.bin .eql false 13 0) <| .ite 0 (.jump 0 [0]) <| .po (.k (.int .i64 27)) <| .po (.bin .eql false 15 0) <| .ite 0 (.jump 0 [0]) <| .po (.k (.int .i64 28)) <| .po (.bin .eql false 17 0) <| .ite 0 (.jump 0 [0]) <| .po (.k (.int .i64 29)) <| .po (.bin .eql false 19 0) <| .ite 0 (.jump 0 [0]) <| .po (.k (.int .i64 30)) <| .po (.bin .eql false 21 0) <| .ite 0 (.jump 0 [0]) <| .po (.k (.int .i64 31)) <| .po (.bin .eql false 23 0) <| .ite 0 (.jump 0 [0]) <| .po (.k (.int .i64 32)) <| .po (.bin .eql false 25 0) <| .ite 0 (.jump 0 [0]) <| .po (.k (.int .i64 34)) <| .po (.bin .eql false 27 0) <| .jump 0 [0]
theorem u_spec_l16Text_g : toUPf Try.prog 41 Try.f41 owA u_spec_l16Text_h u_spec_l16Text_d = some ([(true,5)],u_spec_l16Text_u):=by kernel_rfl
def u_laws_eqNode_h : List Hint:=[]
def u_laws_eqNode_d : List (Nat × Nat × Bool × List Nat):=[]
def u_laws_eqNode_u : UP:=.po (.k (.bool false)) <| .po (.bin .neq false 10 5) <| .ite 0 (.po (.k (.bool false)) <| .po (.sc 0) <| .ret [(false,[0])]) <| .po (.bin .neq false 10 5) <| .ite 0 (.po (.k (.bool false)) <| .po (.sc 0) <| .ret [(false,[0])]) <| .po (.bin .neq false 10 5) <| .ite 0 (.po (.k (.bool false)) <| .po (.sc 0) <| .ret [(false,[0])]) <| .sel [4,5,9,10] <| .cl 39 [(false,[3]),(false,[1])] [(false,[none],true)] <| .po (.un .not 0) <| .ite 0 (.po (.k (.bool false)) <| .po (.sc 0) <| .ret [(false,[0])]) <| .po (.bin .neq false 4 2) <| .ite 0 (.po (.k (.bool false)) <| .po (.sc 0) <| .ret [(false,[0])]) <| .po (.k (.bool true)) <| .po (.sc 0) <| .ret [(false,[0])]
theorem u_laws_eqNode_g : toUPf Try.prog 23 Try.f23 owA u_laws_eqNode_h u_laws_eqNode_d = some ([(true,5),(true,5)],u_laws_eqNode_u):=by kernel_rfl
def u_laws_eqNodeS_h : List Hint:=[⟨3000004,1,⟨[(5,.p false [.d 7]),(10,.p false [.d 5]),(4,.p false [.d 2]),(0,.p false [.d 0]),(1,.p false [.d 1])],[],0,0,8,[(5,false),(2,false)]⟩,[]⟩]
def u_laws_eqNodeS_d : List (Nat × Nat × Bool × List Nat):=[(6,10,false,[])]
def u_laws_eqNodeS_l0 : UP:=.po (.lenL 3) <| .po (.bin .lss false 1 0) <| .ite 0 (.po (.isI 2) <| .po (.idx 5 5 2) <| .po (.isI 7) <| .po (.idx 5 9 7) <| .sel [0,1,2,3,4,5,6,7,8,9,12] <| .cl 23 [(true,[9,8,7,6,5]),(true,[4,3,2,1,0])] [(false,[none],true)] <| .po (.un .not 0) <| .po (.sc 0) <| .ite 0 (.po (.k (.bool false)) <| .po (.sc 0) <| .ret [(false,[0])]) <| .po (.k (.int .i64 1)) <| .po (.bin .add false 13 0) <| .jump 0 [0]) <| .po (.k (.bool true)) <| .po (.sc 0) <| .ret [(false,[0])]
def u_laws_eqNodeS_u : UP:=.po (.k (.bool false)) <| .po (.lenL 2) <| .po (.lenL 2) <| .po (.bin .neq false 1 0) <| .ite 0 (.po (.k (.bool false)) <| .po (.sc 0) <| .ret [(false,[0])]) <| .po (.k (.int .i64 0)) <| .sel [0,5,6] <| .loop [0] u_laws_eqNodeS_l0
theorem u_laws_eqNodeS_g : toUPf Try.prog 8 Try.f8 owA u_laws_eqNodeS_h u_laws_eqNodeS_d = some ([(false,1),(false,1)],u_laws_eqNodeS_u):=by kernel_rfl
def u_laws_szNode_h : List Hint:=[]
def u_laws_szNode_d : List (Nat × Nat × Bool × List Nat):=[]
def u_laws_szNode_u : UP:=.po (.k (.int .i64 0)) <| .po (.lenS 4) <| .po (.bin .sub false 2 0) <| .po (.k (.int .i64 0)) <| .po (.bin .lss false 1 0) <| .ite 0 (.po (.k (.int .i64 (-1))) <| .po (.sc 0) <| .ret [(false,[0])]) <| .sel [2,7] <| .cl 27 [(false,[1]),(false,[0])] [(false,[none],true)] <| .po (.k (.int .i64 0)) <| .po (.bin .lss false 1 0) <| .ite 0 (.po (.k (.int .i64 (-1))) <| .po (.sc 0) <| .ret [(false,[0])]) <| .po (.sc 2) <| .ret [(false,[2])]
theorem u_laws_szNode_g : toUPf Try.prog 11 Try.f11 owA u_laws_szNode_h u_laws_szNode_d = some ([(true,5),(false,1)],u_laws_szNode_u):=by kernel_rfl
def u_laws_szNodeS_h : List Hint:=[⟨3000005,2,⟨[(5,.p false [.d 8]),(11,.p false [.d 6]),(1,.p false [.d 9]),(4,.p false [.d 2]),(0,.p false [.d 0])],[],0,0,10,[(6,false)]⟩,[]⟩]
def u_laws_szNodeS_d : List (Nat × Nat × Bool × List Nat):=[]
def u_laws_szNodeS_l0 : UP:=.po (.lenL 4) <| .po (.bin .lss false 2 0) <| .ite 0 (.po (.isI 3) <| .po (.idx 5 6 3) <| .sel [0,1,2,3,4,7,8] <| .cl 11 [(true,[4,3,2,1,0]),(false,[5])] [(false,[none],true)] <| .po (.k (.int .i64 0)) <| .po (.bin .lss false 1 0) <| .ite 0 (.po (.k (.int .i64 (-1))) <| .po (.sc 0) <| .ret [(false,[0])]) <| .po (.k (.int .i64 1)) <| .po (.bin .add false 10 0) <| .jump 0 [0,4]) <| .po (.sc 2) <| .ret [(false,[2])]
def u_laws_szNodeS_u : UP:=.po (.k (.int .i64 0)) <| .po (.lenL 2) <| .po (.bin .sub false 2 0) <| .po (.k (.int .i64 0)) <| .po (.bin .lss false 1 0) <| .ite 0 (.po (.k (.int .i64 (-1))) <| .po (.sc 0) <| .ret [(false,[0])]) <| .po (.k (.int .i64 0)) <| .sel [0,3,7] <| .loop [0,1] u_laws_szNodeS_l0
theorem u_laws_szNodeS_g : toUPf Try.prog 4 Try.f4 owA u_laws_szNodeS_h u_laws_szNodeS_d = some ([(false,1),(false,1)],u_laws_szNodeS_u):=by kernel_rfl
def u_laws_toNode_h : List Hint:=[]
def u_laws_toNode_d : List (Nat × Nat × Bool × List Nat):=[]
def u_laws_toNode_u : UP:=.po (.k (.int .i64 0)) <| .po (.k (.int .i64 0)) <| .po (.k (.string ⟨#[]⟩)) <| .po (.k (.int .i64 0)) <| .po (.k (.int .i64 0)) <| .po (.k (.int .i64 0)) <| .po (.k (.string ⟨#[]⟩)) <| .po (.k (.int .i64 0)) <| .sel [8,9,10,11,12] <| .cl 33 [(false,[1])] [(false,[some (9,1)],true)] <| .po (.sc 5) <| .po (.sc 4) <| .po (.sc 3) <| .po (.sc 1) <| .ret [(true,[5,4,3,0,1])]
theorem u_laws_toNode_g : toUPf Try.prog 17 Try.f17 owA u_laws_toNode_h u_laws_toNode_d = some ([(true,5)],u_laws_toNode_u):=by kernel_rfl
def u_laws_toNodeS_h : List Hint:=[⟨3000003,2,⟨[(4,.p false [.d 4]),(3,.p false [.own 0 0]),(2,.p false [.nil]),(0,.p false [.d 0])],[(0,.row 0 40 5 5)],1,1,6,[]⟩,[]⟩]
def u_laws_toNodeS_d : List (Nat × Nat × Bool × List Nat):=[]
def u_laws_toNodeS_l0 : UP:=.po (.lenL 5) <| .po (.bin .lss false 2 0) <| .ite 0 (.po (.isI 3) <| .po (.idx 5 7 3) <| .sel [0,1,2,3,4,7,8] <| .cl 17 [(true,[4,3,2,1,0])] [(true,[none,none,none,some (9,1),none],true)] <| .po (.isI 11) <| .po (.chk 5 10 11) <| .po (.sc 4) <| .po (.sc 3) <| .po (.sc 2) <| .po (.sc 0) <| .po (.set 5 10 11 0 [4,3,2,1,0]) <| .po (.k (.int .i64 1)) <| .po (.bin .add false 13 0) <| .jump 0 [0,2]) <| .ret [(false,[2])]
def u_laws_toNodeS_u : UP:=.po (.lenL 0) <| .po (.make 40 5 64 [.sc (.int .i64 0),.sc (.int .i64 0),.sc (.string ⟨#[]⟩),.sl 0 1 [],.sc (.int .i64 0)] 0) <| .po (.k (.int .i64 0)) <| .loop [0,1] u_laws_toNodeS_l0
theorem u_laws_toNodeS_g : toUPf Try.prog 6 Try.f6 owA u_laws_toNodeS_h u_laws_toNodeS_d = some ([(false,1)],u_laws_toNodeS_u):=by kernel_rfl
def u_laws_eqStringS_h : List Hint:=[⟨3000004,1,⟨[(5,.p false [.d 7]),(10,.p false [.d 5]),(4,.p false [.d 2]),(0,.p false [.d 0]),(1,.p false [.d 1])],[],0,0,8,[(5,false),(2,false)]⟩,[]⟩]
def u_laws_eqStringS_d : List (Nat × Nat × Bool × List Nat):=[(6,9,false,[])]
def u_laws_eqStringS_l0 : UP:=.po (.lenL 3) <| .po (.bin .lss false 1 0) <| .ite 0 (.po (.isI 2) <| .po (.idx 1 5 2) <| .po (.sc 0) <| .po (.isI 3) <| .po (.idx 1 5 3) <| .po (.sc 0) <| .po (.bin .neq false 1 0) <| .po (.sc 0) <| .ite 0 (.po (.k (.bool false)) <| .po (.sc 0) <| .ret [(false,[0])]) <| .po (.k (.int .i64 1)) <| .po (.bin .add false 6 0) <| .jump 0 [0]) <| .po (.k (.bool true)) <| .po (.sc 0) <| .ret [(false,[0])]
def u_laws_eqStringS_u : UP:=.po (.k (.bool false)) <| .po (.lenL 2) <| .po (.lenL 2) <| .po (.bin .neq false 1 0) <| .ite 0 (.po (.k (.bool false)) <| .po (.sc 0) <| .ret [(false,[0])]) <| .po (.k (.int .i64 0)) <| .sel [0,5,6] <| .loop [0] u_laws_eqStringS_l0
theorem u_laws_eqStringS_g : toUPf Try.prog 39 Try.f39 owA u_laws_eqStringS_h u_laws_eqStringS_d = some ([(false,1),(false,1)],u_laws_eqStringS_u):=by kernel_rfl
def u_laws_szStringS_h : List Hint:=[⟨3000005,2,⟨[(5,.p false [.d 8]),(11,.p false [.d 6]),(1,.p false [.d 9]),(4,.p false [.d 2]),(0,.p false [.d 0])],[],0,0,10,[(6,false)]⟩,[]⟩]
def u_laws_szStringS_d : List (Nat × Nat × Bool × List Nat):=[]
def u_laws_szStringS_l0 : UP:=.po (.lenL 4) <| .po (.bin .lss false 2 0) <| .ite 0 (.po (.isI 3) <| .po (.idx 1 6 3) <| .po (.lenS 0) <| .po (.bin .sub false 4 0) <| .po (.k (.int .i64 0)) <| .po (.bin .lss false 1 0) <| .ite 0 (.po (.k (.int .i64 (-1))) <| .po (.sc 0) <| .ret [(false,[0])]) <| .po (.k (.int .i64 1)) <| .po (.bin .add false 9 0) <| .jump 0 [0,4]) <| .po (.sc 2) <| .ret [(false,[2])]
def u_laws_szStringS_u : UP:=.po (.k (.int .i64 0)) <| .po (.lenL 2) <| .po (.bin .sub false 2 0) <| .po (.k (.int .i64 0)) <| .po (.bin .lss false 1 0) <| .ite 0 (.po (.k (.int .i64 (-1))) <| .po (.sc 0) <| .ret [(false,[0])]) <| .po (.k (.int .i64 0)) <| .sel [0,3,7] <| .loop [0,1] u_laws_szStringS_l0
theorem u_laws_szStringS_g : toUPf Try.prog 27 Try.f27 owA u_laws_szStringS_h u_laws_szStringS_d = some ([(false,1),(false,1)],u_laws_szStringS_u):=by kernel_rfl
def u_laws_toStringS_h : List Hint:=[⟨3000003,2,⟨[(4,.p false [.d 4]),(3,.p false [.own 0 0]),(2,.p false [.nil]),(0,.p false [.d 0])],[(0,.row 0 9 1 5)],1,1,6,[]⟩,[]⟩]
def u_laws_toStringS_d : List (Nat × Nat × Bool × List Nat):=[]
def u_laws_toStringS_l0 : UP:=.po (.lenL 5) <| .po (.bin .lss false 2 0) <| .ite 0 (.po (.isI 3) <| .po (.idx 1 7 3) <| .po (.isI 4) <| .po (.chk 1 3 4) <| .po (.sc 0) <| .po (.set 1 3 4 0 [0]) <| .po (.k (.int .i64 1)) <| .po (.bin .add false 6 0) <| .jump 0 [0,2]) <| .ret [(false,[2])]
def u_laws_toStringS_u : UP:=.po (.lenL 0) <| .po (.make 9 1 16 [.sc (.string ⟨#[]⟩)] 0) <| .po (.k (.int .i64 0)) <| .loop [0,1] u_laws_toStringS_l0
theorem u_laws_toStringS_g : toUPf Try.prog 33 Try.f33 owA u_laws_toStringS_h u_laws_toStringS_d = some ([(false,1)],u_laws_toStringS_u):=by kernel_rfl
end Go.Proofs.Ytboheedjhnbnhaa

