/- Functions: a contract out of a walk. No program here. -/
import Derived.Test.YtlcnokbhoekpkaaAeB
namespace Go.Proofs.Ytlcnokbhoekpkaa
open Go.RowKit
set_option linter.unusedVariables false
set_option linter.unusedSimpArgs false

section
variable {P : Program} {N : Nat} {s : AS} {w0 : Cx} {w w' : World} {a : Act} {E : En}

theorem init_ok {args : List (Bool × List DV)} {vs : List Value} {B : Nat → Prop} (hB : ∀ b, B b → b < w.heap.size) (ha : ArgsR w B vs args) (hN : vs.length ≤ N) :
    RepE ⟨w, B⟩ N (initS args) { tmps := vs.toArray ++ Array.replicate (N - vs.toArray.size) undef, defers := [] } w ⟨fun _ => undef, fun _ => [], fun _ => [], B⟩ := by
  refine ⟨by simp; omega, rfl, Below.refl _ _, fun i hi => by simp [initS] at hi, fun t => ?_, hB, fun b hb i hi => by simp [initS] at hi, fun i hi => by simp [initS] at hi, fun i j hi => by simp [initS] at hi, fun i j hi => by simp [initS] at hi, fun i hi => by simp [initS] at hi, fun b hb => .inl hb⟩
  simp only [initS]
  split
  · rename_i b ds hx
    have hlt : t < vs.length := by rw [ha.1]; exact (List.getElem?_eq_some_iff.1 hx).1
    have hv : (vs.toArray ++ Array.replicate (N - vs.toArray.size) undef).getD t undef = vs[t] := by
      simp [Array.getElem?_append, hlt]
    rw [hv]
    have := ha.2 t _ _ (List.getElem?_eq_getElem hlt) hx
    unfold ArgR at this
    show PartR _ _ _ _ b _ _
    unfold PartR
    cases b with
    | true => obtain ⟨vals, h1, h2⟩ := this; exact ⟨vals, h1, CellsR.ofRep h2⟩
    | false => exact CellsR.ofRep this
  · trivial

def rvRun (tmps : Array Value) : ResultVar → Sem Value
  | .tmp t => pure (tmps.getD t undef)
  | .cell a t => do loadVar t (← asAddr (tmps.getD a undef))
theorem rv_ok (h : RepE w0 N s a w E) {rv : ResultVar} {x : AV} (hx : rvV P s rv = some x) : ∃ v, (rvRun a.tmps rv).run P w = .ok v w ∧ SlotR w E s.lv s.c x v := by
  cases rv with
  | tmp t => simp only [rvV] at hx; injection hx with hx; subst hx; exact ⟨_, rfl, h.slot t⟩
  | cell t ty =>
    obtain ⟨u, h1, h2⟩ := ldA_ok (P := P) h hx (h.slot t)
    refine ⟨u, ?_, h2⟩
    simp only [rvRun]
    cases hv : a.tmps.getD t undef with
    | pointer ad =>
      rw [hv] at h1
      cases ad with
      | none => simp [Instr.loadAt, Instr.sureAddr] at h1
      | some ad => simpa [Instr.loadAt, Instr.sureAddr, asAddr] using h1
    | _ => rw [hv] at h1; simp [Instr.loadAt, Instr.sureAddr] at h1

def RunsTo (P : Program) (w : World) (tmps : Array Value) : List ResultVar → List Value → Prop
  | [], [] => True
  | rv :: rvs, v :: vs => (rvRun tmps rv).run P w = .ok v w ∧ RunsTo P w tmps rvs vs
  | _, _ => False
theorem runs_mapM {tmps : Array Value} : ∀ {rvs : List ResultVar} {vs : List Value}, RunsTo P w tmps rvs vs → (rvs.mapM (rvRun tmps)).run P w = .ok vs w
  | [], [], _ => rfl
  | rv :: rvs, v :: vs, h => by simp [List.mapM_cons, h.1, runs_mapM h.2]
  | [], _ :: _, h => h.elim
  | _ :: _, [], h => h.elim
theorem run_results {fn : Func} {tmps : Array Value} {vs : List Value} (h : RunsTo P w tmps fn.results.toList vs) : ∃ v, (results fn tmps).run P w = .ok v w ∧ if vs.length = 1 then vs = [v] else v = .tuple vs.toArray := by
  have h1 : (fn.results.mapM (rvRun tmps)).run P w = .ok vs.toArray w := by
    rw [Array.mapM_eq_mapM_toList]
    simp [runs_mapM h]
  have h2 : results fn tmps = (do let vs ← fn.results.mapM (rvRun tmps); pure (if h : vs.size = 1 then vs[0] else .tuple vs)) := by
    unfold results
    congr 1
  rw [h2]
  by_cases hl : vs.length = 1
  · match vs, hl with
    | [v], _ => exact ⟨v, by simp [h1], by simp⟩
  · refine ⟨.tuple vs.toArray, by simp [h1, hl], by simp [hl]⟩

theorem rvP_ok {f : List AC → Prop} {b : Bool} {x : Option AV} (h : rvP f b x) : ∃ cs, x = some (.p b cs) ∧ f cs := by
  unfold rvP at h
  split at h
  · rename_i b' cs; obtain ⟨rfl, h⟩ := h; exact ⟨cs, rfl, h⟩
  · exact h.elim

theorem retDeep_ok {s0 : AS} {E0 : En} (h0 : RepE w0 N s0 a w E0) : ∀ {rvs : List ResultVar} {rs : List Rs} {s : AS} {E : En}, RetDeep P s0 rvs rs s → RepE w0 N s a w E → Stay w E0 s0.lv s0.c w E s.lv s.c →
    ∃ (vs : List Value) (fs : List (List Nat)), RunsTo P w a.tmps rvs vs ∧ vs.length = rs.length ∧ fs.length = rs.length ∧ fs.flatten.Nodup ∧ (∀ b ∈ fs.flatten, ∃ j, j < s.n ∧ (b ∈ E.m j ∨ b ∈ E.o j)) ∧
      ∀ (j : Nat) u r f, vs[j]? = some u → rs[j]? = some r → fs[j]? = some f → r.2.2 = true ∧ ∃ vals : List Value, (if r.1 then u = .agg vals.toArray else vals = [u]) ∧ OwnL w w0.heap.size vals r.2.1 f
  | [], [], s, E, _, h, _ => ⟨[], [], trivial, rfl, rfl, List.nodup_nil, by simp, fun j u r f h1 => by simp at h1⟩
  | rv :: rvs, (b, ds, dp) :: rs, s, E, hd, h, hst => by
    obtain ⟨hdp, hd⟩ := hd
    obtain ⟨cs, hcs, s', hg, hd⟩ := rvP_ok hd
    obtain ⟨v, hv1, hv2⟩ := rv_ok h0 hcs
    obtain ⟨vals, hp, hcell⟩ := part_get (show PartR w E0 s0.lv s0.c b cs v from hv2)
    obtain ⟨g1, g2, g3, g4, g5⟩ := hg
    obtain ⟨E', f, hgp⟩ := g5 w0 N a w E vals h (hcell.stay hst)
    have hst' : Stay w E0 s0.lv s0.c w E' s'.lv s'.c := by
      refine ⟨fun b hb => ⟨hgp.A' b (hst.A b hb).1, rfl⟩, fun i st hlt hl => ?_, by rw [g2]; exact hst.c⟩
      obtain ⟨k1, k2⟩ := hst.L i st hlt (g4 i st hl)
      exact ⟨k1, by rw [hgp.v]; exact k2⟩
    obtain ⟨vs, fs, r1, r2, r3, r4, r5, r6⟩ := retDeep_ok h0 hd hgp.rep hst'
    refine ⟨v :: vs, f :: fs, ⟨hv1, r1⟩, by simp [r2], by simp [r3], ?_, ?_, ?_⟩
    · rw [List.flatten_cons]
      refine List.nodup_append.2 ⟨hgp.own.nodup, r4, fun x hx y hy e => ?_⟩
      subst e
      obtain ⟨j, hj, hbj⟩ := r5 x hy
      rcases hbj with hbj | hbj
      · exact hgp.rep.A_m x (hgp.A x hx) j hj hbj
      · exact hgp.o x hx j hj hbj
    · intro x hx
      rw [List.flatten_cons] at hx
      rcases List.mem_append.1 hx with hx | hx
      · exact hgp.from_ x hx
      · obtain ⟨j, hj, hbj⟩ := r5 x hx
        exact ⟨j, by rw [g1] at hj; exact hj, hbj.imp (hgp.m' j x) (hgp.o' j x)⟩
    · intro j u r f' k1 k2 k3
      cases j with
      | zero => simp at k1 k2 k3; subst k1 k2 k3; exact ⟨hdp, vals, hp, hgp.own⟩
      | succ j => exact r6 j u r f' (by simpa using k1) (by simpa using k2) (by simpa using k3)
  | [], _ :: _, _, _, hd, _, _ => hd.elim
  | _ :: _, [], _, _, hd, _, _ => hd.elim

theorem retRd_ok (h : RepE w0 N s a w E) : ∀ {rvs : List ResultVar} {rs : List Rs}, RetRd P s rvs rs →
    ∃ (vs : List Value), RunsTo P w a.tmps rvs vs ∧ vs.length = rs.length ∧ ∀ (j : Nat) u r, vs[j]? = some u → rs[j]? = some r → r.2.2 = false ∧ ∃ vals : List Value, (if r.1 then u = .agg vals.toArray else vals = [u]) ∧ RepL w (AM s E) vals r.2.1
  | [], [], _ => ⟨[], trivial, rfl, fun j u r h1 => by simp at h1⟩
  | rv :: rvs, (b, ds, dp) :: rs, hd => by
    obtain ⟨hdp, hd, hrest⟩ := hd
    obtain ⟨cs, hcs, hrd⟩ := rvP_ok hd
    obtain ⟨v, hv1, hv2⟩ := rv_ok h hcs
    obtain ⟨vals, hp, hcell⟩ := part_get (show PartR w E s.lv s.c b cs v from hv2)
    obtain ⟨vs, r1, r2, r6⟩ := retRd_ok h hrest
    refine ⟨v :: vs, ⟨hv1, r1⟩, by simp [r2], ?_⟩
    intro j u r k1 k2
    cases j with
    | zero => simp at k1 k2; subst k1 k2; exact ⟨hdp, vals, hp, rdL_ok h hcell hrd⟩
    | succ j => exact r6 j u r (by simpa using k1) (by simpa using k2)
  | [], _ :: _, hd => hd.elim
  | _ :: _, [], hd => hd.elim

theorem own_ge (h : RepE w0 N s a w E) {j b : Nat} (hj : j < s.n) (hb : b ∈ E.m j) : s.ob j = .dead ∨ w0.heap.size ≤ b := by
  have hO := h.obj j hj
  cases ho : s.ob j with
  | dead => exact .inl rfl
  | var st t cs => rw [ho] at hO; obtain ⟨g, vals, _, _, em, _, hge, _⟩ := hO; rw [em] at hb; simp at hb; subst hb; exact .inr hge
  | arr st t k es => rw [ho] at hO; obtain ⟨g, vals, _, _, em, _, hge, _⟩ := hO; rw [em] at hb; simp at hb; subst hb; exact .inr hge
  | row st t k es dp => rw [ho] at hO; obtain ⟨cells, _, h1, _, _, em, _⟩ := hO; rw [em] at hb; exact .inr (own_blk h1 (by simpa using hb)).1
  | frz st x => rw [ho] at hO; rw [hO.2.1] at hb; cases hb
  | dx st x => rw [ho] at hO; exact .inr (hO.2.2.blocks b hb).1

theorem meets_of {f : FuncId} {fn : Func} {c : Code} {args : List (Bool × List DV)} {res : List Rs} (hf : P.funcs[f]? = some fn) (hb : fn.body = some c) (hc : callable P f = true) (hN : args.length ≤ N) (hn : fn.ntmps = N) {rvs : List ResultVar} (hrv : fn.results.toList = rvs)
    (h : aw P N c (retK P rvs res) (initS args)) : Meets P f args res := by
  subst hrv hn
  refine ⟨hc, fun w B vs hB ha => ?_⟩
  refine calls_of_wp hf hb ?_
  refine Code.wp_mono (fun e a' w' he => ?_) (aw_ok h ⟨w, B⟩ _ w _ (init_ok hB ha (by rw [ha.1]; exact hN)))
  obtain ⟨s, E, hq, hr⟩ := he
  have key : RetDeep P s fn.results.toList res s ∨ RetRd P s fn.results.toList res → a'.defers = [] ∧ ∃ v, (results fn a'.tmps).run P w' = .ok v w' ∧ RetV w B res (.returned v) w' := by
    intro hq
    refine ⟨hr.defers, ?_⟩
    rcases hq with hq | hq
    · obtain ⟨us, fs, r1, r2, r3, r4, r5, r6⟩ := retDeep_ok hr hq hr Stay.refl
      obtain ⟨v, k1, k2⟩ := run_results r1
      refine ⟨v, k1, v, rfl, ⟨us, fs, by rw [r2] at k2; exact k2, r2, r3, r4, fun j u r f e1 e2 e3 => ?_⟩, hr.bel⟩
      obtain ⟨q1, vals, q2, q3⟩ := r6 j u r f e1 e2 e3
      exact ⟨vals, q2, by rw [if_pos q1]; exact q3⟩
    · obtain ⟨us, r1, r2, r6⟩ := retRd_ok hr hq
      obtain ⟨v, k1, k2⟩ := run_results r1
      refine ⟨v, k1, v, rfl, ⟨us, List.replicate res.length [], by rw [r2] at k2; exact k2, r2, by simp, by simp, fun j u r f e1 e2 e3 => ?_⟩, hr.bel⟩
      obtain ⟨q1, vals, q2, q3⟩ := r6 j u r e1 e2
      have hf0 : f = [] := List.eq_of_mem_replicate (List.mem_of_getElem? e3)
      refine ⟨vals, q2, ?_⟩
      rw [if_neg (by simp [q1])]
      refine ⟨hf0, q3.mono fun b hb => ?_⟩
      have hlt : b < w'.heap.size := by
        rcases hb with hb | ⟨i, hi, hnd, hb⟩
        · exact hr.A_lt b hb
        · exact hr.m_lt i hi b hb
      by_cases hge : w.heap.size ≤ b
      · exact .inr ⟨hge, hlt, by simp⟩
      · left
        rcases hb with hb | ⟨i, hi, hnd, hb⟩
        · exact (hr.anc b hb).resolve_right hge
        · rcases own_ge hr hi hb with hd | hd
          · exact absurd hd hnd
          · exact absurd hd hge
  cases e with
  | normal => exact key hq
  | ret => exact key hq
  | _ => exact hq.elim
end
end Go.Proofs.Ytlcnokbhoekpkaa
