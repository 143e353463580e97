/- Regions that draw their order: the law. No program here. -/
import Derived.Test.YtlcnokbhoekpkaaAeG
namespace Go.Proofs.Ytlcnokbhoekpkaa
open Go.RowKit
set_option linter.unusedVariables false
set_option linter.unusedSimpArgs false

def HStp (P : Program) (N : Nat) (pr : Bool) (ops : Array Oper) (h q : AS) (o : Oper) (kd : HK) (x : AV) (q' : AS) : Option (Nat × Bool) → Prop
  | none => HRun P pr h q o kd x q'
  | some (g, want) => ∃ t b, gslot ops g = some t ∧ t < N ∧ h.sl t = .p false [.d (.sc (.bool b))] ∧ if b = want then HRun P pr h q o kd x q' else (kd = .v .und ∧ x = .und ∧ q' = q.put o.dst .und)
def Heads (P : Program) (N : Nat) (pr : Bool) (ops : Array Oper) : List Oper → AS → AS → List HK → List AV → AS → Prop
  | [], h, q, [], [], q' => q' = q
  | o :: r, h, q, kd :: kds, x :: xs, q' => (∃ d, o.dst = some d ∧ d < N) ∧ ∃ q1, HStp P N pr ops h q o kd x q1 o.guard ∧ Heads P N pr ops r (h.put o.dst x) q1 kds xs q'
  | _, _, _, _, _, _ => False

def hAt (s : AS) : List Oper → List AV → AS
  | o :: l, x :: xs => hAt (s.put o.dst x) l xs
  | _, _ => s
def dsts (l : List Oper) : List Nat := l.filterMap (·.dst)
def undL (q : AS) (ds : List Nat) : AS := { q with sl := fun t => if ds.contains t then .und else q.sl t }

section
variable {P : Program} {w0 : Cx} {w w' : World} {N m : Nat} {s h H q q' : AS} {a : Act} {E : En} {o : Oper} {pr : Bool} {ops : Array Oper}

theorem hAt_same : ∀ {l : List Oper} {xs : List AV} {s : AS}, (hAt s l xs).ob = s.ob ∧ (hAt s l xs).n = s.n ∧ (hAt s l xs).c = s.c
  | [], xs, s => by cases xs <;> exact ⟨rfl, rfl, rfl⟩
  | o :: l, [], s => ⟨rfl, rfl, rfl⟩
  | o :: l, x :: xs, s => by
    obtain ⟨h1, h2, h3⟩ := hAt_same (l := l) (xs := xs) (s := s.put o.dst x)
    exact ⟨h1.trans (AS.put_ob ..), h2.trans (AS.put_n ..), h3.trans (AS.put_c ..)⟩
theorem put_sl_ne {d : Option Nat} {x : AV} {t : Nat} (h : d ≠ some t) : (s.put d x).sl t = s.sl t := by
  cases d with
  | none => rfl
  | some d => exact upd_ne _ _ (fun e => h (by rw [e]))
theorem hAt_out : ∀ {l : List Oper} {xs : List AV} {s : AS} {t : Nat}, (∀ o ∈ l, o.dst ≠ some t) → (hAt s l xs).sl t = s.sl t
  | [], xs, s, t, _ => by cases xs <;> rfl
  | o :: l, [], s, t, _ => rfl
  | o :: l, x :: xs, s, t, h => by
    rw [hAt, hAt_out fun o ho => h o (List.mem_cons_of_mem _ ho)]
    exact put_sl_ne (h o (List.mem_cons_self ..))
theorem hAt_in : ∀ {l : List Oper} {xs : List AV} {s : AS} {t j : Nat} {o : Oper} {x : AV}, (dsts l).Nodup → l[j]? = some o → xs[j]? = some x → o.dst = some t → (hAt s l xs).sl t = x
  | [], xs, s, t, j, o, x, _, h, _, _ => by simp at h
  | o' :: l, [], s, t, j, o, x, _, _, h, _ => by simp at h
  | o' :: l, x' :: xs, s, t, j, o, x, hnd, h1, h2, h3 => by
    rw [hAt]
    have hnd' : (dsts l).Nodup := by
      unfold dsts at hnd ⊢
      rw [List.filterMap_cons] at hnd
      split at hnd
      · exact hnd
      · exact (List.nodup_cons.1 hnd).2
    cases j with
    | zero =>
      simp at h1 h2; subst h1 h2
      rw [hAt_out]
      · rw [h3]; exact upd_same _ _ _
      · intro o2 ho2 he
        unfold dsts at hnd
        rw [List.filterMap_cons, h3] at hnd
        exact (List.nodup_cons.1 hnd).1 (List.mem_filterMap.2 ⟨o2, ho2, he⟩)
    | succ j => exact hAt_in hnd' (by simpa using h1) (by simpa using h2) h3

theorem heads_at : ∀ {l : List Oper} {h q q' : AS} {kds : List HK} {xs : List AV}, Heads P N pr ops l h q kds xs q' → ∀ (i : Nat) o, l[i]? = some o → ∃ kd x qi qi', kds[i]? = some kd ∧ xs[i]? = some x ∧ (∃ d, o.dst = some d ∧ d < N) ∧ HStp P N pr ops (hAt h (l.take i) xs) qi o kd x qi' o.guard
  | [], h, q, q', kds, xs, _, i, o, ho => by simp at ho
  | o' :: l, h, q, q', [], xs, hh, i, o, ho => hh.elim
  | o' :: l, h, q, q', kd :: kds, [], hh, i, o, ho => hh.elim
  | o' :: l, h, q, q', kd :: kds, x :: xs, hh, i, o, ho => by
    obtain ⟨hd, q1, h1, h2⟩ := hh
    cases i with
    | zero => simp at ho; subst ho; exact ⟨kd, x, q, q1, rfl, rfl, hd, h1⟩
    | succ i =>
      obtain ⟨kd', x', qi, qi', k1, k2, k3, k4⟩ := heads_at h2 i o (by simpa using ho)
      exact ⟨kd', x', qi, qi', by simpa using k1, by simpa using k2, k3, by rw [List.take_succ_cons, hAt]; exact k4⟩

/-! ### behind the head -/
def FactsL (m : Nat) (E : En) (L : Nat → Option Nat) (c : Nat) (a : Act) (w : World) : List Oper → List HK → List AV → List (List Nat) → Prop
  | [], [], [], [] => True
  | o :: l, kd :: kds, x :: xs, f :: fs => (∀ d, o.dst = some d → Fact m E L c a w (a.tmps.getD d undef) f kd ∧ SlotR w (E.plus m w.heap.size) L c x (a.tmps.getD d undef)) ∧ FactsL m E L c a w l kds xs fs
  | _, _, _, _ => False
def NoFwd (ops : Array Oper) : List Oper → Prop
  | [] => True
  | o :: r => (∀ t ∈ o.looksAt ops, t ∉ dsts (o :: r)) ∧ NoFwd ops r

theorem undL_push {ds : List Nat} {x : Ob} : (undL q ds).push x = undL (q.push x) ds := rfl
theorem undL_pushL {ds : List Nat} : ∀ {l : List Ob} {q : AS}, (undL q ds).pushL l = undL (q.pushL l) ds
  | [], q => rfl
  | x :: l, q => by rw [AS.pushL, AS.pushL, undL_push, undL_pushL]

theorem reslot (h : RepE w0 N s a w E) {sl' : Nat → AV} (hs : ∀ t, SlotR w E s.lv s.c (sl' t) (a.tmps.getD t undef)) : RepE w0 N { s with sl := sl' } a w E :=
  ⟨h.size, h.defers, h.bel, h.obj, hs, h.A_lt, h.A_m, h.A_o, h.mm, h.oo, h.m_lt, h.anc⟩

theorem solid_stay {L L' : Nat → Option Nat} {c c' : Nat} {E1 E2 : En} {x : AC} {u : Value} (h : CellR w E1 L c x u) (hs : solidC x = true) (hL : ∀ i st, st < c → L' i = some st → L i = some st ∧ E2.v i = E1.v i) (hc : c ≤ c') : CellR w E2 L' c' x u := by
  cases x with
  | d y =>
    cases y with
    | sc v => obtain ⟨rfl, hv⟩ := RepL.scOf h; exact RepL.sc hv .nil
    | sl => simp [solidC] at hs
  | nil => exact h
  | own i st => exact ⟨Nat.lt_of_lt_of_le h.1 hc, fun hl => by obtain ⟨h1, h2⟩ := hL i st h.1 hl; rw [h2]; exact h.2 h1⟩
  | ptr i st off => exact ⟨Nat.lt_of_lt_of_le h.1 hc, fun hl => by obtain ⟨h1, h2⟩ := hL i st h.1 hl; rw [h2]; exact h.2 h1⟩
  | elt i st kk j off => exact ⟨Nat.lt_of_lt_of_le h.1 hc, fun hl => by obtain ⟨h1, h2⟩ := hL i st h.1 hl; rw [h2]; exact h.2 h1⟩
  | rd => simp [solidC] at hs

theorem fin_slot {L L' : Nat → Option Nat} {c c' : Nat} {E2 : En} {x : AV} {v : Value} (h : SlotR w E L c x v) (hL : ∀ i st, st < c → L' i = some st → L i = some st ∧ E2.v i = E.v i) (hc : c ≤ c') (hpr : pr = true → ∀ b, E.A b → E2.A b) : SlotR w E2 L' c' (finV pr x) v := by
  unfold finV
  split
  · rename_i hp; exact h.stay ⟨fun b hb => ⟨hpr hp b hb, rfl⟩, hL, hc⟩
  · split
    · rename_i b cs
      split
      · rename_i hall
        obtain ⟨vals, h1, h2⟩ := part_get (show PartR w E L c b cs v from h)
        exact part_mk h1 ⟨h2.1, fun j x u hx hu => solid_stay (h2.2 j x u hx hu) (List.all_eq_true.1 hall x (List.mem_of_getElem? hx)) hL hc⟩
      · trivial
    · trivial

theorem adO_flat : ∀ {ds : List DV} {c b0 : Nat} {vals : List Value} {f : List Nat}, adO false ds c = [] → OwnL w b0 vals ds f → f = []
  | [], c, b0, vals, f, _, h => by cases h; rfl
  | .sc v :: ds, c, b0, vals, f, h, ho => by cases ho with | sc _ ho => exact adO_flat (show adO false ds c = [] from h) ho
  | .sl t k es :: ds, c, b0, vals, f, h, _ => by simp [adO] at h
theorem resO_flat {A : Nat → Prop} {b0 : Nat} : ∀ {rs : List Rs} {vs : List Value} {fs : List (List Nat)} {c : Nat}, (∀ r ∈ rs, r.2.2 = true) → resO false rs c = [] → ResQs w b0 A vs rs fs → fs.flatten = []
  | [], [], [], _, _, _, _ => rfl
  | (b, ds, dp) :: rs, v :: vs, f :: fs, c, hd, h, hq => by
    have hdp : dp = true := hd _ (List.mem_cons_self ..)
    subst hdp
    simp only [resO, List.append_eq_nil_iff] at h
    obtain ⟨vals, _, h2⟩ := hq.1
    have h2 : OwnL w b0 vals ds f := h2
    rw [List.flatten_cons, adO_flat h.1 h2, resO_flat (fun r hr => hd r (List.mem_cons_of_mem _ hr)) h.2 hq.2]; rfl
  | [], _ :: _, _, _, _, _, h => by cases h
  | [], [], _ :: _, _, _, _, h => by cases h
  | _ :: _, [], _, _, _, _, h => by cases h
  | _ :: _, _ :: _, [], _, _, _, h => by cases h
theorem put_und {ds : List Nat} {d : Nat} {x : AV} (hd : d ∉ ds) (h : RepE w0 N (undL q (d :: ds)) a w E) (hx : SlotR w E q.lv q.c x (a.tmps.getD d undef)) : RepE w0 N (undL (q.put (some d) x) ds) a w E := by
  have := reslot h (sl' := fun t => if ds.contains t then .und else (q.put (some d) x).sl t) (fun t => ?_)
  · exact this
  · split
    · trivial
    · rename_i ht
      by_cases e : t = d
      · subst e; simp only [AS.put, upd_same]; exact hx
      · simp only [AS.put, upd_ne _ _ e]
        have := h.slot t
        simp only [undL] at this
        rw [if_neg (by simp only [List.contains_cons]; simp [e]; simpa using ht)] at this
        exact this

theorem heads_fin {s0 : AS} (hw : w0.heap.size ≤ m) : ∀ {l : List Oper} {h q q' : AS} {kds : List HK} {xs : List AV} {fs : List (List Nat)} {Eq : En}, Heads P N pr ops l h q kds xs q' → (dsts l).Nodup → NoFwd ops l → FactsL m E s0.lv s0.c a w l kds xs fs →
    RepE w0 N (undL q (dsts l)) a w Eq → (∀ i st, st < s0.c → q.lv i = some st → s0.lv i = some st ∧ Eq.v i = E.v i) → s0.c ≤ q.c → (pr = true → ∀ b, (E.plus m w.heap.size).A b → Eq.A b) →
    fs.flatten.Nodup → (pr = true ∨ ∀ b ∈ fs.flatten, ¬ Eq.A b) → (∀ b ∈ fs.flatten, b < w.heap.size ∧ ∀ j, j < q.n → b ∉ Eq.m j ∧ b ∉ Eq.o j) → ∃ E', RepE w0 N q' a w E'
  | [], h, q, q', kds, xs, fs, Eq, hh, _, _, _, hr, _, _, _, _, _, _ => by
    cases kds with
    | cons => exact hh.elim
    | nil => cases xs with
      | cons => exact hh.elim
      | nil =>
        obtain rfl : q' = q := hh
        refine ⟨Eq, ?_⟩
        have : undL q' (dsts []) = q' := by unfold undL dsts; simp
        rw [this] at hr; exact hr
  | o :: l, h, q, q', [], xs, fs, Eq, hh, _, _, _, _, _, _, _, _, _, _ => hh.elim
  | o :: l, h, q, q', kd :: kds, [], fs, Eq, hh, _, _, _, _, _, _, _, _, _, _ => hh.elim
  | o :: l, h, q, q', kd :: kds, x :: xs, [], Eq, hh, _, _, hfa, _, _, _, _, _, _, _ => hfa.elim
  | o :: l, h, q, q', kd :: kds, x :: xs, f :: fs, Eq, hh, hnd, hnf, hfa, hr, hL, hc, hpr, hfd, hfA, hff => by
    obtain ⟨⟨d, hd, hdN⟩, q1, hst, hh⟩ := hh
    obtain ⟨hfact, hfa⟩ := hfa
    obtain ⟨hfk, hsl⟩ := hfact d hd
    have hds : dsts (o :: l) = d :: dsts l := by unfold dsts; rw [List.filterMap_cons, hd]
    rw [hds] at hnd hr
    have hdl := (List.nodup_cons.1 hnd).1
    have hnd' := (List.nodup_cons.1 hnd).2
    rw [List.flatten_cons] at hfd hfA hff
    have hfd' := List.nodup_append.1 hfd
    -- a value of its own
    have caseV : ∀ y, SlotR w (E.plus m w.heap.size) s0.lv s0.c y (a.tmps.getD d undef) → q1 = q.put o.dst (finV pr y) → ∃ E', RepE w0 N q' a w E' := by
      intro y hy e
      subst e
      rw [hd] at hh
      have hsl := fin_slot (pr := pr) (E2 := Eq) (L' := q.lv) (c' := q.c) hy (fun i st h1 h2 => hL i st h1 h2) hc hpr
      refine heads_fin hw hh hnd' hnf.2 hfa (put_und hdl hr hsl) (by rw [AS.put_lv]; exact hL) (by rw [AS.put_c]; exact hc) hpr hfd'.2.1 (hfA.imp id fun h b hb => h b (List.mem_append_right _ hb)) (fun b hb => by rw [AS.put_n]; exact hff b (List.mem_append_right _ hb))
    have caseR : HRun P pr h q o kd x q1 → ∃ E', RepE w0 N q' a w E' := by
      rintro (⟨y, _, rfl, rfl, e⟩ | ⟨fn, args, ts, ys, res, ho, hmt, _, hdp, hpo, rfl, rfl, e⟩ | ⟨t, len, parts, el, k, es, esq, ho, hp0, ht, hz, hk, hl, hs, _, hfq, rfl, rfl, e⟩)
      · exact caseV _ hsl e
      · subst e
        rw [hd] at hh
        have hdp' : ∀ r ∈ res, r.2.2 = true := fun r hx => by simpa using List.all_eq_true.1 hdp r hx
        obtain ⟨vs, gs, hv, hq, rfl, hgn, _⟩ := hfk
        have hgA : ∀ b ∈ gs.flatten, ¬ Eq.A b := by
          intro b hb
          rcases hfA with hp | hA
          · rw [resO_flat hdp' (hpo hp) hq] at hb; cases hb
          · exact hA b (List.mem_append_left _ hb)
        obtain ⟨E2, k1, k2, k3⟩ := adoptRs (b0 := m) hw res hr (fun _ h => h.elim) hq hgn (fun b hb => ⟨hgA b hb, (hff b (List.mem_append_left _ hb)).2⟩)
        have hc' : (undL q (d :: dsts l)).c = q.c := rfl
        have hn' : (undL q (d :: dsts l)).n = q.n := rfl
        rw [hc', hn'] at k2
        rw [hc'] at k1 k3
        rw [undL_pushL] at k1 k2 k3
        rw [hn'] at k3
        obtain ⟨p1, p2, p3, p4⟩ := pushL_n (resO false res q.c) q
        have hlvn : ∀ i st, st < q.c → (q.pushL (resO false res q.c)).lv i = some st → q.lv i = some st ∧ i < q.n := by
          intro i st hst hl
          unfold AS.lv at hl
          split at hl
          · rename_i hi
            by_cases hiq : i < q.n
            · rw [p4 i hiq] at hl
              unfold AS.lv; rw [if_pos hiq]; exact ⟨hl, hiq⟩
            · obtain ⟨st', h1, h2⟩ := pushL_new _ q i (by omega) hi (resO_st false res q.c)
              rw [hl] at h1; injection h1 with h1; omega
          · cases hl
        refine heads_fin hw hh hnd' hnf.2 hfa (put_und hdl k1 (resAV_ok k2 hv)) ?_ (by rw [AS.put_c, p2]; omega) (fun hp b hb => k3.A b (hpr hp b hb)) hfd'.2.1 ?_ ?_
        · intro i st hst hl
          rw [AS.put_lv] at hl
          obtain ⟨h1, h2⟩ := hlvn i st (by omega) hl
          obtain ⟨h3, h4⟩ := hL i st hst h1
          exact ⟨h3, ((k3.same i h2).1).trans h4⟩
        · rcases hfA with hp | hA
          · exact .inl hp
          · right
            intro b hb hbA
            rcases k3.A' b hbA with h1 | h1
            · exact hA b (List.mem_append_right _ hb) h1
            · exact hfd'.2.2 b h1 b hb rfl
        · intro b hb
          obtain ⟨g1, g2⟩ := hff b (List.mem_append_right _ hb)
          refine ⟨g1, fun j hj => ?_⟩
          rw [AS.put_n] at hj
          have hbg : b ∉ gs.flatten := fun hbg => hfd'.2.2 b hbg b hb rfl
          by_cases hjq : j < q.n
          · obtain ⟨_, e2, e3⟩ := k3.same j hjq
            rw [e2, e3]; exact g2 j hjq
          · exact ⟨fun hm => hbg (k3.new j (by omega) hj b (.inl hm)), fun hm => hbg (k3.new j (by omega) hj b (.inr hm))⟩
      · subst e
        rw [hd] at hh
        obtain ⟨g, hv, rfl, hmg, hB⟩ := hfk
        obtain ⟨hg1, hg2⟩ := hff g (by simp)
        have hgA : ¬ Eq.A g := by
          rcases hfA with hp | hA
          · rw [hp0] at hp; cases hp
          · exact hA g (by simp)
        have hal : Alike q (undL q (d :: dsts l)) (parts.toList.map (·.2)) := by
          refine ⟨rfl, rfl, fun t' ht' => ?_⟩
          have h1 : t' ∈ o.looksAt ops := by
            unfold Oper.looksAt
            refine List.mem_append_left _ (List.mem_filterMap.2 ⟨.tmp t', ?_, rfl⟩)
            rw [ho, ← fill_bs]; exact ht'
          have h2 := hnf.1 t' h1
          rw [hds] at h2
          simp only [undL]
          rw [if_neg (by simpa using h2)]
        rw [← bsF_alike hal] at hfq
        obtain ⟨c1, c2⟩ := bs_cat hr hfq
        obtain ⟨hl1, hl2⟩ := bsF_len hfq
        have hpush := hr.pushOb (X := .arr q.c el k esq) (v' := .slice (some ⟨g, 0, none⟩) parts.toList.length parts.toList.length) (m' := [g]) (o' := []) rfl (Below.refl _ _)
          (fun b hb => by simp at hb; subst hb; exact ⟨hg1, hgA, fun j hj => (hg2 j hj).1⟩) (by simp) (by simp) (by
            rintro E' rfl hstay
            have hmx : esq.length ≤ maxLen := by
              have : len * 1 ≤ len * k := Nat.mul_le_mul_left _ hk
              rw [hl1, hl]; unfold maxLen; omega
            refine ⟨g, catV a parts.toList, by exact Nat.lt_succ_self _, ?_, ?_, ?_, Nat.le_trans hw hmg, hmx, hB, hk, hl2, c1.stay hstay⟩
            · show upd Eq.v q.n _ q.n = _
              rw [upd_same, hl1]
            · show upd Eq.m q.n _ q.n = _
              rw [upd_same]
            · show upd Eq.o q.n _ q.n = _
              rw [upd_same])
        rw [undL_push] at hpush
        have hqn : (undL q (d :: dsts l)).n = q.n := rfl
        rw [hqn] at hpush
        refine heads_fin hw hh hnd' hnf.2 hfa (put_und hdl hpush ?_) ?_ (by rw [AS.put_c]; simp [AS.push]; omega) (fun hp b hb => .inl (hpr hp b hb)) hfd'.2.1 ?_ ?_
        · refine slot_one_mk ⟨by simp [AS.push], fun _ => ?_⟩
          simp only [upd_same]; exact hv
        · intro i st hst hl
          rw [AS.put_lv] at hl
          unfold AS.lv AS.push at hl
          by_cases e : i = q.n
          · subst e
            simp only [upd_same, Ob.st] at hl
            split at hl
            · injection hl with hl; omega
            · cases hl
          · simp only [upd_ne _ _ e] at hl ⊢
            refine hL i st hst ?_
            unfold AS.lv
            split at hl
            · rename_i hi; rw [if_pos (by omega)]; exact hl
            · cases hl
        · rcases hfA with hp | hA
          · exact .inl hp
          · right
            intro b hb hbA
            rcases hbA with h1 | h1
            · exact hA b (List.mem_append_right _ hb) h1
            · cases h1
        · intro b hb
          obtain ⟨g1, g2⟩ := hff b (List.mem_append_right _ hb)
          refine ⟨g1, fun j hj => ?_⟩
          rw [AS.put_n] at hj
          by_cases e : j = q.n
          · subst e
            simp only [upd_same]
            exact ⟨fun hm => by simp at hm; exact hfd'.2.2 g (by simp) b hb hm.symm, by simp⟩
          · simp only [upd_ne _ _ e]
            exact g2 j (by simp [AS.push] at hj; omega)
    cases hgd : o.guard with
    | none => rw [hgd] at hst; exact caseR hst
    | some gw =>
      rw [hgd] at hst
      obtain ⟨t, b, _, _, _, hb⟩ := hst
      split at hb
      · exact caseR hb
      · obtain ⟨_, _, e⟩ := hb
        refine caseV .und trivial ?_
        rw [e]
        have : finV pr .und = .und := by unfold finV; split <;> rfl
        rw [this]
end
end Go.Proofs.Ytlcnokbhoekpkaa
