/- Operations that change objects: stores. Ownership that is handed over. No program here. -/
import Derived.Test.YtlcnokbhoekpkaaAe8
namespace Go.Proofs.Ytlcnokbhoekpkaa
open Go.RowKit
set_option linter.unusedVariables false
set_option linter.unusedSimpArgs false

def OStep (P : Program) (N : Nat) (o : Oper) (s s' : AS) : Prop :=
  ∀ w0 a w E, RepE w0 N s a w E → o.wp P a w (fun a' w' => ∃ E', RepE w0 N s' a' w' E') (fun _ _ _ => False)

section
variable {P : Program} {w0 : Cx} {w w' : World} {N : Nat} {s : AS} {a : Act} {E : En} {o : Oper}

theorem HStep.toO {x : AV} {news : List Ob} (h : HStep P o s x news) (hd : ∀ k, o.dst = some k → k < N) : OStep P N o s ((s.pushL news).put o.dst x) := by
  intro w0 a w E hr
  refine Oper.wp_mono (fun a' w' hp => ?_) (h w0 N a w E hr)
  obtain ⟨v, E', rfl, _, _, h1, h2⟩ := hp
  exact ⟨E', h1.put h2 hd⟩

/-! ### a block's cells -/
theorem Blk.setCells {g : Nat} {t : TypeId} : ∀ {us : List Value} {off : Nat} {w : World} {cs : List Value}, Blk w g t cs.toArray → Blk (w.setCells g off us) g t (putAt cs off us).toArray
  | [], off, w, cs, h => h
  | u :: us, off, w, cs, h => by
    have := h.set_ off u
    rw [List.setIfInBounds_toArray] at this
    exact Blk.setCells (us := us) (off := off + 1) this
theorem setCells_heap {g : Nat} : ∀ {us : List Value} {off : Nat} {w : World}, (w.setCells g off us).heap.size = w.heap.size ∧ (∀ k, k ≠ g → (w.setCells g off us).heap[k]? = w.heap[k]?) ∧ (w.setCells g off us).os = w.os ∧ (w.setCells g off us).tape = w.tape ∧ (w.setCells g off us).output = w.output
  | [], off, w => ⟨rfl, fun _ _ => rfl, rfl, rfl, rfl⟩
  | u :: us, off, w => by
    obtain ⟨h1, h2, h3, h4, h5⟩ := setCells_heap (g := g) (us := us) (off := off + 1) (w := w.setCell ⟨g, off, none⟩ u)
    refine ⟨h1.trans (by simp), fun k hk => (h2 k hk).trans (Below.heap_setCell w ⟨g, off, none⟩ u k (by simpa using hk)), h3.trans rfl, h4.trans rfl, h5.trans rfl⟩
theorem below_setCells {g off B : Nat} {us : List Value} (h : Below B w0 w) (hg : B ≤ g) : Below B w0 (w.setCells g off us) := by
  obtain ⟨h1, h2, h3, h4, h5⟩ := setCells_heap (g := g) (us := us) (off := off) (w := w)
  exact ⟨h3.trans h.os, h4.trans h.tape, h5.trans h.output, by rw [h1]; exact h.size, fun k hk => (h2 k (by omega)).trans (h.block k hk)⟩

theorem run_st {t : TypeId} {b off : Nat} {v : Value} (hs : tsz P t = some v.cells.toList.length) (hc : ∀ j, j < v.cells.toList.length → (w.cell? ⟨b, off + j, none⟩).isSome = true) (hf : ∀ j, w.frozen? ⟨b, j, none⟩ = false) (h1 : ∀ u ∈ v.cells.toList, u.oneCell' = true) :
    (Instr.storeAt t (.pointer (some ⟨b, off, none⟩)) v).run P w = .ok () (w.setCells b off v.cells.toList) := by
  have := run_storeCells_cells (P := P) b off v.cells.toList 0 w (fun j hj => by simpa using hc j hj) (fun j hj => hf _) h1
  have hs' : tsz P t = some v.cells.size := by simpa using hs
  simp [Instr.storeAt, Instr.sureAddr, storeVar, run_sz P hs', this]

/-! ### stores into variables -/
theorem st_var {t t' : TypeId} {x y : Operand} {i st off : Nat} {cs xs : List AC} (ho : o.op = .store t x y) (hd : o.dst = none) (hx : s.ev x = .p false [.ptr i st off]) (hi : s.own? i st = some (.var st t' cs)) (hy : cellsOk s (s.ev y) = some xs)
    (hsz : tsz P t = some xs.length) (hl : off + xs.length ≤ cs.length) : OStep P N o s { s with ob := upd s.ob i (.var st t' (plug off xs cs)) } := by
  intro w0 a w E h
  obtain ⟨hin, hob, hlv⟩ := own?_some hi
  have hp := ev_ok h x
  rw [hx] at hp
  obtain ⟨g, e1, e2⟩ := (slot_one hp).2 hlv
  have hO := h.obj i hin
  rw [hob] at hO
  obtain ⟨g', vals, hst, e3, em, eo, hge, hB, hcs⟩ := hO
  rw [e1] at e3; injection e3 with e3; injection e3 with e3; injection e3 with e3; subst e3
  obtain ⟨c1, c2⟩ := cellsOk_ok h hy (ev_ok h y)
  have hlen : (a.eval y).cells.toList.length = xs.length := c1.1.symm
  have hrun := run_st (P := P) (w := w) (b := g) (off := off) (v := a.eval y) (by rw [hlen]; exact hsz) (fun j hj => by
      rw [hB.cell]
      have : off + j < vals.length := by rw [← hcs.1]; omega
      simp [this]) (fun j => hB.frozen j) c2
  unfold Oper.wp
  have hrun' : (execOp a.eval o).run P w = .ok .skip (w.setCells g off (a.eval y).cells.toList) := by
    simp only [execOp, ho, e2]
    rw [Sem.run_bind, hrun]; rfl
  rw [hrun', Oper.upon_skip, hd]
  obtain ⟨k1, k2, k3, k4, k5⟩ := setCells_heap (g := g) (us := (a.eval y).cells.toList) (off := off) (w := w)
  have hch := h.change (i := i) (n' := s.n) (X := .var st t' (plug off xs cs)) (v' := E.v i) (m' := E.m i) (o' := E.o i) (A' := E.A) (c' := s.c) (w' := w.setCells g off (a.eval y).cells.toList) (Nat.le_refl _) (fun j hj _ => hj) hin
    (below_setCells h.bel hge) (by rw [k1]; exact Nat.le_refl _) (fun k hk hm => k2 k (fun e => hm hin (by rw [em, e]; simp))) (Nat.le_refl _) (.inl ⟨hin, by rw [hob]; rfl, rfl⟩) (fun _ hb => hb) (fun _ hb => .inl hb)
    (fun b hb => ⟨by rw [k1]; exact h.A_lt b hb, h.A_m b hb i hin, fun j hj _ => h.A_m b hb j hj⟩) (fun b hb => ⟨by rw [k1]; exact h.m_lt i hin b hb, fun j hj hne => h.mm i j hin hj (Ne.symm hne) b hb⟩)
    (fun b hb => ⟨h.A_o i hin b hb, fun j hj hne => h.oo i j hin hj (Ne.symm hne) b hb⟩) (by
      rintro s' rfl E' rfl hstay
      refine ⟨g, plug off (a.eval y).cells.toList vals, hst, by simp only [upd_same]; exact e1, by simp only [upd_same]; exact em, by simp only [upd_same]; exact eo, hge, ?_, (plug_cells (off := off) c1 hcs).stay hstay⟩
      have := hB.setCells (us := (a.eval y).cells.toList) (off := off)
      rwa [putAt_eq _ _ _ (by rw [hlen, ← hcs.1]; exact hl)] at this)
  exact ⟨_, hch⟩

/-! ### handing over ownership -/
structure GiveP (w0 : Cx) (N : Nat) (s s' : AS) (a : Act) (w : World) (E : En) (us : List Value) (ds : List DV) (E' : En) (f : List Nat) : Prop where
  rep : RepE w0 N s' a w E'
  own : OwnL w w0.heap.size us ds f
  A : ∀ b ∈ f, E'.A b
  o : ∀ b ∈ f, ∀ j, j < s'.n → b ∉ E'.o j
  from_ : ∀ b ∈ f, ∃ j, j < s.n ∧ (b ∈ E.m j ∨ b ∈ E.o j)
  v : E'.v = E.v
  m' : ∀ i, ∀ b ∈ E'.m i, b ∈ E.m i
  o' : ∀ i, ∀ b ∈ E'.o i, b ∈ E.o i
  A' : ∀ b, E.A b → E'.A b

/-- behind it the cells are owned by whoever takes them -/
def Gives (s s' : AS) (xs : List AC) (ds : List DV) : Prop :=
  s'.n = s.n ∧ s'.c = s.c ∧ s'.sl = s.sl ∧ (∀ i st, s'.lv i = some st → s.lv i = some st) ∧
    ∀ w0 N a w E us, RepE w0 N s a w E → CellsR w E s.lv s.c xs us → ∃ E' f, GiveP w0 N s s' a w E us ds E' f

theorem gives_nil : Gives s s [] [] :=
  ⟨rfl, rfl, rfl, fun _ _ h => h, fun w0 N a w E us h hc => ⟨E, [], ⟨h, by rw [hc.nil']; exact .nil, by simp, by simp, by simp, rfl, fun _ _ h => h, fun _ _ h => h, fun _ h => h⟩⟩⟩

theorem gives_sc {s' : AS} {v : Value} {xs : List AC} {ds : List DV} (h : Gives s s' xs ds) : Gives s s' (.d (.sc v) :: xs) (.sc v :: ds) := by
  obtain ⟨h1, h2, h3, h4, h5⟩ := h
  refine ⟨h1, h2, h3, h4, fun w0 N a w E us hr hc => ?_⟩
  obtain ⟨u, us, rfl, c1, c2⟩ := hc.cons'
  obtain ⟨E', f, hg⟩ := h5 w0 N a w E us hr c2
  obtain ⟨rfl, hs⟩ := RepL.scOf c1
  exact ⟨E', f, hg.rep, .sc hs hg.own, hg.A, hg.o, hg.from_, hg.v, hg.m', hg.o', hg.A'⟩

theorem gives_nilS {s' : AS} {t k : Nat} {xs : List AC} {ds : List DV} (hk : 0 < k) (h : Gives s s' xs ds) : Gives s s' (.nil :: xs) (.sl t k [] :: ds) := by
  obtain ⟨h1, h2, h3, h4, h5⟩ := h
  refine ⟨h1, h2, h3, h4, fun w0 N a w E us hr hc => ?_⟩
  obtain ⟨u, us, rfl, c1, c2⟩ := hc.cons'
  obtain ⟨E', f, hg⟩ := h5 w0 N a w E us hr c2
  obtain rfl : u = .slice none 0 0 := c1
  refine ⟨E', f, hg.rep, ?_, hg.A, hg.o, hg.from_, hg.v, hg.m', hg.o', hg.A'⟩
  have := OwnL.sl (v := .slice none 0 0) (t := t) (k := k) (es := []) (cells := []) (g := []) (World.ownsRow_nil _ _ _ _) hk (by simp) .nil hg.own (by simpa [Value.ownBlock] using hg.own.nodup)
  simpa [Value.ownBlock] using this

/-- a row of its own is frozen; its blocks are handed over -/
def AS.frz (s : AS) (i st : Nat) (x : DV) : AS := { s with ob := upd s.ob i (.frz st x) }
theorem freeze_row (h : RepE w0 N s a w E) {i st t k : Nat} {es : List (List DV)} (hi : s.own? i st = some (.row st t k es true)) :
    ∃ E', RepE w0 N (s.frz i st (.sl t k es)) a w E' ∧ OwnL w w0.heap.size [E.v i] [.sl t k es] (E.m i ++ E.o i) ∧ (∀ b ∈ E.m i ++ E.o i, E'.A b ∧ ∀ j, j < s.n → b ∉ E'.o j) ∧ E'.v = E.v ∧
      (∀ j, ∀ b ∈ E'.m j, b ∈ E.m j) ∧ (∀ j, ∀ b ∈ E'.o j, b ∈ E.o j) ∧ (∀ b, E.A b → E'.A b) := by
  obtain ⟨hin, hob, hlv⟩ := own?_some hi
  have hO := h.obj i hin
  rw [hob] at hO
  obtain ⟨cells, hst, h1, h2, h3, h4, h5⟩ := hO
  simp only [if_pos] at h5
  have hown : OwnL w w0.heap.size [E.v i] [.sl t k es] (E.m i ++ E.o i) := by
    have := OwnL.sl (vs := []) (ds := []) (f := []) h1 h2 h3 h5 .nil (by
      rw [List.append_nil, ← h4]
      refine List.nodup_append.2 ⟨?_, h5.nodup, fun b hb b' hb' e => ?_⟩
      · rw [h4]; cases (E.v i).ownBlock <;> simp
      · subst e; exact h.A_m b (h.A_o i hin b hb') i hin hb)
    rwa [List.append_nil, ← h4] at this
  refine ⟨⟨upd E.v i (E.v i), upd E.m i [], upd E.o i [], fun b => E.A b ∨ b ∈ E.m i⟩, ?_, hown, ?_, ?_, ?_, ?_, fun b hb => .inl hb⟩
  · refine h.change (i := i) (n' := s.n) (X := .frz st (.sl t k es)) (v' := E.v i) (m' := []) (o' := []) (A' := fun b => E.A b ∨ b ∈ E.m i) (c' := s.c) (Nat.le_refl _) (fun j hj _ => hj) hin
      h.bel (Nat.le_refl _) (fun _ _ _ => rfl) (Nat.le_refl _) (.inl ⟨hin, by rw [hob]; rfl, rfl⟩) (fun _ hb => .inl hb) (fun b hb => hb.imp id fun hb => (own_blk h1 (by rw [h4] at hb; simpa using hb)).1) ?_ (by simp) (by simp) ?_
    · intro b hb
      rcases hb with hb | hb
      · exact ⟨h.A_lt b hb, by simp, fun j hj _ => h.A_m b hb j hj⟩
      · exact ⟨h.m_lt i hin b hb, by simp, fun j hj hne => h.mm i j hin hj (Ne.symm hne) b hb⟩
    · rintro s' rfl E' rfl hstay
      refine ⟨hst, by simp only [upd_same], by simp only [upd_same], ?_⟩
      simp only [upd_same]
      refine hown.rep.mono fun b hb => ?_
      rcases List.mem_append.1 hb with hb | hb
      · exact .inr hb
      · exact .inl (h.A_o i hin b hb)
  · intro b hb
    rcases List.mem_append.1 hb with hb | hb
    · refine ⟨.inr hb, fun j hj hbo => ?_⟩
      by_cases e : j = i
      · subst e; simp [upd_same] at hbo
      · simp only [upd_ne _ _ e] at hbo
        exact h.A_m b (h.A_o j hj b hbo) i hin hb
    · refine ⟨.inl (h.A_o i hin b hb), fun j hj hbo => ?_⟩
      by_cases e : j = i
      · subst e; simp [upd_same] at hbo
      · simp only [upd_ne _ _ e] at hbo
        exact h.oo j i hj hin e b hbo hb
  · funext j; by_cases e : j = i
    · subst e; simp only [upd_same]
    · simp only [upd_ne _ _ e]
  · intro j b hb; by_cases e : j = i
    · subst e; simp [upd_same] at hb
    · simpa only [upd_ne _ _ e] using hb
  · intro j b hb; by_cases e : j = i
    · subst e; simp [upd_same] at hb
    · simpa only [upd_ne _ _ e] using hb

theorem frz_lv {i st t k : Nat} {es : List (List DV)} {dp : Bool} (hi : s.own? i st = some (.row st t k es dp)) : (s.frz i st (.sl t k es)).lv = s.lv := by
  obtain ⟨hin, hob, hlv⟩ := own?_some hi
  funext j
  unfold AS.lv AS.frz
  by_cases e : j = i
  · subst e; simp only [upd_same, hob, Ob.st]
  · simp only [upd_ne _ _ e]

theorem gives_own {s' : AS} {i st t k : Nat} {es : List (List DV)} {xs : List AC} {ds : List DV} (hi : s.own? i st = some (.row st t k es true)) (h : Gives (s.frz i st (.sl t k es)) s' xs ds) : Gives s s' (.own i st :: xs) (.sl t k es :: ds) := by
  obtain ⟨h1, h2, h3, h4, h5⟩ := h
  have hlv := frz_lv hi
  rw [hlv] at h4
  refine ⟨h1, h2, h3, h4, fun w0 N a w E us hr hc => ?_⟩
  obtain ⟨u, us, rfl, c1, c2⟩ := hc.cons'
  have hu : u = E.v i := c1.2 (own?_some hi).2.2
  subst hu
  obtain ⟨E1, k1, k2, k3, k4, k5, k6, k7⟩ := freeze_row hr hi
  have c2' : CellsR w E1 (s.frz i st (.sl t k es)).lv (s.frz i st (.sl t k es)).c xs us := by
    rw [hlv]
    exact c2.stay ⟨fun b hb => ⟨k7 b hb, rfl⟩, fun j st _ hl => ⟨hl, by rw [k4]⟩, Nat.le_refl _⟩
  obtain ⟨E2, f, hg⟩ := h5 w0 N a w E1 us k1 c2'
  refine ⟨E2, (E.m i ++ E.o i) ++ f, hg.rep, k2.app hg.own (fun b hb hbf => ?_), ?_, ?_, ?_, by rw [hg.v, k4], fun j b hb => k5 j b (hg.m' j b hb), fun j b hb => k6 j b (hg.o' j b hb), fun b hb => hg.A' b (k7 b hb)⟩
  · obtain ⟨j, hj, hbj⟩ := hg.from_ b hbf
    rcases hbj with hbj | hbj
    · exact k1.A_m b (k3 b hb).1 j hj hbj
    · exact (k3 b hb).2 j hj hbj
  · intro b hb
    rcases List.mem_append.1 hb with hb | hb
    · exact hg.A' b (k3 b hb).1
    · exact hg.A b hb
  · intro b hb j hj hbo
    rcases List.mem_append.1 hb with hb | hb
    · exact (k3 b hb).2 j (by rw [h1] at hj; exact hj) (hg.o' j b hbo)
    · exact hg.o b hb j hj hbo
  · intro b hb
    rcases List.mem_append.1 hb with hb | hb
    · exact ⟨i, (own?_some hi).1, List.mem_append.1 hb⟩
    · obtain ⟨j, hj, hbj⟩ := hg.from_ b hb
      exact ⟨j, hj, hbj.imp (k5 j b) (k6 j b)⟩

theorem Gives.ofFlat {xs : List AC} {ds : List DV} (h : xs = ds.map .d) (hf : Flat ds) : Gives s s xs ds := by
  subst h
  induction ds with
  | nil => exact gives_nil
  | cons d ds ih =>
    obtain ⟨v, rfl⟩ := hf d (List.mem_cons_self ..)
    exact gives_sc (ih fun d hd => hf d (List.mem_cons_of_mem _ hd))

theorem flat_plug {α : Type} {es : List (List α)} {k j off : Nat} {e ds : List α} (hk : ∀ e ∈ es, e.length = k) (he : es[j]? = some e) (hl : off + ds.length ≤ k) : (es.set j (plug off ds e)).flatten = plug (j * k + off) ds es.flatten := by
  induction es generalizing j with
  | nil => simp at he
  | cons x es ih =>
    have hx := hk x (List.mem_cons_self ..)
    cases j with
    | zero =>
      simp at he; subst he
      simp only [List.set_cons_zero, List.flatten_cons, Nat.zero_mul, Nat.zero_add, plug]
      rw [List.take_append_of_le_length (by omega), List.drop_append_of_le_length (by omega)]
      simp
    | succ j =>
      rw [List.set_cons_succ, List.flatten_cons, ih (fun e he => hk e (List.mem_cons_of_mem _ he)) (by simpa using he), List.flatten_cons]
      unfold plug
      rw [Nat.succ_mul, show j * k + k + off = x.length + (j * k + off) from by omega, List.take_length_add_append, Nat.add_assoc x.length, List.drop_length_add_append]
      simp

/-- a store into an element of a row of its own -/
theorem st_row {t t' : TypeId} {x y : Operand} {i st k j off : Nat} {es : List (List DV)} {e ds : List DV} {xs : List AC} {s' : AS} (ho : o.op = .store t x y) (hd : o.dst = none) (hx : s.ev x = .p false [.elt i st k j off])
    (hi : s.own? i st = some (.row st t' k es true)) (he : es[j]? = some e) (hy : cellsOk s (s.ev y) = some xs) (hsz : tsz P t = some xs.length) (hl : off + xs.length ≤ k) (hgv : Gives s s' xs ds) (hi' : s'.own? i st = some (.row st t' k es true)) :
    OStep P N o s { s' with ob := upd s'.ob i (.row st t' k (es.set j (plug off ds e)) true) } := by
  intro w0 a w E h0
  have hp := ev_ok h0 x
  rw [hx] at hp
  obtain ⟨g, n, cp, e1, e2⟩ := (slot_one hp).2 (own?_some hi).2.2
  obtain ⟨c1, c2⟩ := cellsOk_ok h0 hy (ev_ok h0 y)
  obtain ⟨hn, hcc, _, _, hgv⟩ := hgv
  obtain ⟨E1, f, hg⟩ := hgv w0 N a w E _ h0 c1
  have h := hg.rep
  obtain ⟨hin, hob, hlv⟩ := own?_some hi'
  have hO := h.obj i hin
  rw [hob] at hO
  obtain ⟨cells, hst, h1, h2, h3, h4, h5⟩ := hO
  simp only [if_pos] at h5
  have hEv : E1.v i = .slice (some ⟨g, 0, none⟩) n cp := by rw [hg.v]; exact e1
  obtain ⟨A', c', hv', _, _⟩ := own_shape h1
  rw [hEv] at hv'; injection hv' with _ hnn _
  subst hnn
  rw [hEv] at h1 h4
  simp only [Value.ownBlock, Option.toList_some] at h4
  have hlen : (a.eval y).cells.toList.length = xs.length := c1.1.symm
  have hdl : ds.length = xs.length := by have := hg.own.rep.len; omega
  have hj : j < es.length := (List.getElem?_eq_some_iff.1 he).1
  have hcl : cells.length = es.length * k := h1.1
  have hjk : (j + 1) * k ≤ es.length * k := Nat.mul_le_mul_right _ hj
  rw [Nat.succ_mul] at hjk
  have hrun := run_st (P := P) (w := w) (b := g) (off := j * k + off) (v := a.eval y) (by rw [hlen]; exact hsz) (fun q hq => by
      have := h1.cellAt (j * k + off + q) (by omega)
      rw [this, List.getElem?_eq_getElem (by omega)]; rfl) (fun q => h1.frozenAt q) c2
  unfold Oper.wp
  have hrun' : (execOp a.eval o).run P w = .ok .skip (w.setCells g (j * k + off) (a.eval y).cells.toList) := by
    simp only [execOp, ho, e2]
    rw [Sem.run_bind, hrun]; rfl
  rw [hrun', Oper.upon_skip, hd]
  obtain ⟨k1, k2, k3, k4, k5⟩ := setCells_heap (g := g) (us := (a.eval y).cells.toList) (off := j * k + off) (w := w)
  have hge : w0.heap.size ≤ g := (own_blk h1 rfl).1
  obtain ⟨p1, p2⟩ := own_setCells (a.eval y).cells.toList w cells (j * k + off) h1
  rw [putAt_eq _ _ _ (by omega)] at p1
  -- what the row's elements own
  obtain ⟨f1, f2, hf12, q1, q2⟩ := h5.split (j * k + off)
  obtain ⟨f3, f4, hf34, q3, q4⟩ := q2.split (xs.length)
  have hsub4 : ∀ b ∈ f4, b ∈ E1.o i := by intro b hb; rw [hf12, hf34]; simp [hb]
  have hsub1 : ∀ b ∈ f1, b ∈ E1.o i := by intro b hb; rw [hf12]; simp [hb]
  have hfo : ∀ b ∈ f, b ∉ E1.o i := fun b hb => hg.o b hb i hin
  have hnd : (E1.o i).Nodup := h5.nodup
  have hnew : OwnL w w0.heap.size (cells.take (j * k + off) ++ (a.eval y).cells.toList ++ cells.drop (j * k + off + (a.eval y).cells.toList.length)) ((es.set j (plug off ds e)).flatten) (f1 ++ f ++ f4) := by
    rw [flat_plug h3 he (by omega)]
    unfold plug
    rw [List.drop_drop] at q4
    refine ((q1.app hg.own (fun b hb hbf => hfo b hbf (hsub1 b hb))).app ?_ (fun b hb hb4 => ?_))
    · rw [hlen, hdl]; rw [List.drop_drop] at q4; exact q4
    · rcases List.mem_append.1 hb with hb | hb
      · rw [hf12, hf34] at hnd
        exact (List.nodup_append.1 hnd).2.2 b hb b (List.mem_append_right _ hb4) rfl
      · exact hfo b hb (hsub4 b hb4)
  have hch := h.change (i := i) (n' := s'.n) (X := .row st t' k (es.set j (plug off ds e)) true) (v' := E1.v i) (m' := E1.m i) (o' := f1 ++ f ++ f4) (A' := E1.A) (c' := s'.c) (w' := w.setCells g (j * k + off) (a.eval y).cells.toList) (Nat.le_refl _) (fun j hj _ => hj) hin
    (below_setCells h.bel hge) (by rw [k1]; exact Nat.le_refl _) (fun q hk hm => k2 q (fun e => hm hin (by rw [h4, e]; simp))) (Nat.le_refl _) (.inl ⟨hin, by rw [hob]; rfl, rfl⟩) (fun _ hb => hb) (fun _ hb => .inl hb)
    (fun b hb => ⟨by rw [k1]; exact h.A_lt b hb, h.A_m b hb i hin, fun j hj _ => h.A_m b hb j hj⟩) (fun b hb => ⟨by rw [k1]; exact h.m_lt i hin b hb, fun j hj hne => h.mm i j hin hj (Ne.symm hne) b hb⟩)
    (fun b hb => by
      simp only [List.mem_append] at hb
      rcases hb with (hb | hb) | hb
      · exact ⟨h.A_o i hin b (hsub1 b hb), fun j hj hne => h.oo i j hin hj (Ne.symm hne) b (hsub1 b hb)⟩
      · exact ⟨hg.A b hb, fun j hj _ => hg.o b hb j hj⟩
      · exact ⟨h.A_o i hin b (hsub4 b hb), fun j hj hne => h.oo i j hin hj (Ne.symm hne) b (hsub4 b hb)⟩) (by
      rintro s'' rfl E' rfl hstay
      refine ⟨_, hst, by simp only [upd_same, List.length_set, hEv]; exact p1, h2, fun e' he' => ?_, by simp only [upd_same, hEv]; exact h4, ?_⟩
      · rcases List.mem_or_eq_of_mem_set he' with he' | rfl
        · exact h3 e' he'
        · have := h3 e (List.mem_of_getElem? he)
          rw [plug_len (by omega)]; exact this
      · simp only [if_pos, upd_same]
        refine hnew.keep fun b hb => k2 b fun e => ?_
        have hA : E1.A b := by
          simp only [List.mem_append] at hb
          rcases hb with (hb | hb) | hb
          · exact h.A_o i hin b (hsub1 b hb)
          · exact hg.A b hb
          · exact h.A_o i hin b (hsub4 b hb)
        exact h.A_m b hA i hin (by rw [h4, e]; simp))
  exact ⟨_, hch⟩
end
end Go.Proofs.Ytlcnokbhoekpkaa
