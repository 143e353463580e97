/- The values of operations are right. No program here. -/
import Derived.Test.YtlcnokbhoekpkaaAe4
namespace Go.Proofs.Ytlcnokbhoekpkaa
open Go.RowKit
set_option linter.unusedVariables false
set_option linter.unusedSimpArgs false

section
variable {P : Program} {w0 : Cx} {w : World} {N : Nat} {s : AS} {a : Act} {E : En}

theorem own?_some {i st : Nat} {x : Ob} (h : s.own? i st = some x) : i < s.n ∧ s.ob i = x ∧ s.lv i = some st := by
  unfold AS.own? at h
  split at h
  · rename_i hi
    split at h
    · rename_i hs; injection h with h; exact ⟨hi, h, lv_of hi hs⟩
    · cases h
  · cases h

theorem ldV_ok {L : Nat → Option Nat} {c : Nat} {t : TypeId} {cs : List AC} {vals : List Value} {b off : Nat} {x : AV} (h : ldV P t cs = some x) (hc : CellsR w E L c cs vals) (ha : At w b off vals) :
    ∃ v, (Instr.loadAt t (.pointer (some ⟨b, off, none⟩))).run P w = .ok v w ∧ SlotR w E L c x v := by
  unfold ldV at h
  split at h
  · rename_i hg
    split at h
    · rename_i k hk
      split at h
      · rename_i hl
        injection h with h; subst h
        have hlen : (vals.take k).length = k := by rw [List.length_take, ← hc.1]; omega
        refine ⟨.agg (vals.take k).toArray, run_ld_agg P hg (by rw [hlen]; exact hk) ?_, vals.take k, rfl, hc.take k⟩
        have := at_sub (i := 0) (k := k) ha
        simpa using this
      · cases h
    · cases h
  · rename_i hg
    split at h
    · rename_i c0 r
      injection h with h; subst h
      obtain ⟨u, us, rfl, h1, h2⟩ := hc.cons'
      exact ⟨u, run_ld_one P hg (by have := ha 0 u rfl; simpa using this), slot_one_mk h1⟩
    · cases h
  · cases h

theorem row_elem (h : RepE w0 N s a w E) {i st t k : Nat} {es : List (List DV)} {dp : Bool} (hi : i < s.n) (ho : s.ob i = .row st t k es dp) {j : Nat} {e : List DV} (he : es[j]? = some e) :
    ∃ g n cp vals, E.v i = .slice (some ⟨g, 0, none⟩) n cp ∧ RepL w E.A vals e ∧ At w g (j * k) vals ∧ n = es.length := by
  have h1 := h.obj i hi
  rw [ho] at h1
  obtain ⟨cells, _, h2, h3, h4, h5, h6⟩ := h1
  have hj : j < es.length := (List.getElem?_eq_some_iff.1 he).1
  obtain ⟨g, cap, hv, _, _⟩ := h2.form (by omega)
  have hr : RepL w E.A cells es.flatten := by
    split at h6
    · exact h6.rep.mono fun b hb => h.A_o i hi b hb
    · exact h6.2
  refine ⟨g, es.length, cap, (cells.drop (j * k)).take k, hv, ?_, ?_, rfl⟩
  · have := (hr.drop (j * k)).take k
    rwa [flat_at h4 he] at this
  · have hat : At w g 0 cells := by
      rw [hv] at h2
      intro q u hu
      have := h2.cells (g := g) rfl q u hu
      rw [add_head] at this
      rw [Nat.zero_add]; exact this
    have := at_sub (i := j * k) (k := k) hat
    rwa [Nat.zero_add] at this

theorem arr_elem (h : RepE w0 N s a w E) {i st t k : Nat} {es : List (List AC)} (hi : i < s.n) (ho : s.ob i = .arr st t k es) {j : Nat} {e : List AC} (he : es[j]? = some e) :
    ∃ g n cp vals, E.v i = .slice (some ⟨g, 0, none⟩) n cp ∧ CellsR w E s.lv s.c e vals ∧ At w g (j * k) vals ∧ n = es.length := by
  have h1 := h.obj i hi
  rw [ho] at h1
  obtain ⟨g, vals, _, hv, h2, h3, h4, h5, h6, h7, h8, h9⟩ := h1
  refine ⟨g, _, _, (vals.drop (j * k)).take k, hv, ?_, ?_, rfl⟩
  · have := (h9.drop (j * k)).take k
    rwa [flat_at h8 he] at this
  · have hat : At w g 0 vals := by simpa using blk_at h6 0
    have := at_sub (i := j * k) (k := k) hat
    rwa [Nat.zero_add] at this

theorem at_drop {b off k : Nat} {vals : List Value} (h : At w b off vals) : At w b (off + k) (vals.drop k) := by
  intro j u hu
  rw [List.getElem?_drop] at hu
  rw [Nat.add_assoc]; exact h _ u hu

theorem ldA_ok (h : RepE w0 N s a w E) {t : TypeId} {y x : AV} {v : Value} (hx : ldA P s t y = some x) (hy : SlotR w E s.lv s.c y v) :
    ∃ u, (Instr.loadAt t v).run P w = .ok u w ∧ SlotR w E s.lv s.c x u := by
  unfold ldA at hx
  split at hx
  · rename_i i st off
    split at hx
    · rename_i st' t' cs ho
      obtain ⟨hi, ho, hl⟩ := own?_some ho
      obtain ⟨g, e1, rfl⟩ := (slot_one hy).2 hl
      have h1 := h.obj i hi
      rw [ho] at h1
      obtain ⟨g', vals, _, e2, _, _, _, hB, hcs⟩ := h1
      rw [e1] at e2
      injection e2 with e2; injection e2 with e2; injection e2 with e2; subst e2
      exact ldV_ok hx (hcs.drop off) (blk_at hB off)
    · cases hx
  · rename_i i st k j off
    split at hx
    · rename_i st' t' k' es dp ho
      obtain ⟨hi, ho, hl⟩ := own?_some ho
      split at hx
      · rename_i hk; subst hk
        split at hx
        · rename_i e he
          obtain ⟨g, n, cp, e1, rfl⟩ := (slot_one hy).2 hl
          obtain ⟨g', n', cp', vals, e2, hr, hat, _⟩ := row_elem h hi ho he
          rw [e1] at e2
          injection e2 with e2; injection e2 with e2; injection e2 with e2; subst e2
          have := at_drop (k := off) hat
          exact ldV_ok hx (CellsR.ofRep (hr.drop off)) this
        · cases hx
      · cases hx
    · rename_i st' t' k' es ho
      obtain ⟨hi, ho, hl⟩ := own?_some ho
      split at hx
      · rename_i hk; subst hk
        split at hx
        · rename_i e he
          obtain ⟨g, n, cp, e1, rfl⟩ := (slot_one hy).2 hl
          obtain ⟨g', n', cp', vals, e2, hr, hat, _⟩ := arr_elem h hi ho he
          rw [e1] at e2
          injection e2 with e2; injection e2 with e2; injection e2 with e2; subst e2
          exact ldV_ok hx (hr.drop off) (at_drop (k := off) hat)
        · cases hx
      · cases hx
    · cases hx
  · rename_i cs
    obtain ⟨b, off, vals, rfl, _, hr, hat⟩ := slot_one hy
    exact ldV_ok hx (CellsR.ofRep hr) hat
  · cases hx

theorem faV_ok (h : RepE w0 N s a w E) {t : TypeId} {f : Nat} {y x : AV} {v : Value} (hx : faV P s t f y = some x) (hy : SlotR w E s.lv s.c y v) :
    ∃ u, (Instr.fieldAt t v f).run P w = .ok u w ∧ SlotR w E s.lv s.c x u := by
  unfold faV at hx
  split at hx
  · rename_i fo k ag hf
    split at hx
    · rename_i hk
      split at hx
      · rename_i i st off
        split at hx
        · rename_i hs
          injection hx with hx; subst hx
          obtain ⟨ob, ho⟩ := Option.isSome_iff_exists.1 hs
          obtain ⟨hi, ho, hl⟩ := own?_some ho
          have hc := slot_one hy
          obtain ⟨g, e1, rfl⟩ := hc.2 hl
          exact ⟨_, run_fa P hf hk, slot_one_mk ⟨hc.1, fun _ => ⟨g, e1, rfl⟩⟩⟩
        · cases hx
      · rename_i i st k' j off
        split at hx
        · rename_i hs
          injection hx with hx; subst hx
          obtain ⟨ob, ho⟩ := Option.isSome_iff_exists.1 hs
          obtain ⟨hi, ho, hl⟩ := own?_some ho
          have hc := slot_one hy
          obtain ⟨g, n, cp, e1, rfl⟩ := hc.2 hl
          exact ⟨_, run_fa P hf hk, slot_one_mk ⟨hc.1, fun _ => ⟨g, n, cp, e1, by rw [Nat.add_assoc]⟩⟩⟩
        · cases hx
      · rename_i cs
        injection hx with hx; subst hx
        obtain ⟨b, off, vals, rfl, hA, hr, hat⟩ := slot_one hy
        exact ⟨_, run_fa P hf hk, slot_one_mk ⟨b, off + fo, vals.drop fo, rfl, hA, hr.drop fo, at_drop hat⟩⟩
      · cases hx
    · cases hx
  · cases hx

theorem fvV_ok {L : Nat → Option Nat} {c : Nat} {t : TypeId} {f : Nat} {y x : AV} {v : Value} (hx : fvV P t f y = some x) (hy : SlotR w E L c y v) :
    ∃ u, (Instr.field t v f).run P w = .ok u w ∧ SlotR w E L c x u := by
  unfold fvV at hx
  split at hx
  · rename_i fo k cs hf
    split at hx
    · rename_i hl
      injection hx with hx; subst hx
      obtain ⟨vals, rfl, hc⟩ := slot_agg hy
      exact ⟨_, (run_fv P hf).1 rfl, _, rfl, (hc.drop fo).take k⟩
    · cases hx
  · rename_i fo k cs hf
    split at hx
    · rename_i c' hc'
      injection hx with hx; subst hx
      obtain ⟨vals, rfl, hc⟩ := slot_agg hy
      have hlt : fo < vals.length := by rw [← hc.1]; exact (List.getElem?_eq_some_iff.1 hc').1
      exact ⟨vals[fo], (run_fv P hf).2 rfl _ (List.getElem?_eq_getElem hlt), slot_one_mk (hc.2 fo _ _ hc' (List.getElem?_eq_getElem hlt))⟩
    · cases hx
  · cases hx

theorem idxV_ok (h : RepE w0 N s a w E) {t : TypeId} {c : AC} {i : Int} {ki : IntKind} {x : AV} {v : Value} (hx : idxV P s t c i = some x) (hy : CellR w E s.lv s.c c v) :
    ∃ u, (Instr.indexAt t v (.int ki i)).run P w = .ok u w ∧ SlotR w E s.lv s.c x u := by
  unfold idxV at hx
  split at hx
  · rename_i hi0
    obtain ⟨j, rfl⟩ := Int.eq_ofNat_of_zero_le hi0
    simp only [Int.toNat_natCast] at hx
    split at hx
    · rename_i el k' t' k es ht
      split at hx
      · rename_i hk; subst hk
        split at hx
        · rename_i e he
          injection hx with hx; subst hx
          obtain ⟨b, off, cp, vals, rfl, hj, hA, h0, h1, hr, hat⟩ := RepL.elem hy he
          exact ⟨_, run_ia P ht hj, slot_one_mk ⟨b, _, vals, rfl, hA, hr, hat⟩⟩
        · cases hx
      · cases hx
    · rename_i el k' id st ht
      split at hx
      · rename_i st' t' k es dp ho
        obtain ⟨hi, ho, hl⟩ := own?_some ho
        split at hx
        · rename_i hk; obtain ⟨rfl, hj⟩ := hk
          injection hx with hx; subst hx
          obtain ⟨g, n, cp, vals, e1, _, _, e2⟩ := row_elem h hi ho (List.getElem?_eq_getElem hj)
          subst e2
          have := hy.2 hl; subst this
          rw [e1]
          refine ⟨_, run_ia P ht hj, slot_one_mk ⟨hy.1, fun _ => ⟨g, _, _, e1, by simp⟩⟩⟩
        · cases hx
      · rename_i st' t' k es ho
        obtain ⟨hi, ho, hl⟩ := own?_some ho
        split at hx
        · rename_i hk; obtain ⟨rfl, hj⟩ := hk
          injection hx with hx; subst hx
          obtain ⟨g, n, cp, vals, e1, _, _, e2⟩ := arr_elem h hi ho (List.getElem?_eq_getElem hj)
          subst e2
          have := hy.2 hl; subst this
          rw [e1]
          refine ⟨_, run_ia P ht hj, slot_one_mk ⟨hy.1, fun _ => ⟨g, _, _, e1, by simp⟩⟩⟩
        · cases hx
      · rename_i st' t' k es ho
        obtain ⟨hi, ho, hl⟩ := own?_some ho
        split at hx
        · rename_i hk; subst hk
          split at hx
          · rename_i e he
            injection hx with hx; subst hx
            have := hy.2 hl; subst this
            obtain ⟨b, off, cp, vals, e1, hj, hA, h0, h1, hr, hat⟩ := RepL.elem (frz_rd h hi ho) he
            rw [e1]
            exact ⟨_, run_ia P ht hj, slot_one_mk ⟨b, _, vals, rfl, hA, hr, hat⟩⟩
          · cases hx
        · cases hx
      · cases hx
    · cases hx
  · cases hx

theorem tel_u {t el : TypeId} {k : Nat} (h : tel P t = some (el, k)) : P.underlying t = some (.slice el) ∧ tsz P el = some k := by
  unfold tel at h
  split at h
  · rename_i e hu
    cases hz : tsz P e with
    | none => simp [hz] at h
    | some k' => simp [hz] at h; obtain ⟨rfl, rfl⟩ := h; exact ⟨hu, hz⟩
  · cases h

theorem lenV_ok (h : RepE w0 N s a w E) {t ty : TypeId} {c : AC} {n : Nat} {v : Value} (hx : lenV P s t c = some n) (hy : CellR w E s.lv s.c c v) :
    (Builtin.len_ #[t] ty #[v]).run P w = .ok (.int .i64 n) w := by
  have key : ∀ (A : Option Addr) (m cp : Nat), (tel P t).isSome = true → (Builtin.len_ #[t] ty #[.slice A m cp]).run P w = .ok (.int .i64 m) w := by
    intro A m cp hs
    obtain ⟨⟨el, k⟩, ht⟩ := Option.isSome_iff_exists.1 hs
    simp [Builtin.len_, run_underlying (tel_u ht).1, goInt]
  unfold lenV at hx
  split at hx
  · rename_i b
    split at hx
    · rename_i hu
      injection hx with hx; subst hx
      have := (RepL.scOf hy).1; subst this
      simp [Builtin.len_, run_underlying hu, goInt]
    · cases hx
  · split at hx
    · rename_i hs
      injection hx with hx; subst hx
      obtain ⟨A, cp, rfl, _, _⟩ := RepL.slShape hy
      exact key _ _ _ hs
    · cases hx
  · split at hx
    · rename_i hs
      injection hx with hx; subst hx
      obtain rfl : v = .slice none 0 0 := hy
      exact key _ _ _ hs
    · cases hx
  · split at hx
    · rename_i hs
      split at hx
      · rename_i ho
        obtain ⟨hi, ho, hl⟩ := own?_some ho
        injection hx with hx; subst hx
        have := hy.2 hl; subst this
        obtain ⟨A, cp, e1, _, _⟩ := RepL.slShape (row_rd h hi ho)
        rw [e1]; exact key _ _ _ hs
      · rename_i ho
        obtain ⟨hi, ho, hl⟩ := own?_some ho
        injection hx with hx; subst hx
        have := hy.2 hl; subst this
        have h1 := h.obj _ hi
        rw [ho] at h1
        obtain ⟨g, vals, _, e1, _⟩ := h1
        rw [e1]; exact key _ _ _ hs
      · rename_i ho
        obtain ⟨hi, ho, hl⟩ := own?_some ho
        injection hx with hx; subst hx
        have := hy.2 hl; subst this
        obtain ⟨A, cp, e1, _, _⟩ := RepL.slShape (frz_rd h hi ho)
        rw [e1]; exact key _ _ _ hs
      · cases hx
    · cases hx
  · cases hx

theorem chV_ok {L : Nat → Option Nat} {c : Nat} {t : TypeId} {y z x : AV} {u v : Value} (hx : chV P t y z = some x) (hy : SlotR w E L c y u) (hz : SlotR w E L c z v) :
    ∃ r, (Instr.index t u v).run P w = .ok r w ∧ SlotR w E L c x r := by
  unfold chV at hx
  split at hx
  · rename_i b k i
    split at hx
    · rename_i hu
      split at hx
      · rename_i hi
        split at hx
        · rename_i ch hb
          injection hx with hx; subst hx
          have e1 := slot_sc hy; have e2 := slot_sc hz
          subst e1 e2
          refine ⟨_, ?_, slot_sc_mk (by trivial)⟩
          simp [Instr.index, run_underlying hu, asIntOf, hi, hb]
        · cases hx
      · cases hx
    · cases hx
  · cases hx

theorem xtV_ok {L : Nat → Option Nat} {c ix : Nat} {y x : AV} {v : Value} (hx : xtV ix y = some x) (hy : SlotR w E L c y v) :
    ∃ u, (Instr.extract v ix).run P w = .ok u w ∧ SlotR w E L c x u := by
  unfold xtV at hx
  split at hx
  · rename_i xs
    split at hx
    · rename_i b cs hb
      injection hx with hx; subst hx
      obtain ⟨vs, rfl, hl, hr⟩ := hy
      have hlt : ix < vs.length := by rw [← hl]; exact (List.getElem?_eq_some_iff.1 hb).1
      refine ⟨vs[ix], ?_, hr ix b cs _ hb (List.getElem?_eq_getElem hlt)⟩
      simp [Instr.extract, hlt]
    · cases hx
  · cases hx

theorem evI_ok (h : RepE w0 N s a w E) {x : Option Operand} {r : Option Int} (hx : s.evI x = some r) : (x = none ∧ r = none) ∨ ∃ y k i, x = some y ∧ r = some i ∧ a.eval y = .int k i := by
  cases x with
  | none => simp only [AS.evI] at hx; injection hx with hx; exact .inl ⟨rfl, hx.symm⟩
  | some y =>
    right
    simp only [AS.evI] at hx
    split at hx
    · rename_i k i he
      injection hx with hx; subst hx
      have := ev_ok h y
      rw [he] at this
      exact ⟨y, k, i, rfl, rfl, slot_sc this⟩
    · cases hx

theorem cut_run (h : RepE w0 N s a w E) {isS : Bool} {lo hi : Option Operand} {l' h' : Option Int} {len cap l r : Nat} (h1 : s.evI lo = some l') (h2 : s.evI hi = some h') (hc : cutF l' h' len = some (l, r)) (hcap : len ≤ cap) :
    (Instr.sliceBounds isS len cap (lo.map a.eval) (hi.map a.eval) none).run P w = .ok (l, r, cap) w ∧ l ≤ r ∧ r ≤ len := by
  unfold cutF at hc
  split at hc
  · rename_i hb
    injection hc with hc; injection hc with e1 e2
    rcases evI_ok h h1 with ⟨rfl, rfl⟩ | ⟨y, k, i, rfl, rfl, ey⟩ <;> rcases evI_ok h h2 with ⟨rfl, rfl⟩ | ⟨y2, k2, i2, rfl, rfl, ey2⟩
    · simp at hb e1 e2
      subst e1 e2
      exact ⟨by simp [Instr.sliceBounds], Nat.zero_le _, by simp⟩
    · simp at hb e1 e2
      subst e1 e2
      refine ⟨?_, Nat.zero_le _, by omega⟩
      simp [Instr.sliceBounds, ey2, run_sliceBound w k2 i2 cap _ (by omega) (by omega)]
    · simp at hb e1 e2
      subst e1 e2
      refine ⟨?_, by simp; omega, by simp⟩
      simp [Instr.sliceBounds, ey, run_sliceBound w k i len _ (by omega) (by omega)]
    · simp at hb e1 e2
      subst e1 e2
      refine ⟨?_, by omega, by omega⟩
      simp [Instr.sliceBounds, ey, ey2, run_sliceBound w k2 i2 cap _ (by omega) (by omega), run_sliceBound w k i i2.toNat _ (by omega) (by omega)]
  · cases hc

theorem flat_cut {α : Type} {es : List (List α)} {k l m : Nat} (hk : ∀ e ∈ es, e.length = k) : ((es.drop l).take m).flatten = (es.flatten.drop (l * k)).take (m * k) := by
  induction es generalizing l m with
  | nil => simp
  | cons e es ih =>
    have he := hk e (List.mem_cons_self ..)
    have hk' : ∀ e ∈ es, e.length = k := fun e he => hk e (List.mem_cons_of_mem _ he)
    cases l with
    | zero =>
      cases m with
      | zero => simp
      | succ m =>
        have := ih (l := 0) (m := m) hk'
        simp only [List.drop_zero, Nat.zero_mul] at this
        simp only [List.drop_zero, Nat.zero_mul, List.take_succ_cons, List.flatten_cons, this]
        have h3 : e.take (m * k + k) = e := List.take_of_length_le (by omega)
        rw [Nat.succ_mul, List.take_append, h3, he, Nat.add_sub_cancel]
    | succ l =>
      rw [List.drop_succ_cons, ih hk', List.flatten_cons, Nat.succ_mul, Nat.add_comm (l * k) k, ← List.drop_drop, ← he, List.drop_left]

theorem slcV_ok (h : RepE w0 N s a w E) {t : TypeId} {y x : AV} {v : Value} {lo hi : Option Operand} {l' h' : Option Int} (h1 : s.evI lo = some l') (h2 : s.evI hi = some h') (hx : slcV P s t y l' h' = some x) (hy : SlotR w E s.lv s.c y v) :
    ∃ u, (Instr.sliceAt t v (lo.map a.eval) (hi.map a.eval) none).run P w = .ok u w ∧ SlotR w E s.lv s.c x u := by
  unfold slcV at hx
  split at hx
  · rename_i b
    split at hx
    · rename_i l r hu hc
      injection hx with hx; subst hx
      have e1 := slot_sc hy; subst e1
      obtain ⟨hr, _, _⟩ := cut_run (P := P) (isS := false) h h1 h2 hc (Nat.le_refl _)
      refine ⟨_, ?_, slot_sc_mk trivial⟩
      simp [Instr.sliceAt, Instr.slice, run_underlying hu, hr]
    · cases hx
  · rename_i ty k es
    split at hx
    · rename_i el k' l r ht hc
      split at hx
      · rename_i hk; subst hk
        injection hx with hx; subst hx
        have hy' := slot_one hy
        obtain ⟨A, cp, rfl, hcp, hmx⟩ := RepL.slShape hy'
        obtain ⟨hr, hlr, hrl⟩ := cut_run (P := P) (isS := true) h h1 h2 hc hcp
        obtain ⟨hu, hz⟩ := tel_u ht
        refine ⟨_, by simp [Instr.sliceAt, Instr.slice, run_underlying hu, hr, run_sz P hz]; rfl, slot_one_mk ?_⟩
        show RepL w E.A _ _
        rcases Nat.eq_zero_or_pos (r - l) with h0 | h0
        · rw [h0]
          rw [List.take_zero]
          exact .sl0 (by unfold maxLen at *; omega) .nil
        · have hne : ¬ cp = l := by omega
          rw [if_neg hne]
          have hy2 := hy'
          generalize hn : es.length = n at hy2 hcp hrl hc hr
          cases hy2 with
          | sl0 => omega
          | @sl b off n c t k es cells vs ds g1 g2 g3 g4 g5 g6 g7 g8 g9 g10 =>
            have hadd : (⟨b, off, none⟩ : Addr).add (l * k') = ⟨b, off + l * k', none⟩ := by unfold Addr.add; split <;> simp_all
            simp only [Option.map_some, hadd]
            have hl' : ((es.drop l).take (r - l)).length = r - l := by rw [List.length_take, List.length_drop]; omega
            refine .sl g1 hl'.symm h0 (by omega) (by omega) g6 (fun e he => g7 e (List.mem_of_mem_drop (List.mem_of_mem_take he))) (cells := (cells.drop (l * k')).take ((r - l) * k')) ?_ (at_sub g9) .nil
            rw [flat_cut g7]
            exact (g8.drop _).take _
      · cases hx
    · cases hx
  · cases hx

/-- THE VALUE IS RIGHT -/
theorem hV_ok {o : Oper} {x : AV} (hx : hV P s o.op = some x) : HStep P o s x [] := by
  refine HStep.of_run fun w0 N a w E h => ?_
  unfold hV at hx
  split at hx
  · rename_i y ho; injection hx with hx; subst hx
    exact ⟨_, by simp [execOp, ho], ev_ok h y⟩
  · rename_i y ho; injection hx with hx; subst hx
    exact ⟨_, by simp [execOp, ho], ev_ok h y⟩
  · rename_i c y z ho
    unfold pkV at hx
    split at hx
    · rename_i b hb
      injection hx with hx; subst hx
      have e1 := ev_ok h c
      rw [hb] at e1
      have e1 := slot_sc e1
      refine ⟨if b then a.eval y else a.eval z, by simp [execOp, ho, e1, asBool], ?_⟩
      cases b
      · exact ev_ok h z
      · exact ev_ok h y
    · cases hx
  · rename_i t y ho
    obtain ⟨u, h1, h2⟩ := ldA_ok h hx (ev_ok h y)
    exact ⟨u, by simp [execOp, ho, h1], h2⟩
  · rename_i t y f ho
    obtain ⟨u, h1, h2⟩ := faV_ok h hx (ev_ok h y)
    exact ⟨u, by simp [execOp, ho, h1], h2⟩
  · rename_i t y f ho
    obtain ⟨u, h1, h2⟩ := fvV_ok hx (ev_ok h y)
    exact ⟨u, by simp [execOp, ho, h1], h2⟩
  · rename_i t y ix ho
    split at hx
    · rename_i c k i h3 h4
      have e1 := ev_ok h y; have e2 := ev_ok h ix
      rw [h3] at e1; rw [h4] at e2
      have := slot_sc e2
      obtain ⟨u, h5, h6⟩ := idxV_ok (ki := k) h hx (slot_one e1)
      exact ⟨u, by simp [execOp, ho, this, h5], h6⟩
    · cases hx
  · rename_i t y ix ho
    obtain ⟨u, h1, h2⟩ := chV_ok (P := P) hx (ev_ok h y) (ev_ok h ix)
    exact ⟨u, by simp [execOp, ho, h1], h2⟩
  · rename_i op t y z ty ho
    unfold binV at hx
    split at hx
    · rename_i p q h3 h4
      split at hx
      · rename_i v hb
        injection hx with hx; subst hx
        have e1 := ev_ok h y; have e2 := ev_ok h z
        rw [h3] at e1; rw [h4] at e2
        have e1 := slot_sc e1; have e2 := slot_sc e2
        obtain ⟨h5, h6⟩ := binF_ok hb y z w
        refine ⟨v, ?_, slot_sc_mk h6⟩
        simp only [execOp, ho, e1, e2]
        rw [Sem.run_bind, h5]; rfl
      · cases hx
    · cases hx
  · rename_i op t y ho
    unfold unV at hx
    split at hx
    · rename_i p h3
      split at hx
      · rename_i v hb
        injection hx with hx; subst hx
        have e1 := ev_ok h y
        rw [h3] at e1
        have e1 := slot_sc e1
        obtain ⟨h5, h6⟩ := unF_ok (P := P) hb w
        exact ⟨v, by simp [execOp, ho, e1, h5], slot_sc_mk h6⟩
      · cases hx
    · cases hx
  · rename_i t1 t2 y ho
    unfold cvV at hx
    split at hx
    · rename_i p h3
      split at hx
      · rename_i v hb
        injection hx with hx; subst hx
        have e1 := ev_ok h y
        rw [h3] at e1
        have e1 := slot_sc e1
        obtain ⟨h5, h6⟩ := cvF_ok (P := P) hb w
        exact ⟨v, by simp [execOp, ho, e1, h5], slot_sc_mk h6⟩
      · cases hx
    · cases hx
  · rename_i y ix ho
    obtain ⟨u, h1, h2⟩ := xtV_ok (P := P) hx (ev_ok h y)
    exact ⟨u, by simp [execOp, ho, h1], h2⟩
  · rename_i t y lo hi ho
    split at hx
    · rename_i l r h3 h4
      obtain ⟨u, h1, h2⟩ := slcV_ok h h3 h4 hx (ev_ok h y)
      exact ⟨u, by simp [execOp, ho, h1], h2⟩
    · cases hx
  · rename_i cl ho
    obtain ⟨callee, args, argTypes⟩ := cl
    unfold lenC at hx
    split at hx
    · rename_i y t h1 h2 h3
      simp only at h1 h2 h3
      obtain rfl : args = #[y] := by cases args; simp_all
      obtain rfl : argTypes = #[t] := by cases argTypes; simp_all
      subst h1
      split at hx
      · rename_i c h3
        split at hx
        · rename_i n h4
          injection hx with hx; subst hx
          have e1 := ev_ok h y
          rw [h3] at e1
          have := lenV_ok (ty := o.type) h h4 (slot_one e1)
          exact ⟨_, by simp [execOp, ho, resolve, invoke, builtin, this], slot_sc_mk trivial⟩
        · cases hx
      · cases hx
    · cases hx
  · cases hx
end
end Go.Proofs.Ytlcnokbhoekpkaa
