/- Contracts ('Meets') and operations that change no object ('HStep'). No program here. -/
import Derived.Test.YtlcnokbhoekpkaaAe2
import Derived.Laws.Cells
import Derived.Laws.IdiomCopy
namespace Go.Proofs.Ytlcnokbhoekpkaa
open Go.RowKit
set_option linter.unusedVariables false
set_option linter.unusedSimpArgs false

/-! ### reading cells as data -/
def rdC0 (s : AS) : AC → DV → Prop
  | .d y, x => x = y
  | .nil, x => ∃ t k, x = .sl t k []
  | .own i st, x => i < s.n ∧ (match s.ob i with | .row st' t k es _ => st' = st ∧ x = .sl t k es | .frz st' y => st' = st ∧ x = y | .dx st' y => st' = st ∧ x = y | _ => False)
  | _, _ => False
def rdL0 (s : AS) : List AC → List DV → Prop
  | [], [] => True
  | c :: cs, x :: xs => rdC0 s c x ∧ rdL0 s cs xs
  | _, _ => False
def rdLL0 (s : AS) : List (List AC) → List (List DV) → Prop
  | [], [] => True
  | c :: cs, x :: xs => rdL0 s c x ∧ rdLL0 s cs xs
  | _, _ => False
def rdC (s : AS) : AC → DV → Prop
  | .d y, x => x = y
  | .nil, x => ∃ t k, x = .sl t k []
  | .own i st, x => i < s.n ∧ (match s.ob i with | .row st' t k es _ => st' = st ∧ x = .sl t k es | .frz st' y => st' = st ∧ x = y | .dx st' y => st' = st ∧ x = y | .arr st' t k es => st' = st ∧ ∃ es', x = .sl t k es' ∧ rdLL0 s es es' | _ => False)
  | _, _ => False
def rdL (s : AS) : List AC → List DV → Prop
  | [], [] => True
  | c :: cs, x :: xs => rdC s c x ∧ rdL s cs xs
  | _, _ => False
/-- what is not changed any more -/
def rdF (s : AS) : AC → DV → Prop
  | .d y, x => x = y
  | .nil, x => ∃ t k, x = .sl t k []
  | .own i st, x => i < s.n ∧ (match s.ob i with | .frz st' y => st' = st ∧ x = y | _ => False)
  | _, _ => False
def rdFL (s : AS) : List AC → List DV → Prop
  | [], [] => True
  | c :: cs, x :: xs => rdF s c x ∧ rdFL s cs xs
  | _, _ => False

/-- all blocks that can be read -/
def AM (s : AS) (E : En) (b : Nat) : Prop := E.A b ∨ ∃ i, i < s.n ∧ s.ob i ≠ .dead ∧ b ∈ E.m i

section
variable {w0 : Cx} {w w' : World} {E E' : En} {N : Nat} {s : AS} {a : Act}

theorem lv_of {i st : Nat} (hi : i < s.n) (h : (s.ob i).st = some st) : s.lv i = some st := by unfold AS.lv; rw [if_pos hi, h]

theorem row_rd (h : RepE w0 N s a w E) {i st t k : Nat} {es : List (List DV)} {dp : Bool} (hi : i < s.n) (ho : s.ob i = .row st t k es dp) : RepL w (AM s E) [E.v i] [.sl t k es] := by
  have h1 := h.obj i hi
  rw [ho] at h1
  obtain ⟨cells, _, h2, h3, h4, h5, h6⟩ := h1
  refine own_at h2 (fun b hb => .inr ⟨i, hi, by simp [ho], by rw [h5, hb]; simp⟩) h3 h4 ?_
  split at h6
  · exact h6.rep.mono fun b hb => .inl (h.A_o i hi b hb)
  · exact h6.2.mono fun b hb => .inl hb
theorem frz_rd (h : RepE w0 N s a w E) {i st : Nat} {x : DV} (hi : i < s.n) (ho : s.ob i = .frz st x) : RepL w E.A [E.v i] [x] := by
  have h1 := h.obj i hi
  rw [ho] at h1
  exact h1.2.2.2

theorem dx_rd (h : RepE w0 N s a w E) {i st : Nat} {x : DV} (hi : i < s.n) (ho : s.ob i = .dx st x) : RepL w (AM s E) [E.v i] [x] := by
  have h1 := h.obj i hi
  rw [ho] at h1
  exact h1.2.2.rep.mono fun b hb => .inr ⟨i, hi, by simp [ho], hb⟩
theorem nil_rd {A : Nat → Prop} {t k : Nat} : RepL w A [.slice none 0 0] [.sl t k []] := .sl0 (Nat.zero_le _) .nil

theorem rdC0_ok (h : RepE w0 N s a w E) {c : AC} {u : Value} {x : DV} (hc : CellR w E s.lv s.c c u) (hx : rdC0 s c x) : RepL w (AM s E) [u] [x] := by
  cases c with
  | d y => simp only [rdC0] at hx; subst hx; exact RepL.mono hc fun b hb => .inl hb
  | nil => obtain ⟨t, k, rfl⟩ := hx; obtain rfl : u = _ := hc; exact nil_rd
  | own i st =>
    obtain ⟨hi, hx⟩ := hx
    split at hx
    · rename_i st' t k es dp ho
      obtain ⟨rfl, rfl⟩ := hx
      rw [hc.2 (lv_of hi (by rw [ho]; rfl))]
      exact row_rd h hi ho
    · rename_i st' y ho
      obtain ⟨rfl, rfl⟩ := hx
      rw [hc.2 (lv_of hi (by rw [ho]; rfl))]
      exact (frz_rd h hi ho).mono fun b hb => .inl hb
    · rename_i st' y ho
      obtain ⟨rfl, rfl⟩ := hx
      rw [hc.2 (lv_of hi (by rw [ho]; rfl))]
      exact dx_rd h hi ho
    · exact hx.elim
  | ptr => exact hx.elim
  | elt => exact hx.elim
  | rd => exact hx.elim

theorem CellsR.cons' {L : Nat → Option Nat} {c : Nat} {x : AC} {cs : List AC} {vals : List Value} (h : CellsR w E L c (x :: cs) vals) : ∃ u us, vals = u :: us ∧ CellR w E L c x u ∧ CellsR w E L c cs us := by
  cases vals with
  | nil => have := h.1; simp at this
  | cons u us => exact ⟨u, us, rfl, h.2 0 x u rfl rfl, by simpa using h.1, fun j y v h1 h2 => h.2 (j + 1) y v (by simpa using h1) (by simpa using h2)⟩
theorem CellsR.nil' {L : Nat → Option Nat} {c : Nat} {vals : List Value} (h : CellsR w E L c [] vals) : vals = [] := List.eq_nil_of_length_eq_zero h.1.symm
theorem CellsR.cons {L : Nat → Option Nat} {c : Nat} {x : AC} {u : Value} {cs : List AC} {vals : List Value} (hx : CellR w E L c x u) (h : CellsR w E L c cs vals) : CellsR w E L c (x :: cs) (u :: vals) := by
  refine ⟨by simp [h.1], fun j y v h1 h2 => ?_⟩
  cases j with
  | zero => simp at h1 h2; subst h1 h2; exact hx
  | succ j => exact h.2 j y v (by simpa using h1) (by simpa using h2)
theorem CellsR.nil {L : Nat → Option Nat} {c : Nat} : CellsR w E L c [] [] := ⟨rfl, fun j x u h => by simp at h⟩
theorem CellsR.drop {L : Nat → Option Nat} {c : Nat} {cs : List AC} {vals : List Value} (h : CellsR w E L c cs vals) (n : Nat) : CellsR w E L c (cs.drop n) (vals.drop n) :=
  ⟨by simp [h.1], fun j x u h1 h2 => h.2 (n + j) x u (by rwa [List.getElem?_drop] at h1) (by rwa [List.getElem?_drop] at h2)⟩
theorem CellsR.take {L : Nat → Option Nat} {c : Nat} {cs : List AC} {vals : List Value} (h : CellsR w E L c cs vals) (n : Nat) : CellsR w E L c (cs.take n) (vals.take n) := by
  refine ⟨by simp [h.1], fun j x u h1 h2 => ?_⟩
  rw [List.getElem?_take] at h1 h2
  split at h1
  · rename_i hj; rw [if_pos hj] at h2; exact h.2 j x u h1 h2
  · cases h1
theorem CellsR.app {L : Nat → Option Nat} {c : Nat} {cs xs : List AC} {vals us : List Value} (h : CellsR w E L c cs vals) (k : CellsR w E L c xs us) : CellsR w E L c (cs ++ xs) (vals ++ us) := by
  induction cs generalizing vals with
  | nil => rw [h.nil']; exact k
  | cons x cs ih => obtain ⟨u, us', rfl, h1, h2⟩ := h.cons'; exact CellsR.cons h1 (ih h2)
theorem CellsR.ofRep {L : Nat → Option Nat} {c : Nat} {vals : List Value} {ds : List DV} (h : RepL w E.A vals ds) : CellsR w E L c (ds.map .d) vals := by
  refine ⟨by simp [h.len], fun j x u h1 h2 => ?_⟩
  rw [List.getElem?_map] at h1
  cases hd : ds[j]? with
  | none => simp [hd] at h1
  | some y => simp [hd] at h1; subst h1; exact h.get h2 hd

theorem rdL0_ok (h : RepE w0 N s a w E) {cs : List AC} : ∀ {vals : List Value} {xs : List DV}, CellsR w E s.lv s.c cs vals → rdL0 s cs xs → RepL w (AM s E) vals xs := by
  induction cs with
  | nil => intro vals xs hc hx; rw [hc.nil']; cases xs with
    | nil => exact .nil
    | cons => exact hx.elim
  | cons c cs ih =>
    intro vals xs hc hx
    obtain ⟨u, us, rfl, h1, h2⟩ := hc.cons'
    cases xs with
    | nil => exact hx.elim
    | cons x xs => exact (rdC0_ok h h1 hx.1).cons (ih h2 hx.2)
theorem rdL0_len {cs : List AC} : ∀ {xs : List DV}, rdL0 s cs xs → cs.length = xs.length := by
  induction cs with
  | nil => intro xs h; cases xs with
    | nil => rfl
    | cons => exact h.elim
  | cons c cs ih => intro xs h; cases xs with
    | nil => exact h.elim
    | cons => simp [ih h.2]
theorem rdLL0_flat {es : List (List AC)} : ∀ {xs : List (List DV)}, rdLL0 s es xs → rdL0 s es.flatten xs.flatten ∧ es.length = xs.length ∧ ∀ k, (∀ e ∈ es, e.length = k) → ∀ e ∈ xs, e.length = k := by
  induction es with
  | nil => intro xs h; cases xs with
    | nil => exact ⟨trivial, rfl, fun k _ e he => by cases he⟩
    | cons => exact h.elim
  | cons c cs ih =>
    intro xs h
    cases xs with
    | nil => exact h.elim
    | cons x xs =>
      obtain ⟨h1, h2, h3⟩ := ih h.2
      refine ⟨?_, by simp [h2], fun k hk e he => ?_⟩
      · have hh := h.1
        clear h h2 h3 ih
        rw [List.flatten_cons, List.flatten_cons]
        induction c generalizing x with
        | nil => cases x with
          | nil => exact h1
          | cons => exact hh.elim
        | cons y c ih => cases x with
          | nil => exact hh.elim
          | cons => exact ⟨hh.1, ih _ hh.2⟩
      · rcases List.mem_cons.1 he with rfl | he
        · rw [← rdL0_len h.1]; exact hk c (List.mem_cons_self ..)
        · exact h3 k (fun e he => hk e (List.mem_cons_of_mem _ he)) e he

theorem blk_at {g : Nat} {t : TypeId} {vals : List Value} (h : Blk w g t vals.toArray) (off : Nat) : At w g off (vals.drop off) := by
  intro j u hu
  rw [h.cell]; rw [List.getElem?_drop] at hu; simpa using hu

theorem rdC_ok (h : RepE w0 N s a w E) {c : AC} {u : Value} {x : DV} (hc : CellR w E s.lv s.c c u) (hx : rdC s c x) : RepL w (AM s E) [u] [x] := by
  cases c with
  | d y => exact rdC0_ok h hc hx
  | nil => exact rdC0_ok h hc hx
  | own i st =>
    obtain ⟨hi, hx⟩ := hx
    split at hx
    · rename_i ho; exact rdC0_ok h hc ⟨hi, by rw [ho]; exact hx⟩
    · rename_i ho; exact rdC0_ok h hc ⟨hi, by rw [ho]; exact hx⟩
    · rename_i ho; exact rdC0_ok h hc ⟨hi, by rw [ho]; exact hx⟩
    · rename_i st' t k es ho
      obtain ⟨rfl, es', rfl, hr⟩ := hx
      rw [hc.2 (lv_of hi (by rw [ho]; rfl))]
      have h1 := h.obj i hi
      rw [ho] at h1
      obtain ⟨g, vals, _, e1, e2, _, _, e3, hB, hk, hu, hcs⟩ := h1
      obtain ⟨f1, f2, f3⟩ := rdLL0_flat hr
      rw [e1]
      rcases Nat.eq_zero_or_pos es.length with h0 | h0
      · have : es' = [] := List.eq_nil_of_length_eq_zero (by omega)
        subst this
        rw [h0]; exact .sl0 (Nat.zero_le _) .nil
      · rw [f2] at h0 e3 ⊢
        exact .sl (.inr ⟨i, hi, by simp [ho], by rw [e2]; simp⟩) rfl h0 (Nat.le_refl _) e3 hk (f3 k hu) (rdL0_ok h hcs f1) (by simpa using blk_at hB 0) .nil
    · exact hx.elim
  | ptr => exact hx.elim
  | elt => exact hx.elim
  | rd => exact hx.elim
theorem rdL_ok (h : RepE w0 N s a w E) {cs : List AC} : ∀ {vals : List Value} {xs : List DV}, CellsR w E s.lv s.c cs vals → rdL s cs xs → RepL w (AM s E) vals xs := by
  induction cs with
  | nil => intro vals xs hc hx; rw [hc.nil']; cases xs with
    | nil => exact .nil
    | cons => exact hx.elim
  | cons c cs ih =>
    intro vals xs hc hx
    obtain ⟨u, us, rfl, h1, h2⟩ := hc.cons'
    cases xs with
    | nil => exact hx.elim
    | cons x xs => exact (rdC_ok h h1 hx.1).cons (ih h2 hx.2)
theorem rdF_ok (h : RepE w0 N s a w E) {c : AC} {u : Value} {x : DV} (hc : CellR w E s.lv s.c c u) (hx : rdF s c x) : RepL w E.A [u] [x] := by
  cases c with
  | d y => simp only [rdF] at hx; subst hx; exact hc
  | nil => obtain ⟨t, k, rfl⟩ := hx; obtain rfl : u = _ := hc; exact nil_rd
  | own i st =>
    obtain ⟨hi, hx⟩ := hx
    split at hx
    · rename_i st' y ho
      obtain ⟨rfl, rfl⟩ := hx
      rw [hc.2 (lv_of hi (by rw [ho]; rfl))]
      exact frz_rd h hi ho
    · exact hx.elim
  | ptr => exact hx.elim
  | elt => exact hx.elim
  | rd => exact hx.elim
theorem rdFL_ok (h : RepE w0 N s a w E) {cs : List AC} : ∀ {vals : List Value} {xs : List DV}, CellsR w E s.lv s.c cs vals → rdFL s cs xs → RepL w E.A vals xs := by
  induction cs with
  | nil => intro vals xs hc hx; rw [hc.nil']; cases xs with
    | nil => exact .nil
    | cons => exact hx.elim
  | cons c cs ih =>
    intro vals xs hc hx
    obtain ⟨u, us, rfl, h1, h2⟩ := hc.cons'
    cases xs with
    | nil => exact hx.elim
    | cons x xs => exact (rdF_ok h h1 hx.1).cons (ih h2 hx.2)
end

/-! ### contracts -/
def ArgR (w : World) (B : Nat → Prop) (v : Value) (x : Bool × List DV) : Prop :=
  if x.1 then ∃ vals : List Value, v = .agg vals.toArray ∧ RepL w B vals x.2 else RepL w B [v] x.2
def ArgsR (w : World) (B : Nat → Prop) (vs : List Value) (xs : List (Bool × List DV)) : Prop :=
  vs.length = xs.length ∧ ∀ (j : Nat) v x, vs[j]? = some v → xs[j]? = some x → ArgR w B v x
/-- a result: whether a struct, its cells, whether the caller owns all of it -/
abbrev Rs := Bool × List DV × Bool
def ResR (w w' : World) (B : Nat → Prop) (F : List Nat) (v : Value) (r : Rs) (f : List Nat) : Prop :=
  ∃ vals : List Value, (if r.1 then v = .agg vals.toArray else vals = [v]) ∧
    if r.2.2 then OwnL w' w.heap.size vals r.2.1 f else f = [] ∧ RepL w' (fun b => B b ∨ (w.heap.size ≤ b ∧ b < w'.heap.size ∧ b ∉ F)) vals r.2.1
def ResV (w w' : World) (B : Nat → Prop) (v : Value) (rs : List Rs) : Prop :=
  ∃ (vs : List Value) (fs : List (List Nat)), (if rs.length = 1 then vs = [v] else v = .tuple vs.toArray) ∧ vs.length = rs.length ∧ fs.length = rs.length ∧ fs.flatten.Nodup ∧
    ∀ (j : Nat) u r f, vs[j]? = some u → rs[j]? = some r → fs[j]? = some f → ResR w w' B fs.flatten u r f

def callable (P : Program) (f : FuncId) : Bool := match P.funcs[f]? with | some fn => fn.body.isSome && !(fn.name == "runtime.NumGoroutine") | none => false

def RetV (w : World) (B : Nat → Prop) (res : List Rs) (e : Ending) (w' : World) : Prop := ∃ v, e = .returned v ∧ ResV w w' B v res ∧ Below w.heap.size w w'
def Meets (P : Program) (f : FuncId) (args : List (Bool × List DV)) (res : List Rs) : Prop :=
  callable P f = true ∧ ∀ (w : World) (B : Nat → Prop) (vs : List Value), (∀ b, B b → b < w.heap.size) → ArgsR w B vs args → Calls P f vs.toArray w (RetV w B res)

/-! ### types -/
section
variable (P : Program)
def tagg (t : TypeId) : Option Bool := match P.underlying t with | some (.struct _) => some true | some (.array _ _) => some true | some _ => some false | none => none
def tsz (t : TypeId) : Option Nat := (P.info? t).map (·.size)
def tel (t : TypeId) : Option (TypeId × Nat) := match P.underlying t with | some (.slice e) => (tsz P e).map fun k => (e, k) | _ => none
def tfl (t : TypeId) (f : Nat) : Option (Nat × Nat × Bool) :=
  match P.underlying t with | some (.struct fs) => (fs[f]?).bind fun fd => (tsz P fd.type).bind fun k => (tagg P fd.type).map fun b => (fd.offset, k, b) | _ => none
def tzero (t : TypeId) : Option (List Value) := (P.info? t).bind fun i => i.zero.map fun z => z.cells.toList

theorem run_isAgg {t : TypeId} {b : Bool} (h : tagg P t = some b) (w : World) : (isAgg t).run P w = .ok b w := by
  unfold tagg at h
  cases hu : P.underlying t with
  | none => simp [hu] at h
  | some d => cases d <;> simp_all [isAgg, run_underlying hu]
theorem run_sz {t : TypeId} {k : Nat} (h : tsz P t = some k) (w : World) : (sizeOf t).run P w = .ok k w := by
  unfold tsz at h
  cases hi : P.info? t with
  | none => simp [hi] at h
  | some i => simp [hi] at h; simp [sizeOf, typeInfo, hi, h]

theorem run_ld_agg {t : TypeId} {w : World} {b off : Nat} {vals : List Value} (h : tagg P t = some true) (hs : tsz P t = some vals.length) (ha : At w b off vals) :
    (Instr.loadAt t (.pointer (some ⟨b, off, none⟩))).run P w = .ok (.agg vals.toArray) w := by
  have hl := run_loadCells_list (P := P) w ⟨b, off, none⟩ vals (fun j v hv => by
    have hadd : (⟨b, off, none⟩ : Addr).add j = ⟨b, off + j, none⟩ := by unfold Addr.add; split <;> simp_all
    rw [hadd]; exact ha j v hv)
  simp [Instr.loadAt, Instr.sureAddr, loadVar, run_isAgg P h, run_sz P hs, hl]
theorem run_ld_one {t : TypeId} {w : World} {b off : Nat} {u : Value} (h : tagg P t = some false) (ha : w.cell? ⟨b, off, none⟩ = some u) :
    (Instr.loadAt t (.pointer (some ⟨b, off, none⟩))).run P w = .ok u w := by
  simp [Instr.loadAt, Instr.sureAddr, loadVar, run_isAgg P h, ha]

theorem run_fa {t : TypeId} {f : Nat} {off k : Nat} {ag : Bool} {w : World} {b o : Nat} (h : tfl P t f = some (off, k, ag)) (hk : 0 < k) :
    (Instr.fieldAt t (.pointer (some ⟨b, o, none⟩)) f).run P w = .ok (.pointer (some ⟨b, o + off, none⟩)) w := by
  unfold tfl at h
  cases hu : P.underlying t with
  | none => simp [hu] at h
  | some d =>
    cases d with
    | struct fs =>
      simp only [hu] at h
      cases hf : fs[f]? with
      | none => simp [hf] at h
      | some fd =>
        simp only [hf, Option.bind_some] at h
        cases hz : tsz P fd.type with
        | none => simp [hz] at h
        | some k' =>
          simp only [hz, Option.bind_some] at h
          cases hg : tagg P fd.type with
          | none => simp [hg] at h
          | some b' =>
            simp [hg] at h
            obtain ⟨rfl, rfl, rfl⟩ := h
            have hadd : (⟨b, o, none⟩ : Addr).add fd.offset = ⟨b, o + fd.offset, none⟩ := by unfold Addr.add; split <;> simp_all
            simp [Instr.fieldAt, run_underlying hu, hf, Instr.sureAddr, fieldPlace, run_sz P hz, show ¬ k' = 0 from by omega, hadd]
    | _ => simp [hu] at h

theorem run_fv {t : TypeId} {f : Nat} {off k : Nat} {ag : Bool} {w : World} {vals : List Value} (h : tfl P t f = some (off, k, ag)) :
    (ag = true → (Instr.field t (.agg vals.toArray) f).run P w = .ok (.agg ((vals.drop off).take k).toArray) w) ∧
    (ag = false → ∀ u, vals[off]? = some u → (Instr.field t (.agg vals.toArray) f).run P w = .ok u w) := by
  unfold tfl at h
  cases hu : P.underlying t with
  | none => simp [hu] at h
  | some d =>
    cases d with
    | struct fs =>
      simp only [hu] at h
      cases hf : fs[f]? with
      | none => simp [hf] at h
      | some fd =>
        simp only [hf, Option.bind_some] at h
        cases hz : tsz P fd.type with
        | none => simp [hz] at h
        | some k' =>
          simp only [hz, Option.bind_some] at h
          cases hg : tagg P fd.type with
          | none => simp [hg] at h
          | some b' =>
            simp [hg] at h
            obtain ⟨rfl, rfl, rfl⟩ := h
            constructor
            · rintro rfl
              simp [Instr.field, run_underlying hu, hf, asAgg, part, run_isAgg P hg, run_sz P hz, List.extract_eq_take_drop]
            · rintro rfl u hu'
              simp [Instr.field, run_underlying hu, hf, asAgg, part, run_isAgg P hg, hu']
    | _ => simp [hu] at h

theorem run_ia {t el : TypeId} {k : Nat} {w : World} {b off n c : Nat} {ki : IntKind} {j : Nat} (h : tel P t = some (el, k)) (hj : j < n) :
    (Instr.indexAt t (.slice (some ⟨b, off, none⟩) n c) (.int ki j)).run P w = .ok (.pointer (some ⟨b, off + j * k, none⟩)) w := by
  unfold tel at h
  cases hu : P.underlying t with
  | none => simp [hu] at h
  | some d =>
    cases d with
    | slice e =>
      simp only [hu] at h
      cases hz : tsz P e with
      | none => simp [hz] at h
      | some k' =>
        simp [hz] at h
        obtain ⟨rfl, rfl⟩ := h
        have hadd : (⟨b, off, none⟩ : Addr).add (j * k') = ⟨b, off + j * k', none⟩ := by unfold Addr.add; split <;> simp_all
        simp [Instr.indexAt, run_underlying hu, asIntOf, hj, run_sz P hz, hadd]
    | _ => simp [hu] at h
end
end Go.Proofs.Ytlcnokbhoekpkaa
