/- Calls; variables, literals and rows that are made. No program here. -/
import Derived.Test.YtlcnokbhoekpkaaAe6
import Derived.Laws.Tables
import Derived.Great.BuildSlice
namespace Go.Proofs.Ytlcnokbhoekpkaa
open Go.RowKit
set_option linter.unusedVariables false
set_option linter.unusedSimpArgs false

section
variable {P : Program} {w0 : Cx} {w w' : World} {N : Nat} {s : AS} {a : Act} {E : En}

/-! ### calls -/
def argsRd (s : AS) : List Operand → List (Bool × List DV) → Prop
  | [], [] => True
  | x :: xs, y :: ys => (match s.ev x with | .p b cs => b = y.1 ∧ rdL s cs y.2 | _ => False) ∧ argsRd s xs ys
  | _, _ => False
def argsRdF (s : AS) : List Operand → List (Bool × List DV) → Prop
  | [], [] => True
  | x :: xs, y :: ys => (match s.ev x with | .p b cs => b = y.1 ∧ rdFL s cs y.2 | _ => False) ∧ argsRdF s xs ys
  | _, _ => False

theorem part_get {L : Nat → Option Nat} {c : Nat} {b : Bool} {cs : List AC} {v : Value} (h : PartR w E L c b cs v) : ∃ vals : List Value, (if b then v = .agg vals.toArray else vals = [v]) ∧ CellsR w E L c cs vals := by
  unfold PartR at h
  cases b with
  | true => obtain ⟨vals, h1, h2⟩ := h; exact ⟨vals, h1, h2⟩
  | false => exact ⟨[v], rfl, h⟩
theorem argR_mk {B : Nat → Prop} {v : Value} {x : Bool × List DV} {vals : List Value} (h : if x.1 then v = .agg vals.toArray else vals = [v]) (hr : RepL w B vals x.2) : ArgR w B v x := by
  unfold ArgR
  obtain ⟨b, ds⟩ := x
  cases b with
  | true => exact ⟨vals, h, hr⟩
  | false => have h' : vals = [v] := h; subst h'; exact hr

theorem ArgsR.cons {B : Nat → Prop} {v : Value} {x : Bool × List DV} {vs : List Value} {xs : List (Bool × List DV)} (h : ArgR w B v x) (k : ArgsR w B vs xs) : ArgsR w B (v :: vs) (x :: xs) := by
  refine ⟨by simp [k.1], fun j u y h1 h2 => ?_⟩
  cases j with
  | zero => simp at h1 h2; subst h1 h2; exact h
  | succ j => exact k.2 j u y (by simpa using h1) (by simpa using h2)
theorem ArgsR.nil {B : Nat → Prop} : ArgsR w B [] [] := ⟨rfl, fun j u y h1 => by simp at h1⟩

theorem argsRd_ok (h : RepE w0 N s a w E) : ∀ {xs : List Operand} {ys : List (Bool × List DV)}, argsRd s xs ys → ArgsR w (AM s E) (xs.map a.eval) ys
  | [], [], _ => ArgsR.nil
  | [], _ :: _, h1 => h1.elim
  | _ :: _, [], h1 => h1.elim
  | x :: xs, y :: ys, h1 => by
    obtain ⟨h1, h2⟩ := h1
    split at h1
    · rename_i b cs he
      obtain ⟨rfl, h3⟩ := h1
      have := ev_ok h x
      rw [he] at this
      obtain ⟨vals, k1, k2⟩ := part_get this
      exact ArgsR.cons (argR_mk k1 (rdL_ok h k2 h3)) (argsRd_ok h h2)
    · exact h1.elim
theorem argsRdF_ok (h : RepE w0 N s a w E) : ∀ {xs : List Operand} {ys : List (Bool × List DV)}, argsRdF s xs ys → ArgsR w E.A (xs.map a.eval) ys
  | [], [], _ => ArgsR.nil
  | [], _ :: _, h1 => h1.elim
  | _ :: _, [], h1 => h1.elim
  | x :: xs, y :: ys, h1 => by
    obtain ⟨h1, h2⟩ := h1
    split at h1
    · rename_i b cs he
      obtain ⟨rfl, h3⟩ := h1
      have := ev_ok h x
      rw [he] at this
      obtain ⟨vals, k1, k2⟩ := part_get this
      exact ArgsR.cons (argR_mk k1 (rdFL_ok h k2 h3)) (argsRdF_ok h h2)
    · exact h1.elim

theorem resQs_of {B A' : Nat → Prop} {F : List Nat} : ∀ {vs : List Value} {rs : List Rs} {fs : List (List Nat)}, vs.length = rs.length → fs.length = rs.length → (∀ (j : Nat) u r f, vs[j]? = some u → rs[j]? = some r → fs[j]? = some f → ResR w w' B F u r f) →
    (∀ b, (B b ∨ (w.heap.size ≤ b ∧ b < w'.heap.size ∧ b ∉ F)) → A' b) ∨ (∀ r ∈ rs, r.2.2 = true) → ResQs w' w.heap.size A' vs rs fs
  | [], [], [], _, _, _, _ => trivial
  | v :: vs, r :: rs, f :: fs, h1, h2, h3, h4 => by
    refine ⟨?_, resQs_of (by simpa using h1) (by simpa using h2) (fun j u r f k1 k2 k3 => h3 (j + 1) u r f (by simpa using k1) (by simpa using k2) (by simpa using k3)) (h4.imp id fun h r hr => h r (List.mem_cons_of_mem _ hr))⟩
    obtain ⟨vals, q1, q2⟩ := h3 0 v r f rfl rfl rfl
    refine ⟨vals, q1, ?_⟩
    split
    · rename_i hd; rw [if_pos hd] at q2; exact q2
    · rename_i hd; rw [if_neg hd] at q2
      rcases h4 with h4 | h4
      · exact ⟨q2.1, q2.2.mono h4⟩
      · exact absurd (h4 r (List.mem_cons_self ..)) hd
  | [], _ :: _, _, h1, _, _, _ => by simp at h1
  | _ :: _, [], _, h1, _, _, _ => by simp at h1
  | _, [], _ :: _, _, h2, _, _ => by simp at h2
  | _, _ :: _, [], _, h2, _, _ => by simp at h2

theorem partsR_get {L : Nat → Option Nat} {c : Nat} : ∀ {xs : List (Bool × List AC)} {vs : List Value}, PartsR w E L c xs vs → xs.length = vs.length ∧ ∀ (j : Nat) b cs u, xs[j]? = some (b, cs) → vs[j]? = some u → PartR w E L c b cs u
  | [], [], _ => ⟨rfl, fun j b cs u h => by simp at h⟩
  | x :: xs, v :: vs, h => by
    obtain ⟨h1, h2⟩ := partsR_get h.2
    refine ⟨by simp [h1], fun j b cs u k1 k2 => ?_⟩
    cases j with
    | zero => simp at k1 k2; subst k1 k2; exact h.1
    | succ j => exact h2 j b cs u (by simpa using k1) (by simpa using k2)
  | [], _ :: _, h => h.elim
  | _ :: _, [], h => h.elim

theorem resAV_ok {L : Nat → Option Nat} {c n' c' : Nat} {rs : List Rs} {vs : List Value} {v : Value} (h : PartsR w E L c (resC rs n' c') vs) (hv : if rs.length = 1 then vs = [v] else v = .tuple vs.toArray) : SlotR w E L c (resAV rs n' c') v := by
  obtain ⟨h1, h2⟩ := partsR_get h
  have hl := resC_len rs n' c'
  unfold resAV
  split
  · rename_i b cs he
    rw [he] at h hl
    rw [if_pos (show rs.length = 1 from by simpa using hl.symm)] at hv
    subst hv
    exact h.1
  · rename_i hne
    have : ¬ rs.length = 1 := by
      intro e
      rw [e] at hl
      match hx : resC rs n' c', hl with
      | [(b, cs)], _ => exact hne b cs hx
    rw [if_neg this] at hv
    exact ⟨vs, hv, h1, h2⟩

theorem run_call {f : FuncId} {o : Oper} {args : Array Operand} {ts : Array TypeId} (ho : o.op = .call ⟨.value (.func f), args, ts⟩) (hc : callable P f = true) :
    (execOp a.eval o).run P w = .ok (.enter f (args.toList.map a.eval).toArray) w := by
  unfold callable at hc
  cases hf : P.funcs[f]? with
  | none => simp [hf] at hc
  | some fn =>
    simp [hf] at hc
    have h1 : fn.body.isNone = false := by cases hb : fn.body <;> simp_all
    simp only [execOp, ho, resolve, Act.eval, Deferred.ofValue, Sem.run_bind, Sem.run_pure, Result.andThen_ok, invoke, callFunc, run_program, hf]
    rw [if_neg (by simpa using hc.2)]
    simp [h1]
    cases args; simp

theorem h_call (X : Bool) {f : FuncId} {o : Oper} {args : Array Operand} {ts : Array TypeId} {ys : List (Bool × List DV)} {res : List Rs} (ho : o.op = .call ⟨.value (.func f), args, ts⟩) (hm : Meets P f ys res)
    (har : (argsRd s args.toList ys ∧ ∀ r ∈ res, r.2.2 = true) ∨ argsRdF s args.toList ys) : HStep P o s (resAV res s.n s.c) (resO X res s.c) := by
  intro w0 N a w E h
  unfold Oper.wp
  rw [run_call ho hm.1, Oper.upon_enter]
  have fin : ∀ (B : Nat → Prop), (∀ b, B b → b < w.heap.size) → ArgsR w B (args.toList.map a.eval) ys → ((∀ r ∈ res, r.2.2 = true) ∨ ∀ b, B b → E.A b) →
      Calls P f (args.toList.map a.eval).toArray w (fun e w' => match e, w' with
        | .returned v, w'' => HPost w0 N s (resAV res s.n s.c) (resO X res s.c) o a w E (a.put o.dst v) w''
        | .panicked chain, w'' => False
        | .outgrown, _ => LetsOut (fun _ _ _ => False)) := by
    intro B hB hA hor
    refine (hm.2 w B _ hB hA).mono ?_
    rintro e w' ⟨v, rfl, ⟨vs, fs, hv, hl1, hl2, hnd, hr⟩, hb⟩
    simp only
    -- the blocks that join those that are not changed
    have hrep := h.world hb (A' := fun b => E.A b ∨ ((∀ b, B b → E.A b) ∧ w.heap.size ≤ b ∧ b < w'.heap.size ∧ b ∉ fs.flatten)) (fun b hb => .inl hb) (fun b hb => hb.imp id fun h => ⟨h.2.1, h.2.2.1⟩)
    have hq : ResQs w' w.heap.size (fun b => E.A b ∨ ((∀ b, B b → E.A b) ∧ w.heap.size ≤ b ∧ b < w'.heap.size ∧ b ∉ fs.flatten)) vs res fs := by
      refine resQs_of hl1 hl2 hr ?_
      rcases hor with h1 | h1
      · exact .inr h1
      · exact .inl fun b hb => hb.imp (h1 b) fun hb => ⟨h1, hb⟩
    have hfr : ∀ b ∈ fs.flatten, w.heap.size ≤ b := by
      intro b hbf
      obtain ⟨f', hf', hbf'⟩ := List.mem_flatten.1 hbf
      obtain ⟨j, hj, rfl⟩ := List.mem_iff_getElem.1 hf'
      obtain ⟨vals, _, q2⟩ := hr j _ _ _ (List.getElem?_eq_getElem (by omega)) (List.getElem?_eq_getElem (by omega)) (List.getElem?_eq_getElem hj)
      split at q2
      · exact (q2.blocks b hbf').1
      · rw [q2.1] at hbf'; cases hbf'
    obtain ⟨E', k1, k2, k3⟩ := adoptRs (X := X) (b0 := w.heap.size) h.bel.size res hrep (fun _ h => h) hq hnd (by
      intro b hbf
      have hge := hfr b hbf
      refine ⟨fun hA => ?_, fun j hj => ⟨fun hm => ?_, fun hm => ?_⟩⟩
      · rcases hA with hA | hA
        · have := h.A_lt b hA; omega
        · exact hA.2.2.2 hbf
      · have := h.m_lt j hj b hm; omega
      · have := h.A_lt b (h.A_o j hj b hm); omega)
    refine ⟨v, E', rfl, hb, ⟨k3.same, fun b hb => k3.A b (.inl hb), fun b hb => ?_, fun i h1 h2 b hb => hfr b (k3.new i h1 h2 b hb)⟩, k1, resAV_ok k2 hv⟩
    rcases k3.A' b hb with h1 | h1
    · exact h1.imp id fun h => h.2.1
    · exact .inr (hfr b h1)
  rcases har with ⟨h1, h2⟩ | h1
  · exact fin (AM s E) (fun b hb => by
      rcases hb with hb | ⟨i, hi, _, hb⟩
      · exact h.A_lt b hb
      · exact h.m_lt i hi b hb) (argsRd_ok h h1) (.inl h2)
  · exact fin E.A h.A_lt (argsRdF_ok h h1) (.inr fun _ h => h)

/-! ### variables -/
/-- cells whose values are known to be of one cell -/
def okC (s : AS) : AC → Bool
  | .d _ => true
  | .nil => true
  | .own i st => (s.own? i st).isSome
  | .ptr i st _ => (s.own? i st).isSome
  | .elt i st _ _ _ => (s.own? i st).isSome
  | .rd _ => true

theorem ob_one (h : RepE w0 N s a w E) {i st : Nat} {x : Ob} (ho : s.own? i st = some x) : (E.v i).oneCell' = true := by
  obtain ⟨hi, ho, hl⟩ := own?_some ho
  have h1 := h.obj i hi
  rw [ho] at h1
  cases x with
  | var st t cs => obtain ⟨g, vals, _, e, _⟩ := h1; rw [e]; rfl
  | arr st t k es => obtain ⟨g, vals, _, e, _⟩ := h1; rw [e]; rfl
  | row st t k es dp => obtain ⟨cells, _, h2, _⟩ := h1; obtain ⟨A, c, e, _⟩ := own_shape h2; rw [e]; rfl
  | frz st x => exact RepL.one h1.2.2.2 _ (List.mem_cons_self ..)
  | dx st x => exact RepL.one h1.2.2.rep _ (List.mem_cons_self ..)
  | dead => unfold AS.lv at hl; rw [if_pos hi, ho] at hl; cases hl

theorem okC_one (h : RepE w0 N s a w E) {c : AC} {u : Value} (hc : CellR w E s.lv s.c c u) (hk : okC s c = true) : u.oneCell' = true := by
  cases c with
  | d x => exact RepL.one hc _ (List.mem_cons_self ..)
  | nil => obtain rfl : u = _ := hc; rfl
  | own i st =>
    obtain ⟨x, ho⟩ := Option.isSome_iff_exists.1 hk
    rw [hc.2 (own?_some ho).2.2]; exact ob_one h ho
  | ptr i st off =>
    obtain ⟨x, ho⟩ := Option.isSome_iff_exists.1 hk
    obtain ⟨g, _, rfl⟩ := hc.2 (own?_some ho).2.2; rfl
  | elt i st k j off =>
    obtain ⟨x, ho⟩ := Option.isSome_iff_exists.1 hk
    obtain ⟨g, n, cp, _, rfl⟩ := hc.2 (own?_some ho).2.2; rfl
  | rd cs => obtain ⟨b, off, vals, rfl, _⟩ := hc; rfl
theorem okL_one (h : RepE w0 N s a w E) {cs : List AC} {vals : List Value} (hc : CellsR w E s.lv s.c cs vals) (hk : cs.all (okC s) = true) : ∀ u ∈ vals, u.oneCell' = true := by
  intro u hu
  obtain ⟨j, hj, rfl⟩ := List.mem_iff_getElem.1 hu
  have hj' : j < cs.length := by rw [hc.1]; exact hj
  exact okC_one h (hc.2 j _ _ (List.getElem?_eq_getElem hj') (List.getElem?_eq_getElem hj)) (List.all_eq_true.1 hk _ (List.getElem_mem hj'))
theorem one_cells {u : Value} (h : u.oneCell' = true) : u.cells = #[u] := by cases u <;> first | rfl | cases h

/-- the cells of a part, known to be as many values -/
def cellsOk (s : AS) : AV → Option (List AC)
  | .p true cs => if cs.all (okC s) then some cs else none
  | .p false [c] => if okC s c then some [c] else none
  | _ => none
theorem cellsOk_ok (h : RepE w0 N s a w E) {x : AV} {cs : List AC} {v : Value} (hx : cellsOk s x = some cs) (hv : SlotR w E s.lv s.c x v) :
    CellsR w E s.lv s.c cs v.cells.toList ∧ ∀ u ∈ v.cells.toList, u.oneCell' = true := by
  unfold cellsOk at hx
  split at hx
  · split at hx
    · rename_i hk
      injection hx with hx; subst hx
      obtain ⟨vals, rfl, hc⟩ := slot_agg hv
      exact ⟨by simpa [Value.cells] using hc, by simpa [Value.cells] using okL_one h hc hk⟩
    · cases hx
  · split at hx
    · rename_i hk
      injection hx with hx; subst hx
      have h1 := okC_one h (slot_one hv) hk
      rw [one_cells h1]
      exact ⟨CellsR.cons (slot_one hv) CellsR.nil, by simpa using h1⟩
    · cases hx
  · cases hx

theorem h_new {o : Oper} {t : TypeId} {cs : List AC} {f : World → Array Value} (hcs : ∀ w0 N a w E, RepE w0 N s a w E → ∃ vals : List Value, (execOp a.eval o).run P w = .ok (.value (.pointer (some ⟨w.heap.size, 0, none⟩))) (w.alloc (.cells vals.toArray t)) ∧ CellsR w E s.lv s.c cs vals) :
    HStep P o s (.p false [.ptr s.n s.c 0]) [.var s.c t cs] := by
  intro w0 N a w E h
  obtain ⟨vals, hrun, hc⟩ := hcs w0 N a w E h
  unfold Oper.wp
  rw [hrun, Oper.upon_value]
  have hb : Below w.heap.size w (w.alloc (.cells vals.toArray t)) := (Below.refl _ _).alloc (Nat.le_refl _) _
  refine ⟨_, ⟨upd E.v s.n (.pointer (some ⟨w.heap.size, 0, none⟩)), upd E.m s.n [w.heap.size], upd E.o s.n [], fun b => E.A b ∨ b ∈ ([] : List Nat)⟩, rfl, hb, ?_, ?_, ?_⟩
  · have := ext_push (s := s) (E := E) (X := .var s.c t cs) (v' := .pointer (some ⟨w.heap.size, 0, none⟩)) (m' := [w.heap.size]) (o' := []) (F := fun b => w.heap.size ≤ b) (by simp) (by simp)
    exact ⟨this.same, this.A, this.A', this.new⟩
  · refine h.pushOb rfl hb (fun b hbm => ?_) (by simp) (by simp) ?_
    · simp at hbm; subst hbm
      exact ⟨by simp, fun hA => by have := h.A_lt _ hA; omega, fun j hj hm => by have := h.m_lt j hj _ hm; omega⟩
    · rintro E' rfl hstay
      refine ⟨w.heap.size, vals, by omega, by simp only [upd_same], by simp only [upd_same], by simp only [upd_same], h.bel.size, Blk.new _ _ _, hc.stay hstay⟩
  · refine slot_one_mk ⟨by simp [AS.pushL, AS.push], fun _ => ⟨w.heap.size, by simp only [upd_same], rfl⟩⟩

theorem h_box {o : Oper} {t : TypeId} {x : Operand} {cs : List AC} (ho : o.op = .box t x) (hx : cellsOk s (s.ev x) = some cs) : HStep P o s (.p false [.ptr s.n s.c 0]) [.var s.c t cs] := by
  refine h_new (f := fun _ => #[]) fun w0 N a w E h => ?_
  obtain ⟨h1, _⟩ := cellsOk_ok h hx (ev_ok h x)
  refine ⟨(a.eval x).cells.toList, ?_, h1⟩
  simp [execOp, ho, Instr.box, newVar, newRow]

/-- the zero value's cells -/
def zAC : List Value → Option (List AC)
  | [] => some []
  | v :: vs => match cAC v, zAC vs with | some c, some cs => some (c :: cs) | _, _ => none
theorem zAC_ok {L : Nat → Option Nat} {c : Nat} : ∀ {vs : List Value} {cs : List AC}, zAC vs = some cs → CellsR w E L c cs vs
  | [], cs, h => by simp only [zAC] at h; injection h with h; subst h; exact CellsR.nil
  | v :: vs, cs, h => by
    simp only [zAC] at h
    split at h
    · rename_i c cs' h1 h2
      injection h with h; subst h
      exact CellsR.cons (cAC_ok h1) (zAC_ok h2)
    · cases h
def zeroAC (P : Program) (t : TypeId) : Option (List AC) := match tzero P t with | some vs => zAC vs | none => none

theorem tzero_run {t : TypeId} {vs : List Value} (h : tzero P t = some vs) (w : World) : ∃ z, (zeroValue t).run P w = .ok z w ∧ z.cells = vs.toArray := by
  unfold tzero at h
  cases hi : P.info? t with
  | none => simp [hi] at h
  | some i =>
    cases hz : i.zero with
    | none => simp [hi, hz] at h
    | some z => simp [hi, hz] at h; subst h; exact ⟨z, by simp [zeroValue, typeInfo, hi, hz], by simp⟩

theorem h_alloc {o : Oper} {t : TypeId} {cs : List AC} (ho : o.op = .alloc t) (hx : zeroAC P t = some cs) : HStep P o s (.p false [.ptr s.n s.c 0]) [.var s.c t cs] := by
  refine h_new (f := fun _ => #[]) fun w0 N a w E h => ?_
  unfold zeroAC at hx
  split at hx
  · rename_i vs hz
    obtain ⟨z, h1, h2⟩ := tzero_run hz w
    refine ⟨vs, ?_, zAC_ok hx⟩
    simp [execOp, ho, Instr.alloc, h1, newVar, newRow, h2]
  · cases hx
end
end Go.Proofs.Ytlcnokbhoekpkaa
