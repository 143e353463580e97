/- Literals and rows that are made. No program here. -/
import Derived.Test.YtlcnokbhoekpkaaAe7
import Derived.Test.YtlcnokbhoekpkaaLay
namespace Go.Proofs.Ytlcnokbhoekpkaa
open Go.RowKit
set_option linter.unusedVariables false
set_option linter.unusedSimpArgs false

section
variable {P : Program} {w0 : Cx} {w w' : World} {N : Nat} {s : AS} {a : Act} {E : En}

theorem fold_put : ∀ (l : List Value) (i off : Nat) (cells : Array Value), (l.zipIdx i).foldl (fun cs (x : Value × Nat) => cs.setIfInBounds (off + x.2) x.1) cells = (putAt cells.toList (off + i) l).toArray
  | [], i, off, cells => by simp [putAt]
  | v :: l, i, off, cells => by
    rw [List.zipIdx_cons, List.foldl_cons, fold_put l (i + 1) off, putAt]
    simp [Nat.add_assoc]

def plug {α : Type} (off : Nat) (cs z : List α) : List α := z.take off ++ cs ++ z.drop (off + cs.length)
theorem plug_len {α : Type} {off : Nat} {cs z : List α} (h : off + cs.length ≤ z.length) : (plug off cs z).length = z.length := by
  simp [plug]; omega
theorem fill_step {cells vs : Array Value} {off : Nat} (h : off + vs.size ≤ cells.size) : vs.zipIdx.foldl (fun cs (x : Value × Nat) => cs.setIfInBounds (off + x.2) x.1) cells = (plug off vs.toList cells.toList).toArray := by
  have h1 := fold_put vs.toList 0 off cells
  rw [putAt_eq _ _ _ (by simpa using h)] at h1
  rw [← Array.foldl_toList, Array.toList_zipIdx]
  exact h1
theorem plug_cells {L : Nat → Option Nat} {c off : Nat} {cs z : List AC} {us vs : List Value} (h : CellsR w E L c cs us) (k : CellsR w E L c z vs) : CellsR w E L c (plug off cs z) (plug off us vs) := by
  unfold plug
  rw [h.1]
  exact ((k.take off).app h).app (k.drop _)

/-- the fields' places of a struct -/
def tpl (P : Program) (t : TypeId) : Bool := match P.underlying t with | some (.struct fs) => (fs.toList.mapM fun f => (P.info? f.type).map fun i => (f.offset, i.size)).isSome | _ => false

theorem mapM_get {α β : Type} {f : α → Option β} : ∀ {l : List α} {r : List β}, l.mapM f = some r → ∀ (i : Nat) x, l[i]? = some x → f x = r[i]?
  | [], r, _, i, x, hx => by simp at hx
  | y :: l, r, h, i, x, hx => by
    rw [List.mapM_cons] at h
    cases hy : f y with
    | none => simp [hy] at h
    | some b =>
      cases hl : l.mapM f with
      | none => simp [hy, hl] at h
      | some r' =>
        simp [hy, hl] at h
        subst h
        cases i with
        | zero => simp at hx; subst hx; simpa using hy
        | succ i => simpa using mapM_get hl i x (by simpa using hx)

def fillA (P : Program) (s : AS) (t : TypeId) : List (Nat × Operand) → List AC → Option (List AC)
  | [], z => some z
  | (i, x) :: r, z => match tfl P t i, cellsOk s (s.ev x) with
    | some (off, k, _), some cs => if cs.length = k ∧ off + k ≤ z.length then fillA P s t r (plug off cs z) else none
    | _, _ => none

theorem tfl_place {t : TypeId} {fs : Array Field} {places : List (Nat × Nat)} (hu : P.underlying t = some (.struct fs)) (hp : (fs.toList.mapM fun f => (P.info? f.type).map fun i => (f.offset, i.size)) = some places) {i off k : Nat} {b : Bool} (h : tfl P t i = some (off, k, b)) :
    places[i]? = some (off, k) := by
  unfold tfl at h
  simp only [hu] at h
  cases hf : fs[i]? with
  | none => simp [hf] at h
  | some fd =>
    simp only [hf, Option.bind_some] at h
    cases hz : tsz P fd.type with
    | none => simp [hz] at h
    | some k' =>
      simp only [hz, Option.bind_some] at h
      cases hg : tagg P fd.type with
      | none => simp [hg] at h
      | some b' =>
        simp [hg] at h
        obtain ⟨rfl, rfl, rfl⟩ := h
        have := mapM_get hp i fd (by simpa using hf)
        rw [← this]
        unfold tsz at hz
        cases hi : P.info? fd.type with
        | none => simp [hi] at hz
        | some inf => simp [hi] at hz; simp [hi, hz]

theorem fillA_ok (h : RepE w0 N s a w E) {t : TypeId} {fs : Array Field} {places : List (Nat × Nat)} (hu : P.underlying t = some (.struct fs)) (hp : (fs.toList.mapM fun f => (P.info? f.type).map fun i => (f.offset, i.size)) = some places) :
    ∀ {parts : List (Nat × Operand)} {z cs : List AC} {vals : List Value}, fillA P s t parts z = some cs → CellsR w E s.lv s.c z vals →
      ∃ us : List Value, Instr.fill (places.toArray[·]?) vals.toArray (parts.map fun x => (x.1, a.eval x.2)) = some us.toArray ∧ CellsR w E s.lv s.c cs us
  | [], z, cs, vals, hf, hz => by simp only [fillA] at hf; injection hf with hf; subst hf; exact ⟨vals, rfl, hz⟩
  | (i, x) :: r, z, cs, vals, hf, hz => by
    simp only [fillA] at hf
    split at hf
    · rename_i off k b xs h1 h2
      split at hf
      · rename_i hl
        obtain ⟨hl1, hl2⟩ := hl
        obtain ⟨c1, _⟩ := cellsOk_ok h h2 (ev_ok h x)
        have hpl := tfl_place hu hp h1
        have hsz : (a.eval x).cells.size = k := by rw [← hl1, c1.1]; simp
        obtain ⟨us, e1, e2⟩ := fillA_ok h hu hp hf (plug_cells (off := off) c1 hz)
        refine ⟨us, ?_, e2⟩
        rw [List.map_cons, Instr.fill]
        simp only [List.getElem?_toArray, hpl]
        have hle : off + (a.eval x).cells.size ≤ vals.toArray.size := by rw [hsz]; have := hz.1; simp; omega
        rw [if_neg (by simp [hsz]; have := hz.1; omega), fill_step hle]
        simpa using e1
      · cases hf
    · cases hf

theorem h_build {o : Oper} {t : TypeId} {parts : Array (Nat × Operand)} {z cs : List AC} (ho : o.op = .build t parts) (hp : tpl P t = true) (hz : zeroAC P t = some z) (hf : fillA P s t parts.toList z = some cs) : HStep P o s (.p true cs) [] := by
  refine HStep.of_run fun w0 N a w E h => ?_
  unfold tpl at hp
  split at hp
  · rename_i fs hu
    obtain ⟨places, hp⟩ := Option.isSome_iff_exists.1 hp
    unfold zeroAC at hz
    split at hz
    · rename_i vs hz0
      obtain ⟨us, e1, e2⟩ := fillA_ok h hu hp hf (zAC_ok (w := w) (E := E) (L := s.lv) (c := s.c) hz)
      refine ⟨.agg us.toArray, ?_, us, rfl, e2⟩
      have hb : P.built t (parts.map fun x => (x.1, a.eval x.2)).toList = some us.toArray := by
        unfold Program.built
        unfold tzero at hz0
        cases hi : P.info? t with
        | none => simp [hi] at hz0
        | some i =>
          cases hzz : i.zero with
          | none => simp [hi, hzz] at hz0
          | some zz =>
            simp [hi, hzz] at hz0
            subst hz0
            simp only [hu, hzz, hp]
            rw [← e1]; simp
      have hr := run_build (P := P) w t _ _ hb
      simp only [execOp, ho]
      rw [Sem.run_bind]
      rw [show (parts.map fun (x : Nat × Operand) => match x with | (i, x) => (i, a.eval x)) = (parts.map fun x => (x.1, a.eval x.2)) from rfl, hr]; rfl
    · cases hz
  · cases hp

/-! ### slices of given elements -/
def bsF (s : AS) (k : Nat) : List (Nat × Operand) → Nat → Option (List (List AC))
  | [], _ => some []
  | (i, x) :: r, j => match cellsOk s (s.ev x), bsF s k r (j + 1) with
    | some cs, some es => if i = j ∧ cs.length = k then some (cs :: es) else none
    | _, _ => none
theorem bsF_len {k : Nat} : ∀ {parts : List (Nat × Operand)} {j : Nat} {es : List (List AC)}, bsF s k parts j = some es → es.length = parts.length ∧ ∀ e ∈ es, e.length = k
  | [], j, es, h => by simp only [bsF] at h; injection h with h; subst h; exact ⟨rfl, by simp⟩
  | (i, x) :: r, j, es, h => by
    simp only [bsF] at h
    split at h
    · rename_i cs es' h1 h2
      split at h
      · rename_i hl
        injection h with h; subst h
        obtain ⟨k1, k2⟩ := bsF_len h2
        refine ⟨by simp [k1], fun e he => ?_⟩
        rcases List.mem_cons.1 he with rfl | he
        · exact hl.2
        · exact k2 e he
      · cases h
    · cases h

theorem bsF_ok (h : RepE w0 N s a w E) {k : Nat} : ∀ {parts : List (Nat × Operand)} {j : Nat} {es : List (List AC)} {done rest : List Value}, bsF s k parts j = some es → done.length = j * k → rest.length = parts.length * k →
      ∃ us : List Value, Instr.fill (fun i => some (i * k, k)) (done ++ rest).toArray (parts.map fun x => (x.1, a.eval x.2)) = some (done ++ us).toArray ∧ CellsR w E s.lv s.c es.flatten us
  | [], j, es, done, rest, hf, hd, hr => by
    simp only [bsF] at hf; injection hf with hf; subst hf
    have : rest = [] := List.eq_nil_of_length_eq_zero (by simpa using hr)
    subst this
    exact ⟨[], rfl, CellsR.nil⟩
  | (i, x) :: r, j, es, done, rest, hf, hd, hr => by
    simp only [bsF] at hf
    split at hf
    · rename_i cs es' h1 h2
      split at hf
      · rename_i hl
        obtain ⟨rfl, hl⟩ := hl
        injection hf with hf; subst hf
        obtain ⟨c1, _⟩ := cellsOk_ok h h1 (ev_ok h x)
        have hsz : (a.eval x).cells.toList.length = k := by rw [← c1.1]; exact hl
        rw [List.length_cons, Nat.succ_mul] at hr
        obtain ⟨us, e1, e2⟩ := bsF_ok h (done := done ++ (a.eval x).cells.toList) (rest := rest.drop k) h2 (by rw [List.length_append, hsz, hd, Nat.succ_mul]) (by rw [List.length_drop]; omega)
        refine ⟨(a.eval x).cells.toList ++ us, ?_, by rw [List.flatten_cons]; exact c1.app e2⟩
        rw [List.map_cons, Instr.fill]
        have hsz' : (a.eval x).cells.size = k := by simpa using hsz
        have hle : i * k + (a.eval x).cells.size ≤ (done ++ rest).toArray.size := by rw [hsz']; simp; omega
        simp only
        rw [if_neg (by simp [hsz']; omega), fill_step hle]
        have : plug (i * k) (a.eval x).cells.toList (done ++ rest).toArray.toList = done ++ (a.eval x).cells.toList ++ rest.drop k := by
          unfold plug
          rw [hsz]
          rw [show (done ++ rest).toArray.toList = done ++ rest from rfl, ← hd, List.take_left, List.drop_length_add_append]
        rw [this, e1, List.append_assoc]
      · cases hf
    · cases hf

theorem h_buildSlice {o : Oper} {t el : TypeId} {k len : Nat} {parts : Array (Nat × Operand)} {es : List (List AC)} (ho : o.op = .buildSlice t len parts) (ht : tel P t = some (el, k)) (hz : (tzero P el).isSome = true) (hk : 0 < k)
    (hl : parts.toList.length = len) (hs : len * k ≤ 16777216) (hf : bsF s k parts.toList 0 = some es) : HStep P o s (.p false [.own s.n s.c]) [.arr s.c el k es] := by
  intro w0 N a w E h
  obtain ⟨hu, hsz⟩ := tel_u ht
  obtain ⟨hl1, hl2⟩ := bsF_len hf
  obtain ⟨zs, hz⟩ := Option.isSome_iff_exists.1 hz
  have key : ∃ us : List Value, (execOp a.eval o).run P w = .ok (.value (.slice (some ⟨w.heap.size, 0, none⟩) len len)) (w.alloc (.cells us.toArray el)) ∧ CellsR w E s.lv s.c es.flatten us := by
    unfold tzero at hz
    unfold tsz at hsz
    cases hi : P.info? el with
    | none => simp [hi] at hsz
    | some ie =>
      simp [hi] at hsz
      cases hzz : ie.zero with
      | none => simp [hi, hzz] at hz
      | some z =>
        rcases Nat.eq_zero_or_pos len with h0 | h0
        · subst h0
          have hp : parts.toList = [] := List.eq_nil_of_length_eq_zero hl
          rw [hp] at hf
          simp only [bsF] at hf
          injection hf with hf; subst hf
          obtain rfl : parts = #[] := by cases parts; simp_all
          refine ⟨[], ?_, CellsR.nil⟩
          simp [execOp, ho, Instr.buildSlice, run_underlying hu, sizeOf, typeInfo, hi, hsz, Instr.fill, newRow]
          rw [show Array.map (fun (_ : Nat) => (default : Value)) (Array.range 0) = #[] from Array.ext (by simp) (fun i h1 h2 => by simp at h1)]
        · obtain ⟨us, e1, e2⟩ := bsF_ok (w := w) (E := E) (a := a) h (done := []) (rest := ((Array.range (len * k)).map (z.cells[· % z.cells.size]!)).toList) hf (by simp) (by simp [hl])
          refine ⟨us, ?_, e2⟩
          have hr := run_buildSlice (P := P) w t el len (parts.map fun x => (x.1, a.eval x.2)) us.toArray ie z hu hi hzz (by rw [hsz]; omega) (by rw [hsz]; exact Nat.ne_of_gt (Nat.mul_pos h0 hk)) (by
            rw [hsz]
            have e3 := e1
            rw [List.nil_append, List.nil_append, Array.toArray_toList] at e3
            rw [← e3]; simp)
          simp only [execOp, ho]
          rw [Sem.run_bind]
          rw [show (parts.map fun (x : Nat × Operand) => match x with | (i, x) => (i, a.eval x)) = (parts.map fun x => (x.1, a.eval x.2)) from rfl, hr]; rfl
  obtain ⟨us, hrun, hc⟩ := key
  have hle : es.length = len := by rw [hl1, hl]
  unfold Oper.wp
  rw [hrun, Oper.upon_value]
  have hb : Below w.heap.size w (w.alloc (.cells us.toArray el)) := (Below.refl _ _).alloc (Nat.le_refl _) _
  refine ⟨_, ⟨upd E.v s.n (.slice (some ⟨w.heap.size, 0, none⟩) len len), upd E.m s.n [w.heap.size], upd E.o s.n [], fun b => E.A b ∨ b ∈ ([] : List Nat)⟩, rfl, hb, ?_, ?_, ?_⟩
  · have := ext_push (s := s) (E := E) (X := .arr s.c el k es) (v' := .slice (some ⟨w.heap.size, 0, none⟩) len len) (m' := [w.heap.size]) (o' := []) (F := fun b => w.heap.size ≤ b) (by simp) (by simp)
    exact ⟨this.same, this.A, this.A', this.new⟩
  · refine h.pushOb rfl hb (fun b hbm => ?_) (by simp) (by simp) ?_
    · simp at hbm; subst hbm
      exact ⟨by simp, fun hA => by have := h.A_lt _ hA; omega, fun j hj hm => by have := h.m_lt j hj _ hm; omega⟩
    · rintro E' rfl hstay
      have hmx : es.length ≤ maxLen := by
        have : len * 1 ≤ len * k := Nat.mul_le_mul_left _ hk
        unfold maxLen; omega
      refine ⟨w.heap.size, us, by omega, by simp only [upd_same, hle], by simp only [upd_same], by simp only [upd_same], h.bel.size, hmx, Blk.new _ _ _, hk, hl2, hc.stay hstay⟩
  · refine slot_one_mk ⟨by simp [AS.pushL, AS.push], fun _ => by simp only [upd_same]⟩

/-! ### make -/
def zDV : List Value → Option (List DV)
  | [] => some []
  | v :: vs => match v, zDV vs with
    | .bool b, some r => some (.sc (.bool b) :: r)
    | .int k n, some r => some (.sc (.int k n) :: r)
    | .string x, some r => some (.sc (.string x) :: r)
    | .slice none 0 0, some r => some (.sl 0 1 [] :: r)
    | _, _ => none
theorem zDV_ok {base : Nat} : ∀ {vs : List Value} {ds : List DV}, zDV vs = some ds → OwnL w base vs ds []
  | [], ds, h => by simp only [zDV] at h; injection h with h; subst h; exact .nil
  | v :: vs, ds, h => by
    simp only [zDV] at h
    split at h
    · injection h with h; subst h; exact .sc trivial (zDV_ok (by assumption))
    · injection h with h; subst h; exact .sc trivial (zDV_ok (by assumption))
    · injection h with h; subst h; exact .sc trivial (zDV_ok (by assumption))
    · injection h with h; subst h
      rename_i r hr
      have := OwnL.sl (w := w) (base := base) (v := .slice none 0 0) (t := 0) (k := 1) (es := []) (cells := []) (g := []) (vs := vs) (ds := r) (f := []) (World.ownsRow_nil _ _ _ _) (by decide) (by simp) .nil (zDV_ok hr) (by simp [Value.ownBlock])
      simpa [Value.ownBlock] using this
    · cases h
theorem ownRep {base : Nat} {vs : List Value} {ds : List DV} (h : OwnL w base vs ds []) : ∀ n : Nat, OwnL w base (List.replicate n vs).flatten (List.replicate n ds).flatten []
  | 0 => .nil
  | n + 1 => by
    rw [List.replicate_succ, List.replicate_succ, List.flatten_cons, List.flatten_cons]
    simpa using h.app (ownRep h n) (by simp)

def tby (P : Program) (t : TypeId) : Option Nat := (P.info? t).map (·.bytes)

theorem h_make {o : Oper} {t el : TypeId} {k n by_ : Nat} {x y : Operand} {zs : List Value} {ds : List DV} (ho : o.op = .makeSlice t x y) (hx : s.ev x = scAV (.int .i64 n)) (hy : s.ev y = scAV (.int .i64 n)) (ht : tel P t = some (el, k)) (hk : 0 < k)
    (hz : tzero P el = some zs) (hzl : zs.length = k) (hd : zDV zs = some ds) (hby : tby P el = some by_) (hn : by_ * n ≤ 281474976710656) (h63 : n ≤ maxLen) :
    HStep P o s (.p false [.own s.n s.c]) [.row s.c el k (List.replicate n ds) true] := by
  intro w0 N a w E h
  obtain ⟨hu, hsz⟩ := tel_u ht
  have ex := ev_ok h x; have ey := ev_ok h y
  rw [hx] at ex; rw [hy] at ey
  have ex := slot_sc ex; have ey := slot_sc ey
  unfold tzero at hz
  unfold tsz at hsz
  unfold tby at hby
  cases hi : P.info? el with
  | none => simp [hi] at hsz
  | some ie =>
    simp [hi] at hsz hby
    cases hzz : ie.zero with
    | none => simp [hi, hzz] at hz
    | some z =>
      simp [hi, hzz] at hz
      obtain ⟨w', hrun, hown, hgr⟩ := run_make_full (P := P) w w.heap.size t el ie z k hu hi hzz hsz .i64 .i64 n (by rw [hby]; exact hn) h63 (Nat.le_refl _)
      unfold Oper.wp
      have hrun' : (execOp a.eval o).run P w = .ok (.value (.slice (some ⟨w.heap.size, 0, none⟩) n n)) w' := by
        simp only [execOp, ho, ex, ey]
        rw [Sem.run_bind, hrun]; rfl
      rw [hrun', Oper.upon_value]
      have hb : Below w.heap.size w w' := (Below.refl _ _).grown hgr (Nat.le_refl _) (by simp)
      have hlt : w.heap.size < w'.heap.size := (own_blk hown rfl).2
      have hdl : ds.length = k := by
        have := (zDV_ok (w := w) (base := 0) hd).rep.len
        omega
      have hzc : z.cells.size = k := by rw [← hzl, ← hz]; simp
      have hcells : (madeCells z.cells (n * k)).toList = (List.replicate n zs).flatten := by
        have := madeCells_rep z.cells n (by omega)
        rw [hzc] at this
        rw [this, hz]
      refine ⟨_, ⟨upd E.v s.n (.slice (some ⟨w.heap.size, 0, none⟩) n n), upd E.m s.n [w.heap.size], upd E.o s.n [], fun b => E.A b ∨ b ∈ ([] : List Nat)⟩, rfl, hb, ?_, ?_, ?_⟩
      · have := ext_push (s := s) (E := E) (X := .row s.c el k (List.replicate n ds) true) (v' := .slice (some ⟨w.heap.size, 0, none⟩) n n) (m' := [w.heap.size]) (o' := []) (F := fun b => w.heap.size ≤ b) (by simp) (by simp)
        exact ⟨this.same, this.A, this.A', this.new⟩
      · refine h.pushOb rfl hb (fun b hbm => ?_) (by simp) (by simp) ?_
        · simp at hbm; subst hbm
          exact ⟨hlt, fun hA => by have := h.A_lt _ hA; omega, fun j hj hm => by have := h.m_lt j hj _ hm; omega⟩
        · rintro E' rfl hstay
          refine ⟨_, by omega, by simp only [upd_same, List.length_replicate]; exact own_mono hown h.bel.size, hk, fun e he => by rw [List.eq_of_mem_replicate he]; exact hdl, by simp only [upd_same]; rfl, ?_⟩
          simp only [if_pos, upd_same]
          rw [hcells]
          exact ownRep (zDV_ok hd) n
      · refine slot_one_mk ⟨by simp [AS.pushL, AS.push], fun _ => by simp only [upd_same]⟩
end
end Go.Proofs.Ytlcnokbhoekpkaa
