/- Regions that draw their order: the operations of the head. No program here. -/
import Derived.Test.YtlcnokbhoekpkaaAeE
namespace Go.Proofs.Ytlcnokbhoekpkaa
open Go.RowKit
set_option linter.unusedVariables false
set_option linter.unusedSimpArgs false

inductive HK where
  | v (x : AV)
  | c (res : List Rs)
  | b (el k : Nat) (parts : List (Nat × Operand))

def hvRes (rs : List Rs) : AV := match rs.map fun r => (r.1, r.2.1.map AC.d) with | [(b, cs)] => .p b cs | l => .tup l
def catV (a : Act) (parts : List (Nat × Operand)) : List Value := parts.flatMap fun x => (a.eval x.2).cells.toList
def dL : List AC → Option (List DV)
  | [] => some []
  | .d x :: r => match dL r with | some xs => some (x :: xs) | none => none
  | _ :: _ => none
def dLL : List (List AC) → Option (List (List DV))
  | [] => some []
  | e :: r => match dL e, dLL r with | some x, some xs => some (x :: xs) | _, _ => none
def bView (el k : Nat) (es : List (List AC)) : AV := match dLL es with | some ds => .p false [.d (.sl el k ds)] | none => .und
def solidC : AC → Bool
  | .d (.sc _) => true
  | .nil => true
  | .own _ _ => true
  | .ptr _ _ _ => true
  | .elt _ _ _ _ _ => true
  | _ => false
def finV (pr : Bool) (x : AV) : AV := if pr then x else match x with
  | .p b cs => if cs.all solidC then .p b cs else .und
  | _ => .und
/-- values of operations without calls -/
def hVb (P : Program) (s : AS) : Op → Option AV
  | .build t parts => if tpl P t then (match zeroAC P t with | some z => (match fillA P s t parts.toList z with | some cs => some (.p true cs) | none => none) | none => none) else none
  | op => hV P s op

def HRun (P : Program) (pr : Bool) (h q : AS) (o : Oper) (kd : HK) (x : AV) (q' : AS) : Prop :=
  (∃ y, hVb P h o.op = some y ∧ kd = .v y ∧ x = y ∧ q' = q.put o.dst (finV pr y)) ∨
  (∃ f args ts ys res, o.op = .call ⟨.value (.func f), args, ts⟩ ∧ Meets P f ys res ∧ argsRd h args.toList ys ∧ res.all (·.2.2) = true ∧ (pr = true → resO false res 0 = []) ∧ kd = .c res ∧ x = hvRes res ∧ q' = (q.pushL (resO false res q.c)).put o.dst (resAV res q.n q.c)) ∨
  (∃ t len parts el k es esq, o.op = .buildSlice t len parts ∧ pr = false ∧ tel P t = some (el, k) ∧ (tzero P el).isSome = true ∧ 0 < k ∧ parts.toList.length = len ∧ len * k ≤ 16777216 ∧ bsF h k parts.toList 0 = some es ∧ bsF q k parts.toList 0 = some esq ∧
    kd = .b el k parts.toList ∧ x = bView el k es ∧ q' = (q.push (.arr q.c el k esq)).put o.dst (.p false [.own q.n q.c]))

def En.plus (E : En) (m M : Nat) : En := { E with A := fun b => E.A b ∨ (m ≤ b ∧ b < M) }

def Fact (m : Nat) (E : En) (L : Nat → Option Nat) (c : Nat) (a : Act) (w : World) (v : Value) (f : List Nat) : HK → Prop
  | .v x => f = []
  | .c res => ∃ vs fs, (if res.length = 1 then vs = [v] else v = .tuple vs.toArray) ∧ ResQs w m (fun _ => False) vs res fs ∧ f = fs.flatten ∧ f.Nodup ∧ ∀ r ∈ res, r.2.2 = true
  | .b el k parts => ∃ g, v = .slice (some ⟨g, 0, none⟩) parts.length parts.length ∧ f = [g] ∧ m ≤ g ∧ Blk w g el (catV a parts).toArray

section
variable {P : Program} {w0 : Cx} {w w' : World} {N m : Nat} {s h H : AS} {a : Act} {E : En} {o : Oper}

theorem ResQs.keep {b0 : Nat} {A : Nat → Prop} (hk : ∀ b, b < w.heap.size → w'.heap[b]? = w.heap[b]?) : ∀ {vs : List Value} {rs : List Rs} {fs : List (List Nat)}, (∀ r ∈ rs, r.2.2 = true) → ResQs w b0 A vs rs fs → ResQs w' b0 A vs rs fs
  | [], [], [], _, _ => trivial
  | v :: vs, r :: rs, f :: fs, hd, h => by
    refine ⟨?_, ResQs.keep hk (fun r hr => hd r (List.mem_cons_of_mem _ hr)) h.2⟩
    obtain ⟨vals, h1, h2⟩ := h.1
    have hr := hd r (List.mem_cons_self ..)
    rw [if_pos hr] at h2
    exact ⟨vals, h1, by rw [if_pos hr]; exact h2.keep fun b hb => hk b (h2.blocks b hb).2⟩
  | [], _ :: _, _, _, h => by cases h
  | [], [], _ :: _, _, h => by cases h
  | _ :: _, [], _, _, h => by cases h
  | _ :: _, _ :: _, [], _, h => by cases h
theorem ResQs.blocks {b0 : Nat} {A : Nat → Prop} : ∀ {vs : List Value} {rs : List Rs} {fs : List (List Nat)}, (∀ r ∈ rs, r.2.2 = true) → ResQs w b0 A vs rs fs → ∀ b ∈ fs.flatten, b0 ≤ b ∧ b < w.heap.size
  | [], [], [], _, _ => by simp
  | v :: vs, r :: rs, f :: fs, hd, h => by
    intro b hb
    rw [List.flatten_cons] at hb
    rcases List.mem_append.1 hb with hb | hb
    · obtain ⟨vals, h1, h2⟩ := h.1
      rw [if_pos (hd r (List.mem_cons_self ..))] at h2
      exact h2.blocks b hb
    · exact ResQs.blocks (fun r hr => hd r (List.mem_cons_of_mem _ hr)) h.2 b hb
  | [], _ :: _, _, _, h => by cases h
  | [], [], _ :: _, _, h => by cases h
  | _ :: _, [], _, _, h => by cases h
  | _ :: _, _ :: _, [], _, h => by cases h
theorem ResQs.lo {b0 b1 : Nat} {A : Nat → Prop} (hb : b1 ≤ b0) : ∀ {vs : List Value} {rs : List Rs} {fs : List (List Nat)}, (∀ r ∈ rs, r.2.2 = true) → ResQs w b0 A vs rs fs → ResQs w b1 A vs rs fs
  | [], [], [], _, _ => trivial
  | v :: vs, r :: rs, f :: fs, hd, h => by
    refine ⟨?_, ResQs.lo hb (fun r hr => hd r (List.mem_cons_of_mem _ hr)) h.2⟩
    obtain ⟨vals, h1, h2⟩ := h.1
    have hr := hd r (List.mem_cons_self ..)
    rw [if_pos hr] at h2
    exact ⟨vals, h1, by rw [if_pos hr]; exact h2.lo hb⟩
  | [], _ :: _, _, _, h => by cases h
  | [], [], _ :: _, _, h => by cases h
  | _ :: _, [], _, _, h => by cases h
  | _ :: _, _ :: _, [], _, h => by cases h
/-- results read -/
theorem ResQs.parts {b0 : Nat} {A : Nat → Prop} {L : Nat → Option Nat} {c : Nat} (hA : ∀ b, b0 ≤ b → b < w.heap.size → E.A b) : ∀ {vs : List Value} {rs : List Rs} {fs : List (List Nat)}, (∀ r ∈ rs, r.2.2 = true) → ResQs w b0 A vs rs fs → PartsR w E L c (rs.map fun r => (r.1, r.2.1.map AC.d)) vs
  | [], [], [], _, _ => trivial
  | v :: vs, r :: rs, f :: fs, hd, h => by
    refine ⟨?_, ResQs.parts hA (fun r hr => hd r (List.mem_cons_of_mem _ hr)) h.2⟩
    obtain ⟨vals, h1, h2⟩ := h.1
    rw [if_pos (hd r (List.mem_cons_self ..))] at h2
    exact part_mk h1 (CellsR.ofRep (h2.rep.mono fun b hb => hA b (h2.blocks b hb).1 (h2.blocks b hb).2))
  | [], _ :: _, _, _, h => by cases h
  | [], [], _ :: _, _, h => by cases h
  | _ :: _, [], _, _, h => by cases h
  | _ :: _, _ :: _, [], _, h => by cases h

theorem hvRes_ok {L : Nat → Option Nat} {c : Nat} {rs : List Rs} {vs : List Value} {v : Value} (h : PartsR w E L c (rs.map fun r => (r.1, r.2.1.map AC.d)) vs) (hv : if rs.length = 1 then vs = [v] else v = .tuple vs.toArray) : SlotR w E L c (hvRes rs) v := by
  obtain ⟨h1, h2⟩ := partsR_get h
  unfold hvRes
  split
  · rename_i b cs he
    have hl : rs.length = 1 := by have := congrArg List.length he; simpa using this
    rw [he] at h
    rw [if_pos hl] at hv
    subst hv
    exact h.1
  · rename_i hne
    have : ¬ rs.length = 1 := by
      intro e
      match rs, e with
      | [r], _ => exact hne _ _ rfl
    rw [if_neg this] at hv
    exact ⟨vs, hv, h1, h2⟩

theorem cellsOk_alike {xs : List Operand} (hal : Alike h H xs) (x : AV) : cellsOk H x = cellsOk h x := by
  have hoo : H.own? = h.own? := by funext i st; exact hal.own i st
  have hok : okC H = okC h := by funext c; cases c <;> simp [okC, hoo]
  unfold cellsOk; rw [hok]
theorem fillA_alike {t : TypeId} : ∀ {parts : List (Nat × Operand)} {z : List AC}, Alike h H (parts.map (·.2)) → fillA P H t parts z = fillA P h t parts z
  | [], z, _ => rfl
  | (i, x) :: r, z, hal => by
    have e1 := hal.ev (x := x) (by simp)
    simp only [fillA, e1, cellsOk_alike hal]
    split
    · split
      · exact fillA_alike (hal.sub (fun y hy => by simp at hy ⊢; exact .inr hy))
      · rfl
    · rfl
theorem bsF_alike {k : Nat} : ∀ {parts : List (Nat × Operand)} {j : Nat}, Alike h H (parts.map (·.2)) → bsF H k parts j = bsF h k parts j
  | [], j, _ => rfl
  | (i, x) :: r, j, hal => by
    have e1 := hal.ev (x := x) (by simp)
    simp only [bsF, e1, cellsOk_alike hal, bsF_alike (parts := r) (hal.sub (fun y hy => by simp at hy ⊢; exact .inr hy))]
theorem rdL_alike {xs : List Operand} (hal : Alike h H xs) (cs : List AC) (ds : List DV) : rdL H cs ds = rdL h cs ds := by
  have e0 : rdC0 H = rdC0 h := by funext c x; cases c <;> simp [rdC0, hal.ob, hal.n]
  have e1 : rdL0 H = rdL0 h := by
    funext c x
    induction c generalizing x with
    | nil => cases x <;> rfl
    | cons a c ih => cases x with
      | nil => rfl
      | cons y x => simp [rdL0, e0, ih]
  have e2 : rdLL0 H = rdLL0 h := by
    funext c x
    induction c generalizing x with
    | nil => cases x <;> rfl
    | cons a c ih => cases x with
      | nil => rfl
      | cons y x => simp [rdLL0, e1, ih]
  have e3 : rdC H = rdC h := by funext c x; cases c <;> simp [rdC, hal.ob, hal.n, e2]
  induction cs generalizing ds with
  | nil => cases ds <;> rfl
  | cons a c ih => cases ds with
    | nil => rfl
    | cons y x => simp [rdL, e3, ih]
theorem argsRd_alike : ∀ {xs : List Operand} {ys : List (Bool × List DV)}, Alike h H xs → argsRd h xs ys → argsRd H xs ys
  | [], [], _, _ => trivial
  | [], _ :: _, _, h => h.elim
  | _ :: _, [], _, h => h.elim
  | x :: xs, y :: ys, hal, hr => by
    refine ⟨?_, argsRd_alike (hal.sub fun z hz => List.mem_cons_of_mem _ hz) hr.2⟩
    have := hr.1
    rw [hal.ev (List.mem_cons_self ..)]
    split
    · rename_i b cs he; rw [he] at this; exact ⟨this.1, by rw [rdL_alike hal]; exact this.2⟩
    · rename_i hne
      split at this
      · rename_i b cs he; exact absurd he (hne b cs)
      · exact this

theorem bs_cat (hr : RepE w0 N h a w E) {k : Nat} : ∀ {parts : List (Nat × Operand)} {j : Nat} {es : List (List AC)}, bsF h k parts j = some es → CellsR w E h.lv h.c es.flatten (catV a parts) ∧ (catV a parts).length = parts.length * k
  | [], j, es, hf => by simp only [bsF] at hf; injection hf with hf; subst hf; exact ⟨CellsR.nil, by simp [catV]⟩
  | (i, x) :: r, j, es, hf => by
    simp only [bsF] at hf
    split at hf
    · rename_i cs es' h1 h2
      split at hf
      · rename_i hl
        injection hf with hf; subst hf
        obtain ⟨c1, _⟩ := cellsOk_ok hr h1 (ev_ok hr x)
        obtain ⟨c2, c3⟩ := bs_cat hr h2
        have hcat : catV a ((i, x) :: r) = (a.eval x).cells.toList ++ catV a r := by simp [catV]
        rw [hcat, List.flatten_cons]
        refine ⟨c1.app c2, ?_⟩
        rw [List.length_append, c3, ← c1.1, hl.2, List.length_cons, Nat.succ_mul]; omega
      · cases hf
    · cases hf

theorem fill_cat (hr : RepE w0 N h a w E) {k : Nat} : ∀ {parts : List (Nat × Operand)} {j : Nat} {es : List (List AC)} {done rest : List Value}, bsF h k parts j = some es → done.length = j * k → rest.length = parts.length * k →
      Instr.fill (fun i => some (i * k, k)) (done ++ rest).toArray (parts.map fun x => (x.1, a.eval x.2)) = some (done ++ catV a parts).toArray
  | [], j, es, done, rest, hf, hd, hr' => by
    have : rest = [] := List.eq_nil_of_length_eq_zero (by simpa using hr')
    subst this
    simp [Instr.fill, catV]
  | (i, x) :: r, j, es, done, rest, hf, hd, hr' => by
    simp only [bsF] at hf
    split at hf
    · rename_i cs es' h1 h2
      split at hf
      · rename_i hl
        obtain ⟨rfl, hl⟩ := hl
        obtain ⟨c1, _⟩ := cellsOk_ok hr h1 (ev_ok hr x)
        have hsz : (a.eval x).cells.toList.length = k := by rw [← c1.1]; exact hl
        rw [List.length_cons, Nat.succ_mul] at hr'
        have e1 := fill_cat hr (done := done ++ (a.eval x).cells.toList) (rest := rest.drop k) h2 (by rw [List.length_append, hsz, hd, Nat.succ_mul]) (by rw [List.length_drop]; omega)
        have hcat : catV a ((i, x) :: r) = (a.eval x).cells.toList ++ catV a r := by simp [catV]
        rw [List.map_cons, Instr.fill]
        have hsz' : (a.eval x).cells.size = k := by simpa using hsz
        have hle : i * k + (a.eval x).cells.size ≤ (done ++ rest).toArray.size := by rw [hsz']; simp; omega
        simp only
        rw [if_neg (by simp [hsz']; omega), fill_step hle]
        have : plug (i * k) (a.eval x).cells.toList (done ++ rest).toArray.toList = done ++ (a.eval x).cells.toList ++ rest.drop k := by
          unfold plug
          rw [hsz]
          rw [show (done ++ rest).toArray.toList = done ++ rest from rfl, ← hd, List.take_left, List.drop_length_add_append]
        rw [this, e1, hcat, List.append_assoc]
      · cases hf
    · cases hf

theorem dL_ok {L : Nat → Option Nat} {c : Nat} : ∀ {cs : List AC} {ds : List DV} {vals : List Value}, dL cs = some ds → CellsR w E L c cs vals → RepL w E.A vals ds
  | [], ds, vals, hd, hc => by simp only [dL] at hd; injection hd with hd; subst hd; rw [hc.nil']; exact .nil
  | x :: r, ds, vals, hd, hc => by
    cases x with
    | d y =>
      simp only [dL] at hd
      split at hd
      · rename_i xs hx
        injection hd with hd; subst hd
        obtain ⟨u, us, rfl, c1, c2⟩ := hc.cons'
        exact RepL.cons c1 (dL_ok hx c2)
      · cases hd
    | _ => simp only [dL] at hd; cases hd
theorem dLL_ok {L : Nat → Option Nat} {c : Nat} : ∀ {es : List (List AC)} {ds : List (List DV)} {vals : List Value}, dLL es = some ds → CellsR w E L c es.flatten vals → RepL w E.A vals ds.flatten ∧ ds.length = es.length ∧ ∀ k, (∀ e ∈ es, e.length = k) → ∀ e ∈ ds, e.length = k
  | [], ds, vals, hd, hc => by simp only [dLL] at hd; injection hd with hd; subst hd; rw [hc.nil']; exact ⟨.nil, rfl, by simp⟩
  | e :: r, ds, vals, hd, hc => by
    simp only [dLL] at hd
    split at hd
    · rename_i x xs h1 h2
      injection hd with hd; subst hd
      rw [List.flatten_cons] at hc
      have hl : e.length ≤ vals.length := by rw [← hc.1]; simp
      have c1 : CellsR w E L c e (vals.take e.length) := by have := hc.take e.length; rwa [List.take_left] at this
      have c2 : CellsR w E L c r.flatten (vals.drop e.length) := by have := hc.drop e.length; rwa [List.drop_left] at this
      have r1 := dL_ok h1 c1
      obtain ⟨r2, r3, r4⟩ := dLL_ok h2 c2
      refine ⟨?_, by simp [r3], fun k hk y hy => ?_⟩
      · have := r1.app r2
        rwa [List.take_append_drop] at this
      · rcases List.mem_cons.1 hy with rfl | hy
        · have := r1.len; have h5 := hk e (List.mem_cons_self ..); rw [List.length_take] at this; omega
        · exact r4 k (fun e he => hk e (List.mem_cons_of_mem _ he)) y hy
    · cases hd
end
end Go.Proofs.Ytlcnokbhoekpkaa
