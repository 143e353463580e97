/- Abstract states of a function's frame and memory; what they say of a machine's frame and world. No program here. -/
import Derived.Test.YtlcnokbhoekpkaaAe1
namespace Go.Proofs.Ytlcnokbhoekpkaa
open Go.RowKit
set_option linter.unusedVariables false
set_option linter.unusedSimpArgs false

/-- a cell: data; the nil slice; a row of the call's own (object, stamp); a pointer to a variable; to an element of an own row; to data that is only read -/
inductive AC where
  | d (x : DV)
  | nil
  | own (i st : Nat)
  | ptr (i st off : Nat)
  | elt (i st k j off : Nat)
  | rd (cs : List DV)

inductive AV where
  | p (agg : Bool) (cs : List AC)
  | tup (xs : List (Bool × List AC))
  | und

inductive Ob where
  | var (st : Nat) (t : TypeId) (cs : List AC)
  | arr (st : Nat) (t : TypeId) (k : Nat) (es : List (List AC))
  | row (st : Nat) (t : TypeId) (k : Nat) (es : List (List DV)) (deep : Bool)
  | frz (st : Nat) (x : DV)
  | dx (st : Nat) (x : DV)
  | dead

def Ob.st : Ob → Option Nat
  | .var st _ _ | .arr st _ _ _ | .row st _ _ _ _ | .frz st _ | .dx st _ => some st
  | .dead => none

structure AS where
  sl : Nat → AV
  ob : Nat → Ob
  n : Nat
  c : Nat

def upd {α : Type} (f : Nat → α) (i : Nat) (x : α) : Nat → α := fun j => if j = i then x else f j
theorem upd_same {α : Type} (f : Nat → α) (i : Nat) (x : α) : upd f i x i = x := by simp [upd]
theorem upd_ne {α : Type} (f : Nat → α) {i j : Nat} (x : α) (h : j ≠ i) : upd f i x j = f j := by simp [upd, h]
theorem upd_at {α : Type} (f : Nat → α) (i j : Nat) (x : α) : upd f i x j = if j = i then x else f j := rfl

def AS.lv (s : AS) (i : Nat) : Option Nat := if i < s.n then (s.ob i).st else none
def AS.put (s : AS) (d : Option Nat) (x : AV) : AS := match d with | some d => { s with sl := upd s.sl d x } | none => s
theorem AS.put_lv (s : AS) (d : Option Nat) (x : AV) : (s.put d x).lv = s.lv := by cases d <;> rfl
theorem AS.put_c (s : AS) (d : Option Nat) (x : AV) : (s.put d x).c = s.c := by cases d <;> rfl
theorem AS.put_n (s : AS) (d : Option Nat) (x : AV) : (s.put d x).n = s.n := by cases d <;> rfl
theorem AS.put_ob (s : AS) (d : Option Nat) (x : AV) : (s.put d x).ob = s.ob := by cases d <;> rfl

/-- the witness: the objects' values, their blocks, the blocks of what their elements own, the blocks that are not changed -/
structure En where
  v : Nat → Value
  m : Nat → List Nat
  o : Nat → List Nat
  A : Nat → Prop

def CellR (w : World) (E : En) (L : Nat → Option Nat) (c : Nat) : AC → Value → Prop
  | .d x, u => RepL w E.A [u] [x]
  | .nil, u => u = .slice none 0 0
  | .own i st, u => st < c ∧ (L i = some st → u = E.v i)
  | .ptr i st off, u => st < c ∧ (L i = some st → ∃ g, E.v i = .pointer (some ⟨g, 0, none⟩) ∧ u = .pointer (some ⟨g, off, none⟩))
  | .elt i st k j off, u => st < c ∧ (L i = some st → ∃ g n cp, E.v i = .slice (some ⟨g, 0, none⟩) n cp ∧ u = .pointer (some ⟨g, j * k + off, none⟩))
  | .rd cs, u => ∃ b off vals, u = .pointer (some ⟨b, off, none⟩) ∧ E.A b ∧ RepL w E.A vals cs ∧ At w b off vals

def CellsR (w : World) (E : En) (L : Nat → Option Nat) (c : Nat) (cs : List AC) (vals : List Value) : Prop :=
  cs.length = vals.length ∧ ∀ (j : Nat) x u, cs[j]? = some x → vals[j]? = some u → CellR w E L c x u

def PartR (w : World) (E : En) (L : Nat → Option Nat) (c : Nat) (b : Bool) (cs : List AC) (v : Value) : Prop :=
  if b then ∃ vals : List Value, v = .agg vals.toArray ∧ CellsR w E L c cs vals else CellsR w E L c cs [v]

def SlotR (w : World) (E : En) (L : Nat → Option Nat) (c : Nat) : AV → Value → Prop
  | .p b cs, v => PartR w E L c b cs v
  | .tup xs, v => ∃ vs : List Value, v = .tuple vs.toArray ∧ xs.length = vs.length ∧ ∀ (j : Nat) b cs u, xs[j]? = some (b, cs) → vs[j]? = some u → PartR w E L c b cs u
  | .und, _ => True

def ObR (w : World) (base : Nat) (E : En) (L : Nat → Option Nat) (c : Nat) (i : Nat) : Ob → Prop
  | .var st t cs => ∃ g vals, st < c ∧ E.v i = .pointer (some ⟨g, 0, none⟩) ∧ E.m i = [g] ∧ E.o i = [] ∧ base ≤ g ∧ Blk w g t (vals : List Value).toArray ∧ CellsR w E L c cs vals
  | .arr st t k es => ∃ g vals, st < c ∧ E.v i = .slice (some ⟨g, 0, none⟩) es.length es.length ∧ E.m i = [g] ∧ E.o i = [] ∧ base ≤ g ∧ es.length ≤ maxLen ∧ Blk w g t (vals : List Value).toArray ∧ 0 < k ∧ (∀ e ∈ es, e.length = k) ∧ CellsR w E L c es.flatten vals
  | .row st t k es deep => ∃ cells, st < c ∧ w.ownsRow base t k (E.v i) es.length cells ∧ 0 < k ∧ (∀ e ∈ es, e.length = k) ∧ E.m i = (E.v i).ownBlock.toList ∧
      (if deep then OwnL w base cells es.flatten (E.o i) else E.o i = [] ∧ RepL w E.A cells es.flatten)
  | .frz st x => st < c ∧ E.m i = [] ∧ E.o i = [] ∧ RepL w E.A [E.v i] [x]
  | .dx st x => st < c ∧ E.o i = [] ∧ OwnL w base [E.v i] [x] (E.m i)
  | .dead => True

/-- the world at a function's entry, and the blocks that its arguments may lie in -/
structure Cx extends World where
  B : Nat → Prop
instance : Coe Cx World := ⟨Cx.toWorld⟩

structure RepE (w0 : Cx) (N : Nat) (s : AS) (a : Act) (w : World) (E : En) : Prop where
  size : a.tmps.size = N
  defers : a.defers = []
  bel : Below w0.heap.size w0.toWorld w
  obj : ∀ i, i < s.n → ObR w w0.heap.size E s.lv s.c i (s.ob i)
  slot : ∀ t, SlotR w E s.lv s.c (s.sl t) (a.tmps.getD t undef)
  A_lt : ∀ b, E.A b → b < w.heap.size
  A_m : ∀ b, E.A b → ∀ i, i < s.n → b ∉ E.m i
  A_o : ∀ i, i < s.n → ∀ b ∈ E.o i, E.A b
  mm : ∀ i j, i < s.n → j < s.n → i ≠ j → ∀ b ∈ E.m i, b ∉ E.m j
  oo : ∀ i j, i < s.n → j < s.n → i ≠ j → ∀ b ∈ E.o i, b ∉ E.o j
  m_lt : ∀ i, i < s.n → ∀ b ∈ E.m i, b < w.heap.size
  anc : ∀ b, E.A b → w0.B b ∨ w0.heap.size ≤ b

section
variable {w0 : Cx} {w w' : World} {E E' : En} {L L' : Nat → Option Nat} {c c' N : Nat} {s : AS} {a : Act}

/-- what must hold for cells to stay what they are -/
structure Stay (w : World) (E : En) (L : Nat → Option Nat) (c : Nat) (w' : World) (E' : En) (L' : Nat → Option Nat) (c' : Nat) : Prop where
  A : ∀ b, E.A b → E'.A b ∧ w'.heap[b]? = w.heap[b]?
  L : ∀ i st, st < c → L' i = some st → L i = some st ∧ E'.v i = E.v i
  c : c ≤ c'

theorem RepL.stay {vs : List Value} {ds : List DV} (h : RepL w E.A vs ds) (k : Stay w E L c w' E' L' c') : RepL w' E'.A vs ds :=
  (h.keep fun b hb => (k.A b hb).2).mono fun b hb => (k.A b hb).1

theorem CellR.stay {x : AC} {u : Value} (h : CellR w E L c x u) (k : Stay w E L c w' E' L' c') : CellR w' E' L' c' x u := by
  cases x with
  | d x => exact RepL.stay h k
  | nil => exact h
  | own i st => exact ⟨Nat.lt_of_lt_of_le h.1 k.c, fun hl => by obtain ⟨h1, h2⟩ := k.L i st h.1 hl; rw [h2]; exact h.2 h1⟩
  | ptr i st off => exact ⟨Nat.lt_of_lt_of_le h.1 k.c, fun hl => by obtain ⟨h1, h2⟩ := k.L i st h.1 hl; rw [h2]; exact h.2 h1⟩
  | elt i st kk j off => exact ⟨Nat.lt_of_lt_of_le h.1 k.c, fun hl => by obtain ⟨h1, h2⟩ := k.L i st h.1 hl; rw [h2]; exact h.2 h1⟩
  | rd cs =>
    obtain ⟨b, off, vals, h1, h2, h3, h4⟩ := h
    exact ⟨b, off, vals, h1, (k.A b h2).1, h3.stay k, h4.keep (k.A b h2).2⟩

theorem CellsR.stay {cs : List AC} {vals : List Value} (h : CellsR w E L c cs vals) (k : Stay w E L c w' E' L' c') : CellsR w' E' L' c' cs vals :=
  ⟨h.1, fun j x u h1 h2 => (h.2 j x u h1 h2).stay k⟩
theorem PartR.stay {b : Bool} {cs : List AC} {v : Value} (h : PartR w E L c b cs v) (k : Stay w E L c w' E' L' c') : PartR w' E' L' c' b cs v := by
  unfold PartR at h ⊢
  split
  · rename_i hb; rw [if_pos hb] at h; obtain ⟨vals, h1, h2⟩ := h; exact ⟨vals, h1, h2.stay k⟩
  · rename_i hb; rw [if_neg hb] at h; exact h.stay k
theorem SlotR.stay {x : AV} {v : Value} (h : SlotR w E L c x v) (k : Stay w E L c w' E' L' c') : SlotR w' E' L' c' x v := by
  cases x with
  | p b cs => exact PartR.stay h k
  | tup xs => obtain ⟨vs, h1, h2, h3⟩ := h; exact ⟨vs, h1, h2, fun j b cs u h4 h5 => (h3 j b cs u h4 h5).stay k⟩
  | und => trivial

/-- an object that is not changed -/
theorem ObR.stay {base i : Nat} {x : Ob} (h : ObR w base E L c i x) (k : Stay w E L c w' E' L' c') (hv : E'.v i = E.v i) (hm : E'.m i = E.m i) (ho : E'.o i = E.o i)
    (hb : ∀ b ∈ E.m i, w'.heap[b]? = w.heap[b]?) (ha : ∀ b ∈ E.o i, E.A b) : ObR w' base E' L' c' i x := by
  cases x with
  | var st t cs =>
    obtain ⟨g, vals, h0, h1, h2, h3, h4, h5, h6⟩ := h
    exact ⟨g, vals, Nat.lt_of_lt_of_le h0 k.c, hv.trans h1, hm.trans h2, ho.trans h3, h4, (hb g (by rw [h2]; simp)).trans h5, h6.stay k⟩
  | arr st t kk es =>
    obtain ⟨g, vals, h0, h1, h2, h3, h4, h5, h6, h7, h8, h9⟩ := h
    exact ⟨g, vals, Nat.lt_of_lt_of_le h0 k.c, hv.trans h1, hm.trans h2, ho.trans h3, h4, h5, (hb g (by rw [h2]; simp)).trans h6, h7, h8, h9.stay k⟩
  | row st t kk es deep =>
    obtain ⟨cells, h0, h1, h2, h3, h4, h5⟩ := h
    refine ⟨cells, Nat.lt_of_lt_of_le h0 k.c, by rw [hv]; exact own_keep h1 (fun b hbb => hb b (by rw [h4]; simp [hbb])), h2, h3, by rw [hm, hv]; exact h4, ?_⟩
    split
    · rename_i hd; rw [if_pos hd] at h5; rw [ho]; exact h5.keep (fun b hbb => (k.A b (ha b hbb)).2)
    · rename_i hd; rw [if_neg hd] at h5; exact ⟨ho.trans h5.1, h5.2.stay k⟩
  | frz st x => exact ⟨Nat.lt_of_lt_of_le h.1 k.c, hm.trans h.2.1, ho.trans h.2.2.1, by rw [hv]; exact h.2.2.2.stay k⟩
  | dx st x => exact ⟨Nat.lt_of_lt_of_le h.1 k.c, ho.trans h.2.1, by rw [hv, hm]; exact h.2.2.keep hb⟩
  | dead => trivial

/-- THE CHANGE of one object (or a new one), of the world in its blocks -/
theorem RepE.change (h : RepE w0 N s a w E) {i n' : Nat} {X : Ob} {v' : Value} {m' o' : List Nat} {A' : Nat → Prop}
    (hn : s.n ≤ n') (hn2 : ∀ j, j < n' → j ≠ i → j < s.n) (hi : i < n')
    (hb : Below w0.heap.size w0.toWorld w') (hsz : w.heap.size ≤ w'.heap.size)
    (hblk : ∀ k, k < w.heap.size → (i < s.n → k ∉ E.m i) → w'.heap[k]? = w.heap[k]?)
    (hc : s.c ≤ c') (hst : (i < s.n ∧ X.st = (s.ob i).st ∧ v' = E.v i) ∨ ∀ st, X.st = some st → s.c ≤ st)
    (hA : ∀ b, E.A b → A' b) (hA3 : ∀ b, A' b → E.A b ∨ w0.heap.size ≤ b) (hA2 : ∀ b, A' b → b < w'.heap.size ∧ b ∉ m' ∧ ∀ j, j < s.n → j ≠ i → b ∉ E.m j)
    (hm : ∀ b ∈ m', b < w'.heap.size ∧ ∀ j, j < s.n → j ≠ i → b ∉ E.m j)
    (ho : ∀ b ∈ o', A' b ∧ ∀ j, j < s.n → j ≠ i → b ∉ E.o j)
    (hX : ∀ s' : AS, s' = { s with ob := upd s.ob i X, n := n', c := c' } → ∀ E' : En, E' = ⟨upd E.v i v', upd E.m i m', upd E.o i o', A'⟩ → Stay w E s.lv s.c w' E' s'.lv c' → ObR w' w0.heap.size E' s'.lv c' i X) :
    RepE w0 N { s with ob := upd s.ob i X, n := n', c := c' } a w' ⟨upd E.v i v', upd E.m i m', upd E.o i o', A'⟩ := by
  have hAm : ∀ b, E.A b → w'.heap[b]? = w.heap[b]? := fun b hbA => hblk b (h.A_lt b hbA) (fun hlt => h.A_m b hbA i hlt)
  have hstay : Stay w E s.lv s.c w' ⟨upd E.v i v', upd E.m i m', upd E.o i o', A'⟩ (AS.lv { s with ob := upd s.ob i X, n := n', c := c' }) c' := by
    refine ⟨fun b hbA => ⟨hA b hbA, hAm b hbA⟩, fun j st hlt hl => ?_, hc⟩
    unfold AS.lv at hl ⊢
    by_cases e : j = i
    · subst e
      simp only [upd_same, if_pos hi] at hl ⊢
      rcases hst with ⟨h1, h2, h3⟩ | h1
      · rw [if_pos h1, ← h2]; exact ⟨hl, h3⟩
      · have := h1 st hl; omega
    · simp only [upd_ne _ _ e] at hl ⊢
      by_cases hj : j < n'
      · rw [if_pos hj] at hl; rw [if_pos (hn2 j hj e)]; exact ⟨hl, trivial⟩
      · rw [if_neg hj] at hl; cases hl
  refine ⟨h.size, h.defers, hb, ?_, fun t => (h.slot t).stay hstay, fun b hbA => (hA2 b hbA).1, ?_, ?_, ?_, ?_, ?_, fun b hbb => (hA3 b hbb).elim (h.anc b) .inr⟩
  · intro j hj
    by_cases e : j = i
    · subst e; simp only [upd_same]; exact hX _ rfl _ rfl hstay
    · simp only [upd_ne _ _ e]
      have hjn := hn2 j hj e
      refine (h.obj j hjn).stay hstay (upd_ne _ _ e) (upd_ne _ _ e) (upd_ne _ _ e) (fun b hbm => hblk b (h.m_lt j hjn b hbm) (fun hlt => h.mm j i hjn hlt e b hbm)) (fun b hbo => h.A_o j hjn b hbo)
  · intro b hbA j hj
    by_cases e : j = i
    · subst e; simp only [upd_same]; exact (hA2 b hbA).2.1
    · simp only [upd_ne _ _ e]; exact (hA2 b hbA).2.2 j (hn2 j hj e) e
  · intro j hj b hbo
    by_cases e : j = i
    · subst e; simp only [upd_same] at hbo; exact (ho b hbo).1
    · simp only [upd_ne _ _ e] at hbo; exact hA b (h.A_o j (hn2 j hj e) b hbo)
  · intro j k hj hk hne b hbm
    by_cases e : j = i
    · subst e
      simp only [upd_same, upd_ne _ _ (Ne.symm hne)] at hbm ⊢
      exact (hm b hbm).2 k (hn2 k hk (Ne.symm hne)) (Ne.symm hne)
    · by_cases e2 : k = i
      · subst e2
        simp only [upd_same, upd_ne _ _ e] at hbm ⊢
        exact fun hbm' => (hm b hbm').2 j (hn2 j hj e) e hbm
      · simp only [upd_ne _ _ e, upd_ne _ _ e2] at hbm ⊢
        exact h.mm j k (hn2 j hj e) (hn2 k hk e2) hne b hbm
  · intro j k hj hk hne b hbm
    by_cases e : j = i
    · subst e
      simp only [upd_same, upd_ne _ _ (Ne.symm hne)] at hbm ⊢
      exact (ho b hbm).2 k (hn2 k hk (Ne.symm hne)) (Ne.symm hne)
    · by_cases e2 : k = i
      · subst e2
        simp only [upd_same, upd_ne _ _ e] at hbm ⊢
        exact fun hbm' => (ho b hbm').2 j (hn2 j hj e) e hbm
      · simp only [upd_ne _ _ e, upd_ne _ _ e2] at hbm ⊢
        exact h.oo j k (hn2 j hj e) (hn2 k hk e2) hne b hbm
  · intro j hj b hbm
    by_cases e : j = i
    · subst e; simp only [upd_same] at hbm; exact (hm b hbm).1
    · simp only [upd_ne _ _ e] at hbm; exact Nat.lt_of_lt_of_le (h.m_lt j (hn2 j hj e) b hbm) hsz

theorem Stay.refl : Stay w E L c w E L c := ⟨fun b hb => ⟨hb, rfl⟩, fun i st _ h => ⟨h, rfl⟩, Nat.le_refl _⟩

/-- a world in which all blocks are as they were; new ones may join those that are not changed -/
theorem RepE.world (h : RepE w0 N s a w E) (hb : Below w.heap.size w w') {A' : Nat → Prop} (hA : ∀ b, E.A b → A' b) (hA2 : ∀ b, A' b → E.A b ∨ (w.heap.size ≤ b ∧ b < w'.heap.size)) :
    RepE w0 N s a w' ⟨E.v, E.m, E.o, A'⟩ := by
  have hstay : Stay w E s.lv s.c w' ⟨E.v, E.m, E.o, A'⟩ s.lv s.c := ⟨fun b hbA => ⟨hA b hbA, hb.block b (h.A_lt b hbA)⟩, fun i st _ hl => ⟨hl, rfl⟩, Nat.le_refl _⟩
  refine ⟨h.size, h.defers, h.bel.trans (hb.mono h.bel.size), fun i hi => (h.obj i hi).stay hstay rfl rfl rfl (fun b hbm => hb.block b (h.m_lt i hi b hbm)) (fun b hbo => h.A_o i hi b hbo),
    fun t => (h.slot t).stay hstay, fun b hbA => ?_, fun b hbA i hi hbm => ?_, fun i hi b hbo => hA b (h.A_o i hi b hbo), h.mm, h.oo, fun i hi b hbm => Nat.lt_of_lt_of_le (h.m_lt i hi b hbm) hb.size, fun b hbb => (hA2 b hbb).elim (h.anc b) (fun h1 => .inr (Nat.le_trans h.bel.size h1.1))⟩
  · rcases hA2 b hbA with h1 | h1
    · exact Nat.lt_of_lt_of_le (h.A_lt b h1) hb.size
    · exact h1.2
  · rcases hA2 b hbA with h1 | h1
    · exact h.A_m b h1 i hi hbm
    · have := h.m_lt i hi b hbm; omega

theorem RepE.world' (h : RepE w0 N s a w E) (hb : Below w.heap.size w w') : RepE w0 N s a w' E := h.world hb (fun _ h => h) (fun _ h => .inl h)

theorem RepE.put (h : RepE w0 N s a w E) {d : Option Nat} {x : AV} {v : Value} (hx : SlotR w E s.lv s.c x v) (hd : ∀ k, d = some k → k < N) : RepE w0 N (s.put d x) (a.put d v) w E := by
  cases d with
  | none => exact h
  | some d =>
    have hd := hd d rfl
    refine ⟨by simpa [Act.put] using h.size, h.defers, h.bel, h.obj, fun t => ?_, h.A_lt, h.A_m, h.A_o, h.mm, h.oo, h.m_lt, h.anc⟩
    have hs := h.size
    by_cases e : t = d
    · subst e
      simp only [AS.put, upd_same, Act.put]
      rw [show (a.tmps.setIfInBounds t v).getD t undef = v from by simp [hs, hd]]
      exact hx
    · simp only [AS.put, upd_ne _ _ e, Act.put]
      rw [show (a.tmps.setIfInBounds d v).getD t undef = a.tmps.getD t undef from by simp [Array.getElem?_setIfInBounds_ne (Ne.symm e)]]
      exact h.slot t

/-- forgetting -/
theorem RepE.weaken (h : RepE w0 N s a w E) {s' : AS} (hn : s'.n ≤ s.n) (hc : s.c ≤ s'.c) (ho : ∀ i, i < s'.n → s'.ob i = s.ob i ∨ s'.ob i = .dead) (hs : ∀ t, s'.sl t = s.sl t ∨ s'.sl t = .und) : RepE w0 N s' a w E := by
  have hstay : Stay w E s.lv s.c w E s'.lv s'.c := by
    refine ⟨fun b hb => ⟨hb, rfl⟩, fun i st _ hl => ⟨?_, rfl⟩, hc⟩
    unfold AS.lv at hl ⊢
    split at hl
    · rename_i hi
      rw [if_pos (by omega)]
      rcases ho i hi with e | e
      · rw [← e]; exact hl
      · rw [e] at hl; cases hl
    · cases hl
  refine ⟨h.size, h.defers, h.bel, fun i hi => ?_, fun t => ?_, h.A_lt, fun b hb i hi => h.A_m b hb i (by omega), fun i hi => h.A_o i (by omega), fun i j hi hj => h.mm i j (by omega) (by omega), fun i j hi hj => h.oo i j (by omega) (by omega), fun i hi => h.m_lt i (by omega), h.anc⟩
  · rcases ho i hi with e | e
    · rw [e]; exact (h.obj i (by omega)).stay hstay rfl rfl rfl (fun _ _ => rfl) (fun b hb => h.A_o i (by omega) b hb)
    · rw [e]; trivial
  · rcases hs t with e | e
    · rw [e]; exact (h.slot t).stay hstay
    · rw [e]; trivial
end
end Go.Proofs.Ytlcnokbhoekpkaa
