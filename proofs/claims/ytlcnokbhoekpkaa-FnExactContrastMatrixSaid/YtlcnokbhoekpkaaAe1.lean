/- Abstract data and how it lies in memory: reading ('RepL') and deep ownership ('OwnL'). No program here. -/
import Derived.Test.YtlcnokbhoekpkaaMem
namespace Go.Proofs.Ytlcnokbhoekpkaa
open Go.RowKit
set_option linter.unusedVariables false
set_option linter.unusedSimpArgs false

/-- data of one cell: a scalar, or a slice: its element's type, the cells of an element, the elements -/
inductive DV where
  | sc (v : Value)
  | sl (t : TypeId) (k : Nat) (es : List (List DV))

def Sc : Value → Prop
  | .bool _ => True
  | .int _ _ => True
  | .string _ => True
  | _ => False

/-- the cells 'vals' lie from block b, cell off on -/
def At (w : World) (b off : Nat) (vals : List Value) : Prop := ∀ j u, vals[j]? = some u → w.cell? ⟨b, off + j, none⟩ = some u

/-- the values read as data; the blocks that are visited are in A -/
inductive RepL (w : World) (A : Nat → Prop) : List Value → List DV → Prop
  | nil : RepL w A [] []
  | sc {v vs ds} : Sc v → RepL w A vs ds → RepL w A (v :: vs) (.sc v :: ds)
  | sl0 {a c t k vs ds} : c ≤ maxLen → RepL w A vs ds → RepL w A (.slice a 0 c :: vs) (.sl t k [] :: ds)
  | sl {b off n c t k es cells vs ds} : A b → n = es.length → 0 < n → n ≤ c → c ≤ maxLen → 0 < k → (∀ e ∈ es, e.length = k) → RepL w A cells es.flatten → At w b off cells → RepL w A vs ds →
      RepL w A (.slice (some ⟨b, off, none⟩) n c :: vs) (.sl t k es :: ds)

section
variable {w w' : World} {A B : Nat → Prop} {vs us : List Value} {ds xs : List DV}

theorem At.keep {b off : Nat} {vals : List Value} (h : At w b off vals) (hk : w'.heap[b]? = w.heap[b]?) : At w' b off vals :=
  fun j u hu => (World.cell?_of_block hk).trans (h j u hu)

theorem RepL.keep (h : RepL w A vs ds) (hk : ∀ b, A b → w'.heap[b]? = w.heap[b]?) : RepL w' A vs ds := by
  induction h with
  | nil => exact .nil
  | sc h1 _ ih => exact .sc h1 ih
  | sl0 h1 _ ih => exact .sl0 h1 ih
  | sl h1 h2 h3 h4 h5 h6 h7 _ h9 _ ih1 ih2 => exact .sl h1 h2 h3 h4 h5 h6 h7 ih1 (h9.keep (hk _ h1)) ih2

theorem RepL.mono (h : RepL w A vs ds) (hA : ∀ b, A b → B b) : RepL w B vs ds := by
  induction h with
  | nil => exact .nil
  | sc h1 _ ih => exact .sc h1 ih
  | sl0 h1 _ ih => exact .sl0 h1 ih
  | sl h1 h2 h3 h4 h5 h6 h7 _ h9 _ ih1 ih2 => exact .sl (hA _ h1) h2 h3 h4 h5 h6 h7 ih1 h9 ih2

theorem RepL.len (h : RepL w A vs ds) : vs.length = ds.length := by
  induction h with
  | nil => rfl
  | sc _ _ ih => simp [ih]
  | sl0 _ _ ih => simp [ih]
  | sl _ _ _ _ _ _ _ _ _ _ _ ih => simp [ih]

theorem RepL.one (h : RepL w A vs ds) : ∀ u ∈ vs, u.oneCell' = true := by
  induction h with
  | nil => simp
  | @sc v vs ds h1 _ ih =>
    intro u hu
    rcases List.mem_cons.1 hu with rfl | hu
    · cases u <;> simp [Sc] at h1 <;> rfl
    · exact ih u hu
  | sl0 _ _ ih =>
    intro u hu
    rcases List.mem_cons.1 hu with rfl | hu
    · rfl
    · exact ih u hu
  | sl _ _ _ _ _ _ _ _ _ _ _ ih =>
    intro u hu
    rcases List.mem_cons.1 hu with rfl | hu
    · rfl
    · exact ih u hu

theorem RepL.app (h : RepL w A vs ds) (k : RepL w A us xs) : RepL w A (vs ++ us) (ds ++ xs) := by
  induction h with
  | nil => exact k
  | sc h1 _ ih => exact .sc h1 ih
  | sl0 h1 _ ih => exact .sl0 h1 ih
  | sl h1 h2 h3 h4 h5 h6 h7 h8 h9 _ ih1 ih2 => exact .sl h1 h2 h3 h4 h5 h6 h7 h8 h9 ih2

theorem RepL.tail {v : Value} {d : DV} (h : RepL w A (v :: vs) (d :: ds)) : RepL w A vs ds := by
  cases h with
  | sc _ h => exact h
  | sl0 _ h => exact h
  | sl _ _ _ _ _ _ _ _ _ h => exact h
theorem RepL.head {v : Value} {d : DV} (h : RepL w A (v :: vs) (d :: ds)) : RepL w A [v] [d] := by
  cases h with
  | sc h1 _ => exact .sc h1 .nil
  | sl0 h1 _ => exact .sl0 h1 .nil
  | sl h1 h2 h3 h4 h5 h6 h7 h8 h9 _ => exact .sl h1 h2 h3 h4 h5 h6 h7 h8 h9 .nil
theorem RepL.cons {v : Value} {d : DV} (h : RepL w A [v] [d]) (k : RepL w A vs ds) : RepL w A (v :: vs) (d :: ds) := h.app k

theorem RepL.drop (h : RepL w A vs ds) (n : Nat) : RepL w A (vs.drop n) (ds.drop n) := by
  induction n generalizing vs ds with
  | zero => simpa using h
  | succ n ih =>
    cases vs with
    | nil => have := h.len; cases ds with
      | nil => simpa using h
      | cons _ _ => simp at this
    | cons v vs => cases ds with
      | nil => have := h.len; simp at this
      | cons d ds => exact ih h.tail
theorem RepL.take (h : RepL w A vs ds) (n : Nat) : RepL w A (vs.take n) (ds.take n) := by
  induction n generalizing vs ds with
  | zero => simpa using RepL.nil
  | succ n ih =>
    cases vs with
    | nil => have := h.len; cases ds with
      | nil => simpa using h
      | cons _ _ => simp at this
    | cons v vs => cases ds with
      | nil => have := h.len; simp at this
      | cons d ds => exact h.head.cons (ih h.tail)
theorem RepL.get (h : RepL w A vs ds) {j : Nat} {v : Value} {d : DV} (hv : vs[j]? = some v) (hd : ds[j]? = some d) : RepL w A [v] [d] := by
  induction j generalizing vs ds with
  | zero => cases vs with
    | nil => simp at hv
    | cons => cases ds with
      | nil => simp at hd
      | cons => simp at hv hd; subst hv hd; exact h.head
  | succ j ih => cases vs with
    | nil => simp at hv
    | cons => cases ds with
      | nil => simp at hd
      | cons => exact ih h.tail (by simpa using hv) (by simpa using hd)
theorem RepL.set (h : RepL w A vs ds) {j : Nat} {v : Value} {d : DV} (hv : RepL w A [v] [d]) : RepL w A (vs.set j v) (ds.set j d) := by
  induction j generalizing vs ds with
  | zero => cases vs with
    | nil => cases ds with
      | nil => exact h
      | cons => have := h.len; simp at this
    | cons => cases ds with
      | nil => have := h.len; simp at this
      | cons => exact hv.cons h.tail
  | succ j ih => cases vs with
    | nil => cases ds with
      | nil => exact h
      | cons => have := h.len; simp at this
    | cons => cases ds with
      | nil => have := h.len; simp at this
      | cons => exact h.head.cons (ih h.tail)

theorem RepL.scOf {v u : Value} (h : RepL w A [v] [.sc u]) : v = u ∧ Sc u := by
  cases h with
  | sc h _ => exact ⟨rfl, h⟩

/-- element number i of rows of k cells -/
theorem flat_at {α : Type} {es : List (List α)} {k i : Nat} {e : List α} (hk : ∀ e ∈ es, e.length = k) (h : es[i]? = some e) : (es.flatten.drop (i * k)).take k = e := by
  induction es generalizing i with
  | nil => simp at h
  | cons a es ih =>
    have ha : a.length = k := hk a (List.mem_cons_self ..)
    cases i with
    | zero =>
      simp at h; subst h
      rw [Nat.zero_mul, List.drop_zero, List.flatten_cons, List.take_append_of_le_length (by omega), ← ha, List.take_length]
    | succ i =>
      rw [List.flatten_cons, Nat.succ_mul, Nat.add_comm, ← List.drop_drop, ← ha, List.drop_left, ha]
      exact ih (fun e he => hk e (List.mem_cons_of_mem _ he)) (by simpa using h)

theorem flat_length {α : Type} {es : List (List α)} {k : Nat} (hk : ∀ e ∈ es, e.length = k) : es.flatten.length = es.length * k := by
  induction es with
  | nil => simp
  | cons a es ih => rw [List.flatten_cons, List.length_append, ih (fun e he => hk e (List.mem_cons_of_mem _ he)), hk a (List.mem_cons_self ..), List.length_cons, Nat.succ_mul]; omega

theorem at_sub {b off i k : Nat} {cells : List Value} (h : At w b off cells) : At w b (off + i) ((cells.drop i).take k) := by
  intro j u hu
  rw [List.getElem?_take] at hu
  split at hu
  · rw [List.getElem?_drop] at hu
    rw [Nat.add_assoc]; exact h _ u hu
  · cases hu

/-- element i of a slice that can be read -/
theorem RepL.elem {v : Value} {t k : Nat} {es : List (List DV)} (h : RepL w A [v] [.sl t k es]) {i : Nat} {e : List DV} (he : es[i]? = some e) :
    ∃ b off c vals, v = .slice (some ⟨b, off, none⟩) es.length c ∧ i < es.length ∧ A b ∧ 0 < k ∧ e.length = k ∧ RepL w A vals e ∧ At w b (off + i * k) vals := by
  cases h with
  | sl0 => simp at he
  | @sl b off n c t k es cells vs ds h1 h2 h3 h4 h5 h6 h7 h8 h9 _ =>
    subst h2
    have hi : i < es.length := (List.getElem?_eq_some_iff.1 he).1
    refine ⟨b, off, c, (cells.drop (i * k)).take k, rfl, hi, h1, h6, h7 e (List.mem_of_getElem? he), ?_, at_sub h9⟩
    have := (h8.drop (i * k)).take k
    rwa [flat_at h7 he] at this

theorem RepL.slShape {v : Value} {t k : Nat} {es : List (List DV)} (h : RepL w A [v] [.sl t k es]) : ∃ a c, v = .slice a es.length c ∧ es.length ≤ c ∧ c ≤ maxLen := by
  cases h with
  | sl0 h1 => exact ⟨_, _, rfl, Nat.zero_le _, h1⟩
  | sl h1 h2 h3 h4 h5 => subst h2; exact ⟨_, _, rfl, h4, h5⟩
end

/-! ### deep ownership -/
inductive OwnL (w : World) (base : Nat) : List Value → List DV → List Nat → Prop
  | nil : OwnL w base [] [] []
  | sc {v vs ds f} : Sc v → OwnL w base vs ds f → OwnL w base (v :: vs) (.sc v :: ds) f
  | sl {v t k es cells g vs ds f} : w.ownsRow base t k v es.length cells → 0 < k → (∀ e ∈ es, e.length = k) → OwnL w base cells es.flatten g → OwnL w base vs ds f →
      (v.ownBlock.toList ++ (g ++ f)).Nodup → OwnL w base (v :: vs) (.sl t k es :: ds) (v.ownBlock.toList ++ (g ++ f))

section
variable {w w' : World} {base : Nat} {vs us : List Value} {ds xs : List DV} {f g : List Nat}

theorem own_keep {e : TypeId} {k n : Nat} {v : Value} {cs : List Value} (h : w.ownsRow base e k v n cs) (hk : ∀ b, v.ownBlock = some b → w'.heap[b]? = w.heap[b]?) : w'.ownsRow base e k v n cs := by
  refine ⟨h.1, ?_⟩
  rcases h.2 with h1 | ⟨g, cap, cur, rfl, h2, h3, h4⟩
  · exact .inl h1
  · exact .inr ⟨g, cap, cur, rfl, h2, (hk g rfl).trans h3, h4⟩

theorem OwnL.nodup (h : OwnL w base vs ds f) : f.Nodup := by
  induction h with
  | nil => exact List.nodup_nil
  | sc _ _ ih => exact ih
  | sl _ _ _ _ _ h => exact h

theorem OwnL.keep (h : OwnL w base vs ds f) (hk : ∀ b ∈ f, w'.heap[b]? = w.heap[b]?) : OwnL w' base vs ds f := by
  induction h with
  | nil => exact .nil
  | sc h1 _ ih => exact .sc h1 (ih hk)
  | sl h1 h2 h3 _ _ h6 ih1 ih2 =>
    refine .sl (own_keep h1 fun b hb => hk b ?_) h2 h3 (ih1 fun b hb => hk b ?_) (ih2 fun b hb => hk b ?_) h6
    · simp [hb]
    · simp [hb]
    · simp [hb]

theorem OwnL.lo (h : OwnL w base vs ds f) {base' : Nat} (hb : base' ≤ base) : OwnL w base' vs ds f := by
  induction h with
  | nil => exact .nil
  | sc h1 _ ih => exact .sc h1 ih
  | sl h1 h2 h3 _ _ h6 ih1 ih2 => exact .sl (own_mono h1 hb) h2 h3 ih1 ih2 h6

theorem OwnL.blocks (h : OwnL w base vs ds f) : ∀ b ∈ f, base ≤ b ∧ b < w.heap.size := by
  induction h with
  | nil => simp
  | sc _ _ ih => exact ih
  | sl h1 h2 h3 _ _ h6 ih1 ih2 =>
    intro b hb
    simp only [List.mem_append, Option.mem_toList] at hb
    rcases hb with hb | hb | hb
    · exact own_blk h1 hb
    · exact ih1 b hb
    · exact ih2 b hb

/-- what the call owns can be read -/
theorem own_at {e : TypeId} {k : Nat} {v : Value} {es : List (List DV)} {cells : List Value} (h : w.ownsRow base e k v es.length cells) {A : Nat → Prop} (hA : ∀ b, v.ownBlock = some b → A b)
    (hk : 0 < k) (hl : ∀ e ∈ es, e.length = k) (hc : RepL w A cells es.flatten) : RepL w A [v] [.sl e k es] := by
  rcases Nat.eq_zero_or_pos es.length with h0 | h0
  · have : es = [] := List.eq_nil_of_length_eq_zero h0
    subst this
    obtain ⟨a, c, rfl, _, hcm⟩ := own_shape h
    exact .sl0 hcm .nil
  · obtain ⟨g, cap, rfl, hb, hlt⟩ := h.form h0
    obtain ⟨a, c, hv, hc1, hc2⟩ := own_shape h
    injection hv with e1 e2 e3
    subst e3
    refine .sl (hA g rfl) rfl h0 hc1 hc2 hk hl hc ?_ .nil
    intro j u hu
    have := h.cells (g := g) rfl j u hu
    rw [add_head] at this
    rw [Nat.zero_add]; exact this

theorem OwnL.rep (h : OwnL w base vs ds f) : RepL w (· ∈ f) vs ds := by
  induction h with
  | nil => exact .nil
  | sc h1 _ ih => exact .sc h1 ih
  | sl h1 h2 h3 _ _ h6 ih1 ih2 =>
    refine RepL.cons (own_at h1 (fun b hb => ?_) h2 h3 (ih1.mono fun b hb => ?_)) (ih2.mono fun b hb => ?_)
    · simp [hb]
    · simp [hb]
    · simp [hb]

theorem OwnL.app (h : OwnL w base vs ds f) (k : OwnL w base us xs g) (hd : ∀ b ∈ f, b ∉ g) : OwnL w base (vs ++ us) (ds ++ xs) (f ++ g) := by
  induction h with
  | nil => exact k
  | sc h1 _ ih => exact .sc h1 (ih hd)
  | sl h1 h2 h3 h4 _ h6 _ ih2 =>
    rw [List.append_assoc, List.append_assoc]
    refine .sl h1 h2 h3 h4 (ih2 fun b hb => hd b (by simp [hb])) ?_
    rw [← List.append_assoc, ← List.append_assoc, List.append_assoc (Option.toList _)]
    exact List.nodup_append.2 ⟨h6, k.nodup, fun a ha b hb e => hd a ha (e ▸ hb)⟩

/-- scalars alone -/
def Flat (ds : List DV) : Prop := ∀ d ∈ ds, ∃ v, d = .sc v
theorem OwnL.flat {A : Nat → Prop} (h : RepL w A vs ds) (hf : Flat ds) : OwnL w base vs ds [] := by
  induction h with
  | nil => exact .nil
  | sc h1 _ ih => exact .sc h1 (ih fun d hd => hf d (List.mem_cons_of_mem _ hd))
  | sl0 => obtain ⟨v, hv⟩ := hf _ (List.mem_cons_self ..); cases hv
  | sl => obtain ⟨v, hv⟩ := hf _ (List.mem_cons_self ..); cases hv

/-- a part of what is owned -/
theorem OwnL.split (h : OwnL w base vs ds f) : ∀ n, ∃ f1 f2, f = f1 ++ f2 ∧ OwnL w base (vs.take n) (ds.take n) f1 ∧ OwnL w base (vs.drop n) (ds.drop n) f2 := by
  induction h with
  | nil => intro n; exact ⟨[], [], rfl, by simpa using OwnL.nil, by simpa using OwnL.nil⟩
  | sc h1 h2 ih =>
    intro n
    cases n with
    | zero => exact ⟨[], _, rfl, .nil, .sc h1 h2⟩
    | succ n => obtain ⟨f1, f2, e, a, b⟩ := ih n; exact ⟨f1, f2, e, .sc h1 a, b⟩
  | sl h1 h2 h3 h4 h5 h6 _ ih =>
    intro n
    cases n with
    | zero => exact ⟨[], _, rfl, .nil, .sl h1 h2 h3 h4 h5 h6⟩
    | succ n =>
      obtain ⟨f1, f2, e, a, b⟩ := ih n
      subst e
      refine ⟨_ ++ (_ ++ f1), f2, by simp [List.append_assoc], .sl h1 h2 h3 h4 a ?_, b⟩
      rw [← List.append_assoc, ← List.append_assoc] at h6
      have := (List.nodup_append.1 h6).1
      rwa [List.append_assoc] at this
end
end Go.Proofs.Ytlcnokbhoekpkaa
