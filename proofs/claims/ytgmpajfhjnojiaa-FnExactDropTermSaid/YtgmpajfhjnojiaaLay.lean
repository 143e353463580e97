/- Data in memory: what a list of cells reads as, with the list of the blocks that the reading visits. No program here. -/
import Derived.Test.YtgmpajfhjnojiaaMem
namespace Go.Proofs.Ytgmpajfhjnojiaa
open Go.RowKit
set_option linter.unusedVariables false
set_option linter.unusedSimpArgs false

/-- a block of cells none of which is frozen -/
def Free (w : World) (b : Nat) : Prop := ∃ cs t, w.heap[b]? = some (.cells cs t (0, 0))
theorem Free.keep {w w' : World} {b : Nat} (h : Free w b) (hk : w'.heap[b]? = w.heap[b]?) : Free w' b := by
  obtain ⟨cs, t, h⟩ := h; exact ⟨cs, t, hk.trans h⟩
theorem Free.lt {w : World} {b : Nat} (h : Free w b) : b < w.heap.size := by
  obtain ⟨cs, t, h⟩ := h
  rcases Nat.lt_or_ge b w.heap.size with h1 | h1
  · exact h1
  · rw [Array.getElem?_eq_none h1] at h; cases h
theorem Free.frozen {w : World} {b : Nat} (h : Free w b) (a : Addr) (ha : a.block = b) : w.frozen? a = false := by
  obtain ⟨cs, t, h⟩ := h
  unfold World.frozen?
  rw [ha, h]
  simp

/-- blocks of the list are as they were -/
def Same (f : List Nat) (w w' : World) : Prop := ∀ b ∈ f, w'.heap[b]? = w.heap[b]?

/-- the blocks differ from each other, lie from lo on, and none is frozen -/
def Ow (w : World) (lo : Nat) (f : List Nat) : Prop := f.Nodup ∧ ∀ b ∈ f, lo ≤ b ∧ Free w b

theorem Ow.nil (w : World) (lo : Nat) : Ow w lo [] := ⟨List.nodup_nil, fun _ h => by cases h⟩
theorem Ow.keep {w w' : World} {lo : Nat} {f : List Nat} (h : Ow w lo f) (hk : Same f w w') : Ow w' lo f := ⟨h.1, fun b hb => ⟨(h.2 b hb).1, (h.2 b hb).2.keep (hk b hb)⟩⟩
theorem Ow.lo {w : World} {lo lo' : Nat} {f : List Nat} (h : Ow w lo f) (hl : lo' ≤ lo) : Ow w lo' f := ⟨h.1, fun b hb => ⟨Nat.le_trans hl (h.2 b hb).1, (h.2 b hb).2⟩⟩
theorem Ow.lt {w : World} {lo : Nat} {f : List Nat} (h : Ow w lo f) : ∀ b ∈ f, b < w.heap.size := fun b hb => (h.2 b hb).2.lt
theorem same_below {B : Nat} {w w' : World} {f : List Nat} (hb : Below B w w') (hf : ∀ b ∈ f, b < B) : Same f w w' := fun b h => hb.block b (hf b h)
theorem same_drewN {w : World} {f : List Nat} (n : Nat) : Same f w (w.drewN n) := fun _ _ => rfl
theorem same_alloc {w : World} {f : List Nat} (o : Obj) (hf : ∀ b ∈ f, b < w.heap.size) : Same f w (w.alloc o) := fun b h => Below.heap_alloc w o b (hf b h)
theorem same_set {w : World} {f : List Nat} {p : Addr} (u : Value) (hf : ∀ b ∈ f, b ≠ p.block) : Same f w (w.setCell p u) := fun b h => Below.heap_setCell w p u b (hf b h)
theorem same_grown {w w' : World} {f : List Nat} {row : Option Nat} (hg : w.grownBy w' row) (hf : ∀ b ∈ f, b < w.heap.size ∧ some b ≠ row) : Same f w w' := fun b h => hg.block b (hf b h).1 (hf b h).2
theorem Same.trans {w w' w'' : World} {f : List Nat} (h : Same f w w') (k : Same f w' w'') : Same f w w'' := fun b hb => (k b hb).trans (h b hb)
theorem Same.sub {w w' : World} {f f' : List Nat} (h : Same f w w') (hs : ∀ b ∈ f', b ∈ f) : Same f' w w' := fun b hb => h b (hs b hb)

/-- an element: what it is, which blocks its reading visits, its cells -/
structure Ent (α : Type) where
  x : α
  f : List Nat
  c : List Value

/-- how a type lies in memory -/
structure Lay (α : Type) where
  size : Nat
  R : World → List Nat → α → List Value → Prop
  pos : 0 < size
  len : ∀ {w f x c}, R w f x c → c.length = size
  one : ∀ {w f x c}, R w f x c → ∀ u ∈ c, u.oneCell' = true
  keep : ∀ {w w' f x c}, R w f x c → Same f w w' → R w' f x c
  lt : ∀ {w f x c}, R w f x c → ∀ b ∈ f, b < w.heap.size

def In64 (x : Int) : Prop := -9223372036854775808 ≤ x ∧ x ≤ 9223372036854775807

def Lay.int : Lay Int where
  size := 1
  R := fun _ f x c => f = [] ∧ c = [.int .i64 x] ∧ In64 x
  pos := by decide
  len := by rintro w f x c ⟨_, rfl, _⟩; rfl
  one := by rintro w f x c ⟨_, rfl, _⟩ u hu; simp at hu; subst hu; rfl
  keep := fun h _ => h
  lt := by rintro w f x c ⟨rfl, _⟩ b hb; cases hb

def Lay.str : Lay ByteArray where
  size := 1
  R := fun _ f x c => f = [] ∧ c = [.string x] ∧ x.size ≤ maxLen
  pos := by decide
  len := by rintro w f x c ⟨_, rfl, _⟩; rfl
  one := by rintro w f x c ⟨_, rfl, _⟩ u hu; simp at hu; subst hu; rfl
  keep := fun h _ => h
  lt := by rintro w f x c ⟨rfl, _⟩ b hb; cases hb

section
variable {α : Type} {L : Lay α} {w w' : World} {A : Option Addr} {n c : Nat} {fp : List Nat} {xs : List α}

/-- the cells of element i lie at i * size -/
theorem flat_get {es : List (Ent α)} {size : Nat} (hl : ∀ e ∈ es, e.c.length = size) {i j : Nat} {e : Ent α} {u : Value} (hi : es[i]? = some e) (hj : e.c[j]? = some u) :
    (es.flatMap Ent.c)[i * size + j]? = some u := by
  induction es generalizing i with
  | nil => simp at hi
  | cons a es ih =>
    have hja : j < e.c.length := (List.getElem?_eq_some_iff.1 hj).1
    rw [List.flatMap_cons]
    cases i with
    | zero =>
      simp at hi; subst hi
      rw [Nat.zero_mul, Nat.zero_add, List.getElem?_append_left hja]; exact hj
    | succ i =>
      have hla : a.c.length = size := hl a (List.mem_cons_self ..)
      rw [List.getElem?_append_right (by rw [hla, Nat.succ_mul]; omega), hla, show (i + 1) * size + j - size = i * size + j from by rw [Nat.succ_mul]; omega]
      exact ih (fun e he => hl e (List.mem_cons_of_mem _ he)) (by simpa using hi)

theorem flat_len {es : List (Ent α)} {size : Nat} (hl : ∀ e ∈ es, e.c.length = size) : (es.flatMap Ent.c).length = es.length * size := by
  induction es with
  | nil => simp
  | cons a es ih =>
    rw [List.flatMap_cons, List.length_append, ih (fun e he => hl e (List.mem_cons_of_mem _ he)), hl a (List.mem_cons_self ..), List.length_cons, Nat.succ_mul]; omega

/-- the slice '.slice A n c' reads as xs; fp: the blocks that are visited -/
def SlR (L : Lay α) (w : World) (fp : List Nat) (xs : List α) (A : Option Addr) (n c : Nat) : Prop :=
  xs.length = n ∧ n ≤ c ∧ c ≤ maxLen ∧ ((xs = [] ∧ fp = []) ∨ ∃ (b off : Nat) (es : List (Ent α)), A = some ⟨b, off, none⟩ ∧ 0 < n ∧ xs = es.map Ent.x ∧ fp = b :: es.flatMap Ent.f ∧
    (∀ e ∈ es, L.R w e.f e.x e.c) ∧ ∀ j u, (es.flatMap Ent.c)[j]? = some u → w.cell? ⟨b, off + j, none⟩ = some u)

theorem SlR.keep (h : SlR L w fp xs A n c) (hk : Same fp w w') : SlR L w' fp xs A n c := by
  obtain ⟨h1, h2, h3, h4⟩ := h
  refine ⟨h1, h2, h3, ?_⟩
  rcases h4 with h4 | ⟨bb, off, es, rfl, hn, hx, rfl, hR, hc⟩
  · exact .inl h4
  · refine .inr ⟨bb, off, es, rfl, hn, hx, rfl, fun e he => L.keep (hR e he) (hk.sub ?_), fun j u hu => (World.cell?_of_block ?_).trans (hc j u hu)⟩
    · intro b hb
      exact List.mem_cons_of_mem _ (List.mem_flatMap.2 ⟨e, he, hb⟩)
    · exact hk _ (List.mem_cons_self ..)

theorem cell_lt {a : Addr} {u : Value} (h : w.cell? a = some u) : a.block < w.heap.size := by
  rcases Nat.lt_or_ge a.block w.heap.size with h1 | h1
  · exact h1
  · unfold World.cell? at h; rw [Array.getElem?_eq_none h1] at h; simp at h

theorem SlR.lt (h : SlR L w fp xs A n c) : ∀ b ∈ fp, b < w.heap.size := by
  obtain ⟨h1, h2, h3, h4⟩ := h
  rcases h4 with ⟨_, rfl⟩ | ⟨bb, off, es, rfl, hn, hx, rfl, hR, hc⟩
  · intro b hb; cases hb
  · intro b hb
    rcases List.mem_cons.1 hb with rfl | hb
    · subst hx
      have hl := flat_len (size := L.size) (fun e he => L.len (hR e he))
      have h0 : 0 < (es.flatMap Ent.c).length := by rw [hl]; rw [List.length_map] at h1; exact Nat.mul_pos (by omega) L.pos
      exact cell_lt (hc 0 _ (List.getElem?_eq_getElem h0))
    · obtain ⟨e, he, hb⟩ := List.mem_flatMap.1 hb
      exact L.lt (hR e he) b hb

theorem SlR.alloc (h : SlR L w fp xs A n c) (o : Obj) : SlR L (w.alloc o) fp xs A n c := h.keep (same_alloc o h.lt)
theorem SlR.set (h : SlR L w fp xs A n c) {p : Addr} (u : Value) (hp : ∀ b ∈ fp, b ≠ p.block) : SlR L (w.setCell p u) fp xs A n c := h.keep (same_set u hp)
theorem SlR.drewN (h : SlR L w fp xs A n c) (k : Nat) : SlR L (w.drewN k) fp xs A n c := h.keep (same_drewN k)
theorem SlR.below (h : SlR L w fp xs A n c) (hb : Below w.heap.size w w') : SlR L w' fp xs A n c := h.keep (same_below hb h.lt)
/-- element i -/
theorem SlR.at_ (h : SlR L w fp xs A n c) {i : Nat} (hi : i < n) :
    ∃ (b off : Nat) (x : α) (f : List Nat) (cs : List Value), A = some ⟨b, off, none⟩ ∧ xs[i]? = some x ∧ (∀ b ∈ f, b ∈ fp) ∧ b ∈ fp ∧ L.R w f x cs ∧ ∀ j u, cs[j]? = some u → w.cell? ⟨b, off + i * L.size + j, none⟩ = some u := by
  obtain ⟨h1, h2, h3, h4⟩ := h
  rcases h4 with ⟨rfl, _⟩ | ⟨bb, off, es, rfl, hn, rfl, rfl, hR, hc⟩
  · simp at h1; omega
  · rw [List.length_map] at h1
    have hg : es[i]? = some (es[i]'(by omega)) := List.getElem?_eq_getElem (by omega)
    have hm : es[i]'(by omega) ∈ es := List.getElem_mem _
    refine ⟨bb, off, (es[i]'(by omega)).x, (es[i]'(by omega)).f, (es[i]'(by omega)).c, rfl, by rw [List.getElem?_map, hg]; rfl, ?_, List.mem_cons_self .., hR _ hm, ?_⟩
    · intro b hb; exact List.mem_cons_of_mem _ (List.mem_flatMap.2 ⟨_, hm, hb⟩)
    · intro j u hu; rw [Nat.add_assoc]; exact hc _ u (flat_get (fun e he => L.len (hR e he)) hg hu)

theorem SlR.le (h : SlR L w fp xs A n c) : n ≤ 9223372036854775807 ∧ n ≤ c ∧ c ≤ 9223372036854775807 := by
  obtain ⟨_, h2, h3, _⟩ := h; unfold maxLen at h3; omega

theorem SlR.empty (L : Lay α) (w : World) (A : Option Addr) (c : Nat) (hc : c ≤ maxLen) : SlR L w [] [] A 0 c := ⟨rfl, Nat.zero_le _, hc, .inl ⟨rfl, rfl⟩⟩

def Lay.slice (L : Lay α) : Lay (List α) where
  size := 1
  R := fun w f xs c => ∃ A n cp, c = [.slice A n cp] ∧ SlR L w f xs A n cp
  pos := by decide
  len := by rintro w f x c ⟨_, _, _, rfl, _⟩; rfl
  one := by rintro w f x c ⟨_, _, _, rfl, _⟩ u hu; simp at hu; subst hu; rfl
  keep := by rintro w w' f x c ⟨A, n, cp, rfl, h⟩ hk; exact ⟨A, n, cp, rfl, h.keep hk⟩
  lt := by rintro w f x c ⟨A, n, cp, rfl, h⟩; exact h.lt

/-- a row of the call's own, with what its elements lead to -/
def OwnN (L : Lay α) (w : World) (base : Nat) (e : TypeId) (v : Value) (es : List (Ent α)) : Prop :=
  w.ownsRow base e L.size v es.length (es.flatMap Ent.c) ∧ (∀ x ∈ es, L.R w x.f x.x x.c) ∧ Ow w base (es.flatMap Ent.f) ∧ ∀ b ∈ es.flatMap Ent.f, v.ownBlock ≠ some b

theorem own_free {base : Nat} {e : TypeId} {size : Nat} {v : Value} {ys : List Value} (h : w.ownsRow base e size v n ys) {g : Nat} (hg : v.ownBlock = some g) : Free w g := by
  rcases h.2 with ⟨rfl, _⟩ | ⟨g', cap, cur, rfl, h2, h3, _⟩
  · simp [Value.ownBlock] at hg
  · have : g' = g := by simpa [Value.ownBlock] using hg
    subst this; exact ⟨cur, e, h3⟩

/-- what is owned reads as a slice whose blocks differ -/
theorem OwnN.read {base : Nat} {e : TypeId} {v : Value} {es : List (Ent α)} (h : OwnN L w base e v es) :
    ∃ A c fp, v = .slice A es.length c ∧ SlR L w fp (es.map Ent.x) A es.length c ∧ Ow w base fp := by
  obtain ⟨h1, h2, h3, h4⟩ := h
  obtain ⟨A, c, rfl, hc1, hc2⟩ := own_shape h1
  rcases Nat.eq_zero_or_pos es.length with h0 | h0
  · have : es = [] := List.eq_nil_of_length_eq_zero h0
    subst this
    exact ⟨A, c, [], rfl, ⟨rfl, hc1, hc2, .inl ⟨rfl, rfl⟩⟩, Ow.nil _ _⟩
  · obtain ⟨g, cap, hv, hb, hlt⟩ := h1.form h0
    injection hv with e1 e2 e3
    subst e1 e3
    refine ⟨_, c, g :: es.flatMap Ent.f, rfl, ⟨by simp, hc1, hc2, .inr ⟨_, _, es, rfl, h0, rfl, rfl, h2, fun j u hu => by have := h1.cells (g := g) rfl j u hu; rw [add_head] at this; rw [Nat.zero_add]; exact this⟩⟩, ?_, ?_⟩
    · exact List.nodup_cons.2 ⟨fun hm => h4 g hm rfl, h3.1⟩
    · intro b hm
      rcases List.mem_cons.1 hm with rfl | hm
      · exact ⟨hb, own_free h1 rfl⟩
      · exact h3.2 b hm
end

section
variable {α : Type} {L : Lay α} {w w' : World}

/-- a function returns a slice in new memory that it owns -/
def RetOwn (L : Lay α) (t : TypeId) (w : World) (xs : List α) (e : Ending) (w' : World) : Prop :=
  ∃ v es, e = .returned v ∧ OwnN L w' w.heap.size t v es ∧ es.map Ent.x = xs ∧ Below w.heap.size w w'

theorem madeCells_rep (z : Array Value) (n : Nat) (hz : 0 < z.size) : (madeCells z (n * z.size)).toList = (List.replicate n z.toList).flatten := by
  apply List.ext_getElem?
  intro i
  have hl : ((List.replicate n z.toList).flatten).length = n * z.size := by
    induction n with
    | zero => simp
    | succ n ih => rw [List.replicate_succ, List.flatten_cons, List.length_append, ih, Nat.succ_mul]; simp; omega
  by_cases hi : i < n * z.size
  · have e1 : (madeCells z (n * z.size)).toList[i]? = some (z[i % z.size]'(Nat.mod_lt _ hz)) := by
      simp [madeCells, hi, Nat.mod_lt _ hz]
    rw [e1]
    symm
    clear hl e1
    induction n generalizing i with
    | zero => simp at hi
    | succ n ih =>
      rw [List.replicate_succ, List.flatten_cons]
      by_cases h : i < z.size
      · rw [List.getElem?_append_left (by simpa using h)]
        simp [h, Nat.mod_eq_of_lt h]
      · rw [List.getElem?_append_right (by simp; omega)]
        have := ih (i - z.size) (by rw [Nat.succ_mul] at hi; omega)
        simp only [Array.length_toList]
        rw [this]
        congr 2
        rw [← Nat.mod_eq_sub_mod (by omega)]
  · rw [List.getElem?_eq_none (by rw [Array.length_toList, size_madeCells]; omega), List.getElem?_eq_none (by rw [hl]; omega)]

/-- 'make([]T, n)': n zero elements -/
theorem OwnN.made {base : Nat} {t : TypeId} {n : Nat} {z : Value} {x0 : α} {A : Option Addr} (hsz : z.cells.size = L.size) (h : w.ownsRow base t L.size (.slice A n n) n (madeCells z.cells (n * L.size)).toList)
    (hz : L.R w [] x0 z.cells.toList) : OwnN L w base t (.slice A n n) (List.replicate n ⟨x0, [], z.cells.toList⟩) := by
  have e : (List.replicate n (⟨x0, [], z.cells.toList⟩ : Ent α)).flatMap Ent.c = (madeCells z.cells (n * L.size)).toList := by
    rw [← hsz, madeCells_rep _ _ (by rw [hsz]; exact L.pos), List.flatMap_def, List.map_replicate]
  have e2 : (List.replicate n (⟨x0, [], z.cells.toList⟩ : Ent α)).flatMap Ent.f = [] := by
    rw [List.flatMap_def, List.map_replicate]; simp
  refine ⟨by rw [e, List.length_replicate]; exact h, ?_, by rw [e2]; exact Ow.nil _ _, by rw [e2]; intro b hb; cases hb⟩
  intro x hx
  rw [List.eq_of_mem_replicate hx]; exact hz
end

/-! ### storing an element, cell by cell -/
def putAt : List Value → Nat → List Value → List Value
  | ys, _, [] => ys
  | ys, o, u :: r => putAt (ys.set o u) (o + 1) r

theorem putAt_eq (cs : List Value) : ∀ (ys : List Value) (o : Nat), o + cs.length ≤ ys.length → putAt ys o cs = ys.take o ++ cs ++ ys.drop (o + cs.length) := by
  induction cs with
  | nil => intro ys o h; simp [putAt]
  | cons u r ih =>
    intro ys o h
    rw [List.length_cons] at h
    rw [putAt, ih _ _ (by rw [List.length_set]; omega)]
    have h1 : (ys.set o u).take (o + 1) = ys.take o ++ [u] := by
      rw [List.take_succ_eq_append_getElem (by rw [List.length_set]; omega), List.getElem_set_self, List.take_set_of_le (Nat.le_refl _)]
    rw [h1, List.drop_set_of_lt (by omega)]
    simp only [List.append_assoc, List.singleton_append, List.cons_append, List.nil_append, List.length_cons]
    rw [show o + 1 + r.length = o + (r.length + 1) from by omega]

theorem flat_set {α : Type} {size : Nat} (e' : Ent α) : ∀ (es : List (Ent α)) (i : Nat), (∀ e ∈ es, e.c.length = size) → e'.c.length = size → i < es.length →
    (es.set i e').flatMap Ent.c = (es.flatMap Ent.c).take (i * size) ++ e'.c ++ (es.flatMap Ent.c).drop (i * size + size) := by
  intro es
  induction es with
  | nil => intro i _ _ h; simp at h
  | cons a es ih =>
    intro i hl he hi
    have hla : a.c.length = size := hl a (List.mem_cons_self ..)
    cases i with
    | zero =>
      rw [List.set_cons_zero, List.flatMap_cons, List.flatMap_cons, Nat.zero_mul, List.take_zero, List.nil_append, Nat.zero_add, List.drop_append_of_le_length (by omega), List.drop_of_length_le (by omega), List.nil_append]
    | succ i =>
      rw [List.set_cons_succ, List.flatMap_cons, List.flatMap_cons, ih i (fun e h => hl e (List.mem_cons_of_mem _ h)) he (by simpa using hi), Nat.succ_mul]
      rw [show i * size + size = a.c.length + i * size from by rw [hla]; omega, List.take_length_add_append, show a.c.length + i * size + size = a.c.length + (i * size + size) from by omega, List.drop_length_add_append]
      simp only [List.append_assoc, hla, Nat.add_comm size (i * size)]

theorem own_setCells {base : Nat} {t : TypeId} {size g n cap : Nat} (cs : List Value) : ∀ (w : World) (ys : List Value) (o : Nat), w.ownsRow base t size (.slice (some ⟨g, 0, none⟩) n cap) n ys →
    (w.setCells g o cs).ownsRow base t size (.slice (some ⟨g, 0, none⟩) n cap) n (putAt ys o cs) ∧ w.grownBy (w.setCells g o cs) (some g) := by
  induction cs with
  | nil => intro w ys o h; exact ⟨h, World.grownBy.refl w _⟩
  | cons u r ih =>
    intro w ys o h
    have h1 := h.stored o u
    have h2 := ih _ _ (o + 1) h1.1
    exact ⟨h2.1, h1.2.trans h2.2⟩

theorem mem_set_flat {α : Type} {es : List (Ent α)} {i : Nat} {e' : Ent α} {b : Nat} (h : b ∈ (es.set i e').flatMap Ent.f) : b ∈ e'.f ∨ b ∈ es.flatMap Ent.f := by
  obtain ⟨e, he, hb⟩ := List.mem_flatMap.1 h
  rcases List.mem_or_eq_of_mem_set he with h1 | rfl
  · exact .inr (List.mem_flatMap.2 ⟨e, h1, hb⟩)
  · exact .inl hb

theorem nodup_set_flat {α : Type} {e' : Ent α} (h2 : e'.f.Nodup) : ∀ (es : List (Ent α)) (i : Nat), (es.flatMap Ent.f).Nodup → (∀ b ∈ e'.f, b ∉ es.flatMap Ent.f) → ((es.set i e').flatMap Ent.f).Nodup := by
  intro es
  induction es with
  | nil => intro i h _; simp
  | cons a es ih =>
    intro i h h3
    rw [List.flatMap_cons, List.nodup_append] at h
    cases i with
    | zero =>
      rw [List.set_cons_zero, List.flatMap_cons, List.nodup_append]
      refine ⟨h2, h.2.1, fun x hx y hy e => h3 x hx ?_⟩
      subst e; rw [List.flatMap_cons]; exact List.mem_append_right _ hy
    | succ i =>
      rw [List.set_cons_succ, List.flatMap_cons, List.nodup_append]
      refine ⟨h.1, ih i h.2.1 (fun b hb hm => h3 b hb (by rw [List.flatMap_cons]; exact List.mem_append_right _ hm)), fun x hx y hy e => ?_⟩
      subst e
      rcases mem_set_flat hy with h4 | h4
      · exact h3 x h4 (by rw [List.flatMap_cons]; exact List.mem_append_left _ hx)
      · exact h.2.2 x hx x h4 rfl

theorem OwnN.store {α : Type} {L : Lay α} {w : World} {base g n cap i : Nat} {t : TypeId} {es : List (Ent α)} {e' : Ent α} (h : OwnN L w base t (.slice (some ⟨g, 0, none⟩) n cap) es) (hn : es.length = n) (hi : i < n)
    (hR : L.R w e'.f e'.x e'.c) (hO : Ow w base e'.f) (hd : ∀ b ∈ e'.f, b ≠ g ∧ b ∉ es.flatMap Ent.f) :
    OwnN L (w.setCells g (i * L.size) e'.c) base t (.slice (some ⟨g, 0, none⟩) n cap) (es.set i e') ∧ w.grownBy (w.setCells g (i * L.size) e'.c) (some g) := by
  subst hn
  obtain ⟨h1, h2, h3, h4⟩ := h
  have hl : ∀ e ∈ es, e.c.length = L.size := fun e he => L.len (h2 e he)
  have he := L.len hR
  obtain ⟨k1, k2⟩ := own_setCells e'.c w _ (i * L.size) h1
  have hfl := flat_len hl
  have hle : i * L.size + L.size ≤ (es.flatMap Ent.c).length := by rw [hfl, ← Nat.succ_mul]; exact Nat.mul_le_mul_right _ hi
  rw [putAt_eq _ _ _ (by rw [he]; exact hle), he, ← flat_set e' es i hl he hi] at k1
  have hsame : ∀ f : List Nat, (∀ b ∈ f, b < w.heap.size ∧ b ≠ g) → Same f w (w.setCells g (i * L.size) e'.c) := fun f hf => same_grown k2 (fun b hb => ⟨(hf b hb).1, fun e => (hf b hb).2 (by injection e)⟩)
  have hg : ∀ b ∈ es.flatMap Ent.f, b < w.heap.size ∧ b ≠ g := fun b hb => ⟨h3.lt b hb, fun e => h4 b hb (by rw [e]; rfl)⟩
  have hg' : ∀ b ∈ e'.f, b < w.heap.size ∧ b ≠ g := fun b hb => ⟨hO.lt b hb, (hd b hb).1⟩
  refine ⟨⟨by rw [List.length_set]; exact k1, ?_, ?_, ?_⟩, k2⟩
  · intro x hx
    rcases List.mem_or_eq_of_mem_set hx with h5 | rfl
    · exact L.keep (h2 x h5) (hsame _ fun b hb => hg b (List.mem_flatMap.2 ⟨x, h5, hb⟩))
    · exact L.keep hR (hsame _ hg')
  · refine ⟨nodup_set_flat hO.1 es i h3.1 (fun b hb => (hd b hb).2), fun b hb => ?_⟩
    rcases mem_set_flat hb with h5 | h5
    · exact (hO.keep (hsame _ hg')).2 b h5
    · exact (h3.keep (hsame _ hg)).2 b h5
  · intro b hb e
    rcases mem_set_flat hb with h5 | h5
    · exact (hd b h5).1 (by simpa [Value.ownBlock] using e.symm)
    · exact h4 b h5 e

theorem OwnN.keep {α : Type} {L : Lay α} {w w' : World} {base : Nat} {t : TypeId} {v : Value} {es : List (Ent α)} (h : OwnN L w base t v es) (hb : Below w.heap.size w w') : OwnN L w' base t v es := by
  obtain ⟨h1, h2, h3, h4⟩ := h
  exact ⟨own_below h1 hb (Nat.le_refl _), fun x hx => L.keep (h2 x hx) (same_below hb (L.lt (h2 x hx))), h3.keep (same_below hb h3.lt), h4⟩
theorem OwnN.mono {α : Type} {L : Lay α} {w : World} {base base' : Nat} {t : TypeId} {v : Value} {es : List (Ent α)} (h : OwnN L w base t v es) (hb : base' ≤ base) : OwnN L w base' t v es := by
  obtain ⟨h1, h2, h3, h4⟩ := h
  exact ⟨own_mono h1 hb, h2, h3.lo hb, h4⟩

/-- behind k rounds of 'out[i] = f(a[i])' -/
theorem take_rep_set {α : Type} {l : List α} {n k : Nat} {x x0 : α} (hl : l.length = n) (hx : l[k]? = some x) :
    (l.take k ++ List.replicate (n - k) x0).set k x = l.take (k + 1) ++ List.replicate (n - (k + 1)) x0 := by
  obtain ⟨hk, rfl⟩ := List.getElem?_eq_some_iff.1 hx
  have h1 : (l.take k).length = k := by rw [List.length_take]; omega
  rw [List.set_append_right _ _ (by omega), h1, Nat.sub_self, List.take_succ_eq_append_getElem hk, show n - k = (n - (k + 1)) + 1 from by omega, List.replicate_succ, List.set_cons_zero, List.append_assoc]
  rfl

theorem SlR.strAt {w : World} {fp : List Nat} {xs : List ByteArray} {A : Option Addr} {n c : Nat} (h : SlR Lay.str w fp xs A n c) {i : Nat} (hi : i < n) :
    ∃ (b off : Nat) (x : ByteArray), A = some ⟨b, off, none⟩ ∧ xs[i]? = some x ∧ x.size ≤ 9223372036854775807 ∧ b ∈ fp ∧ w.cell? ⟨b, off + i, none⟩ = some (.string x) := by
  obtain ⟨b, off, x, f, cs, h1, h2, -, h4, ⟨-, rfl, h5⟩, h6⟩ := h.at_ hi
  have := h6 0 _ rfl
  refine ⟨b, off, x, h1, h2, by unfold maxLen at h5; omega, h4, ?_⟩
  simpa [Lay.str] using this
theorem SlR.intAt {w : World} {fp : List Nat} {xs : List Int} {A : Option Addr} {n c : Nat} (h : SlR Lay.int w fp xs A n c) {i : Nat} (hi : i < n) :
    ∃ (b off : Nat) (x : Int), A = some ⟨b, off, none⟩ ∧ xs[i]? = some x ∧ In64 x ∧ b ∈ fp ∧ w.cell? ⟨b, off + i, none⟩ = some (.int .i64 x) := by
  obtain ⟨b, off, x, f, cs, h1, h2, -, h4, ⟨-, rfl, h5⟩, h6⟩ := h.at_ hi
  have := h6 0 _ rfl
  refine ⟨b, off, x, h1, h2, h5, h4, ?_⟩
  simpa [Lay.int] using this
end Go.Proofs.Ytgmpajfhjnojiaa
