/- From the statement's reading of an argument to 'Lay'. -/
import Derived.Test.YtgmpajfhjnojiaaLay
import Derived.Deep.Slices
import Derived.Deep.Fields
import Derived.ChangeSame
import Derived.OpenShut
namespace Go.Proofs.Ytgmpajfhjnojiaa
open Go.RowKit Go.ChangeShapes Go.WideShapes Go.Deep
set_option linter.unusedVariables false
set_option linter.unusedSimpArgs false

/-- whatever can be read at type t lies as L says -/
def Opens {α : Type} (L : Lay α) (P : Program) (t : TypeId) : Prop :=
  ∀ (H : Type) (enc : TypeId × Value → H) (w : World) (base : Nat) (spare : Nat → Bool) (held : Bool) (fuel : Nat) (cs : List Value) (x : DataW H × List MemPlace),
    DataW.trod enc P w base spare held fuel t cs = some x → ∃ (a : α) (f : List Nat), L.R w f a cs

theorem in64_wf {n : Int} (h : (Lit.int .i64 n).wf = true) : In64 n := by
  exact bounds_i64 h

theorem opens_int {P : Program} {t : TypeId} (ht : P.underlying t = some (.int .i64)) : Opens Lay.int P t := by
  intro H enc w base spare held fuel cs x h
  obtain ⟨n, rfl, -, hn⟩ := DataW.trod_int ht h
  exact ⟨n, [], rfl, rfl, in64_wf hn⟩

theorem opens_str {P : Program} {t : TypeId} (ht : P.underlying t = some .string) : Opens Lay.str P t := by
  intro H enc w base spare held fuel cs x h
  obtain ⟨s, rfl, -, hs⟩ := DataW.trod_string ht h
  exact ⟨s, [], rfl, rfl, hs⟩

theorem list_choice {α : Type} (n : Nat) (Q : Nat → α → Prop) (h : ∀ i, i < n → ∃ a, Q i a) : ∃ l : List α, l.length = n ∧ ∀ i a, l[i]? = some a → Q i a := by
  induction n with
  | zero => exact ⟨[], rfl, fun i a h => by simp at h⟩
  | succ n ih =>
    obtain ⟨l, hl, hq⟩ := ih (fun i hi => h i (by omega))
    obtain ⟨a, ha⟩ := h n (by omega)
    refine ⟨l ++ [a], by simp [hl], fun i b hb => ?_⟩
    by_cases hi : i < n
    · rw [List.getElem?_append_left (by omega)] at hb; exact hq i b hb
    · have hin : i = n := by
        have := (List.getElem?_eq_some_iff.1 hb).1
        simp [hl] at this; omega
      subst hin
      rw [List.getElem?_append_right (by omega), hl, Nat.sub_self] at hb
      simp at hb; subst hb; exact ha

theorem flat_back {α : Type} {size : Nat} (hp : 0 < size) : ∀ (es : List (Ent α)), (∀ e ∈ es, e.c.length = size) → ∀ j u, (es.flatMap Ent.c)[j]? = some u → ∃ e, es[j / size]? = some e ∧ e.c[j % size]? = some u := by
  intro es
  induction es with
  | nil => intro _ j u h; simp at h
  | cons a es ih =>
    intro hl j u h
    have hla : a.c.length = size := hl a (List.mem_cons_self ..)
    rw [List.flatMap_cons] at h
    by_cases hj : j < size
    · rw [List.getElem?_append_left (by omega)] at h
      rw [Nat.div_eq_of_lt hj, Nat.mod_eq_of_lt hj]
      exact ⟨a, rfl, h⟩
    · rw [List.getElem?_append_right (by omega), hla] at h
      obtain ⟨e, h1, h2⟩ := ih (fun e he => hl e (List.mem_cons_of_mem _ he)) _ u h
      rw [Nat.div_eq_sub_div hp (by omega), Nat.mod_eq_sub_mod (by omega)]
      exact ⟨e, by simpa using h1, h2⟩

theorem opens_slice {α : Type} {L : Lay α} {P : Program} {t e : TypeId} (ht : P.underlying t = some (.slice e)) (hc : P.cellsOf e = L.size) (ho : Opens L P e) : Opens (Lay.slice L) P t := by
  intro H enc w base spare held fuel cs x h
  rcases open_slice ht h with ⟨rfl, -⟩ | ⟨a, len, cap, m, n, D, Pl, rfl, hb, hl, hm, hmm, hx, hi⟩
  · exact ⟨[], [], none, 0, 0, rfl, SlR.empty _ _ _ _ (Nat.zero_le _)⟩
  · rw [hc] at hi
    have hlm : len ≤ m := by rw [hmm]; split <;> omega
    have hch : ∀ i, i < len → ∃ en : Ent α, L.R w en.f en.x en.c ∧ ∀ j, j < L.size → w.cell? (a.add (i * L.size + j)) = en.c[j]? := by
      intro i hil
      obtain ⟨cs', hcs, htr⟩ := hi i (by omega)
      obtain ⟨y, f, hR⟩ := ho H enc w base spare held n cs' _ htr
      obtain ⟨-, hcl, hat⟩ := World.cells?_some hcs
      exact ⟨⟨y, f, cs'⟩, hR, fun j hj => by rw [← add_add']; exact hat j hj⟩
    obtain ⟨es, hlen, hes⟩ := list_choice len _ hch
    have hmem : ∀ en ∈ es, L.R w en.f en.x en.c := by
      intro en hen
      obtain ⟨i, hi, rfl⟩ := List.mem_iff_getElem.1 hen
      exact (hes i _ (List.getElem?_eq_getElem hi)).1
    rcases Nat.eq_zero_or_pos len with h0 | h0
    · exact ⟨[], [], some a, len, cap, rfl, by simp [h0], hl, hm, .inl ⟨rfl, rfl⟩⟩
    · have hcell : ∀ j u, (es.flatMap Ent.c)[j]? = some u → w.cell? (a.add j) = some u := by
        intro j u hu
        obtain ⟨en, h1, h2⟩ := flat_back L.pos es (fun e he => L.len (hmem e he)) j u hu
        have h3 := (hes _ en h1).2 (j % L.size) (Nat.mod_lt _ L.pos)
        rw [Nat.mul_comm, Nat.div_add_mod] at h3
        rw [h3, h2]
      have hfl := flat_len (size := L.size) (fun e he => L.len (hmem e he))
      have hpos : 0 < (es.flatMap Ent.c).length := by rw [hfl, hlen]; exact Nat.mul_pos h0 L.pos
      have hc0 := hcell 0 _ (List.getElem?_eq_getElem hpos)
      have hspot : a.spot = none := by
        cases hs : a.spot with
        | none => rfl
        | some q =>
          unfold World.cell? Addr.add at hc0
          simp [hs] at hc0
          split at hc0 <;> simp at hc0
      obtain ⟨b, off, sp⟩ := a
      simp only at hspot
      subst hspot
      have hadd : ∀ j, (⟨b, off, none⟩ : Addr).add j = ⟨b, off + j, none⟩ := by
        intro j; unfold Addr.add; split
        · next h => rw [h]; rfl
        · rfl
      refine ⟨es.map Ent.x, b :: es.flatMap Ent.f, _, len, cap, rfl, by simp [hlen], hl, hm, .inr ⟨b, off, es, rfl, h0, rfl, rfl, hmem, fun j u hu => ?_⟩⟩
      rw [← hadd]; exact hcell j u hu

/-- the fields of a struct, each of one cell -/
theorem open_fields {H : Type} {enc : TypeId × Value → H} {P : Program} {w : World} {base : Nat} {spare : Nat → Bool} {held : Bool} {fuel : Nat} {t : TypeId} {cs : List Value} {x : DataW H × List MemPlace} {fs : Array Field}
    (ht : P.underlying t = some (.struct fs)) (hone : oneCellFields P fs = true) (hC : P.cellsOf t = fs.size) (h : DataW.trod enc P w base spare held fuel t cs = some x) :
    cs.length = fs.size ∧ ∃ n, ∀ (j : Nat) (f : Field), fs[j]? = some f → ∃ (v : Value) (y : DataW H × List MemPlace), cs[j]? = some v ∧ DataW.trod enc P w base spare held n f.type [v] = some y := by
  obtain ⟨ys, n, hn, hy, hlen, hyl, hf⟩ := DataW.trod_struct ht h
  rw [hC] at hlen
  refine ⟨hlen, n, fun j f hj => ?_⟩
  obtain ⟨ho, hk⟩ := hone_of hone j f hj
  have hjl : j < fs.size := (Array.getElem?_eq_some_iff.1 hj).1
  have h1 := hf j f hj
  rw [ho, hk] at h1
  have hone' : (cs.drop j).take 1 = [cs[j]'(by omega)] := by
    rw [List.drop_eq_getElem_cons (by omega)]; rfl
  rw [hone', List.getElem?_eq_getElem (by omega)] at h1
  exact ⟨_, _, List.getElem?_eq_getElem (by omega), h1⟩

/-- an argument: its value and its reading -/
theorem Opens.arg {α : Type} {L : Lay α} {P : Program} {t : TypeId} (ho : Opens L P t) {H : Type} {enc : TypeId × Value → H} {w : World} {base : Nat} {spare : Nat → Bool} {held : Bool} {v : Value} {d : DataW H} {p : List MemPlace}
    (h : DataW.Trod enc P w base spare held t v d p) : ∃ (a : α) (f : List Nat), L.R w f a v.cells.toList := by
  obtain ⟨fuel, hf⟩ := h
  exact ho H enc w base spare held fuel _ _ hf
end Go.Proofs.Ytgmpajfhjnojiaa
