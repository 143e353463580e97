/- Weights: what the laws' sz functions reckon. No program here. -/
import Derived.Test.YtlcnokbhoekpkaaLay
namespace Go.Proofs.Ytlcnokbhoekpkaa
open Go.RowKit
set_option linter.unusedVariables false
set_option linter.unusedSimpArgs false

def sumBy {α : Type} (f : α → Nat) (l : List α) : Nat := (l.map f).sum
theorem sumBy_take {α : Type} (f : α → Nat) (l : List α) {k : Nat} {x : α} (h : l[k]? = some x) : sumBy f (l.take (k + 1)) = sumBy f (l.take k) + f x := by
  obtain ⟨hk, rfl⟩ := List.getElem?_eq_some_iff.1 h
  unfold sumBy
  rw [List.take_succ_eq_append_getElem hk, List.map_append, List.sum_append]; simp
theorem sumBy_all {α : Type} (f : α → Nat) (l : List α) {k : Nat} (h : l.length ≤ k) : sumBy f (l.take k) = sumBy f l := by rw [List.take_of_length_le h]

theorem le_sumBy {α : Type} (f : α → Nat) {l : List α} {x : α} (h : x ∈ l) : f x ≤ sumBy f l := by
  induction l with
  | nil => cases h
  | cons a l ih =>
    have e : sumBy f (a :: l) = f a + sumBy f l := by simp [sumBy]
    rw [e]
    rcases List.mem_cons.1 h with rfl | h
    · omega
    · have := ih h; omega
/-- what is left: -1, or the number less the weight -/
def Left (left : Int) (wt : Nat) (e : Ending) : Prop := ∃ r : Int, e = .returned (.int .i64 r) ∧ (r = -1 ∨ (0 ≤ r ∧ r = left - wt))

def SzRel (left : Int) (n : Nat) (sz : Nat → Nat) (v1 v5 : Value) : Prop := ∃ (k : Nat) (r : Int), k ≤ n ∧ v5 = .int .i64 k ∧ v1 = .int .i64 r ∧ 0 ≤ r ∧ r = left - n - sz k

def SzRelW (left : Int) (n : Nat) (sz : Nat → Nat) (w : World) (v1 v5 : Value) (wr : World) : Prop := SzRel left n sz v1 v5 ∧ Below w.heap.size w wr

/-- behind k rounds of 'out[i] = ..' -/
def ToRel {α : Type} (L : Lay α) (t : TypeId) (x0 : α) (l : List α) (n : Nat) (w : World) (v4 : Value) (wr : World) : Prop :=
  ∃ (k : Nat) (es : List (Ent α)), k ≤ n ∧ v4 = .int .i64 k ∧ OwnN L wr w.heap.size t (.slice (some ⟨w.heap.size, 0, none⟩) n n) es ∧ es.map Ent.x = l.take k ++ List.replicate (n - k) x0 ∧ Below w.heap.size w wr

theorem to_start {α : Type} {L : Lay α} {t : TypeId} {x0 : α} {l : List α} {n : Nat} {w w1 : World} {z : Value} (hsz : z.cells.size = L.size)
    (h : w1.ownsRow w.heap.size t L.size (.slice (some ⟨w.heap.size, 0, none⟩) n n) n (madeCells z.cells (n * L.size)).toList) (hz : L.R w1 [] x0 z.cells.toList) (hb : Below w.heap.size w w1) :
    ToRel L t x0 l n w (.int .i64 0) w1 :=
  ⟨0, _, Nat.zero_le _, rfl, OwnN.made hsz h hz, by simp, hb⟩

theorem to_step {α : Type} {L : Lay α} {t : TypeId} {x0 : α} {l : List α} {n k : Nat} {w wr w2 : World} {es : List (Ent α)} {e' : Ent α} (hl : l.length = n) (hk : k < n) (hx : l[k]? = some e'.x)
    (hown : OwnN L wr w.heap.size t (.slice (some ⟨w.heap.size, 0, none⟩) n n) es) (hes : es.map Ent.x = l.take k ++ List.replicate (n - k) x0) (hb : Below w.heap.size w wr)
    (hb2 : Below wr.heap.size wr w2) (hR : L.R w2 e'.f e'.x e'.c) (hO : Ow w2 wr.heap.size e'.f) :
    ToRel L t x0 l n w (.int .i64 ((k : Int) + 1)) (w2.setCells w.heap.size (k * L.size) e'.c) := by
  have hlen : es.length = n := by
    have := congrArg List.length hes
    simp only [List.length_map, List.length_append, List.length_take, List.length_replicate] at this
    omega
  have hg : w.heap.size < wr.heap.size := (own_blk hown.1 rfl).2
  obtain ⟨k1, k2⟩ := OwnN.store (i := k) (hown.keep hb2) hlen hk hR (hO.lo hb.size) (fun b hbm => ⟨by have := (hO.2 b hbm).1; omega, fun hm => by have h1 := hown.2.2.1.lt b hm; have := (hO.2 b hbm).1; omega⟩)
  refine ⟨k + 1, _, hk, rfl, k1, ?_, (hb.trans (hb2.mono hb.size)).grown k2 (by have := hb2.size; omega) (fun g hg => by injection hg with hg; omega)⟩
  rw [List.map_set, hes, take_rep_set hl hx]

theorem to_end {α : Type} {L : Lay α} {t : TypeId} {x0 : α} {l : List α} {n : Nat} {w wr : World} {k : Nat} {es : List (Ent α)} (hl : l.length = n) (hk : ¬ k < n) (hk' : k ≤ n)
    (hown : OwnN L wr w.heap.size t (.slice (some ⟨w.heap.size, 0, none⟩) n n) es) (hes : es.map Ent.x = l.take k ++ List.replicate (n - k) x0) (hb : Below w.heap.size w wr) :
    RetOwn L t w l (.returned (.slice (some ⟨w.heap.size, 0, none⟩) n n)) wr := by
  obtain rfl : k = n := by omega
  refine ⟨_, es, rfl, hown, ?_, hb⟩
  rw [hes, Nat.sub_self, List.replicate_zero, List.append_nil, List.take_of_length_le (by omega)]

theorem own_len {α : Type} {L : Lay α} {w : World} {base : Nat} {t : TypeId} {A : Option Addr} {n c : Nat} {es : List (Ent α)} (h : OwnN L w base t (.slice A n c) es) : es.length = n := by
  obtain ⟨A', c', hv, _, _⟩ := own_shape h.1
  injection hv with _ h2 _; exact h2.symm

theorem own_cell {α : Type} {L : Lay α} {w : World} {base g n c : Nat} {t : TypeId} {es : List (Ent α)} (h : OwnN L w base t (.slice (some ⟨g, 0, none⟩) n c) es) {o : Nat} (ho : o < n * L.size) :
    ∃ u, w.cell? ⟨g, o, none⟩ = some u := by
  have hl := own_len h
  have h1 := h.1
  rw [hl] at h1
  have := h1.cellAt o ho
  rw [List.getElem?_eq_getElem (by rw [flat_len (fun e he => L.len (h.2.1 e he)), hl]; exact ho)] at this
  exact ⟨_, this⟩

theorem own_frozen {α : Type} {L : Lay α} {w : World} {base g n c : Nat} {t : TypeId} {es : List (Ent α)} (h : OwnN L w base t (.slice (some ⟨g, 0, none⟩) n c) es) (o : Nat) :
    w.frozen? ⟨g, o, none⟩ = false := by
  have hl := own_len h
  have h1 := h.1
  rw [hl] at h1
  exact h1.frozenAt o

end Go.Proofs.Ytlcnokbhoekpkaa
