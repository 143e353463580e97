/- From contracts over values to 'Meets'; items. -/
import Derived.Test.YtolkglnkdfcceaaGB
import Derived.Test.YtolkglnkdfcceaaGN
namespace Go.Proofs.Ytolkglnkdfcceaa
open Go.RowKit
set_option linter.unusedVariables false
set_option linter.unusedSimpArgs false

def encIt (x : It) : List DV := [.sc (.int .i64 x.num), .sc (.int .i64 x.den), .sc (.string x.text)]
theorem encIt_len (x : It) : (encIt x).length = 3 := rfl
theorem encIt_flat (x : It) : Flat (encIt x) := by intro d hd; simp [encIt] at hd; rcases hd with rfl | rfl | rfl <;> exact ⟨_, rfl⟩
theorem encIts_flat (l : List It) : Flat (l.map encIt).flatten := by
  intro d hd
  obtain ⟨e, he, hd⟩ := List.mem_flatten.1 hd
  obtain ⟨x, _, rfl⟩ := List.mem_map.1 he
  exact encIt_flat x d hd

/-- scalars have their values -/
def scs (vs : List Value) : List DV := vs.map .sc
theorem rep_scs {w : World} {A : Nat → Prop} {vals vs : List Value} (h : RepL w A vals (scs vs)) : vals = vs := by
  induction vs generalizing vals with
  | nil => cases h; rfl
  | cons v vs ih => cases h with | sc h1 h2 => rw [ih h2]
theorem own_scs {w : World} {base : Nat} {vs : List Value} (h : ∀ v ∈ vs, Sc v) : OwnL w base vs (scs vs) [] := by
  induction vs with
  | nil => exact .nil
  | cons v vs ih => exact .sc (h v (List.mem_cons_self ..)) (ih fun v hv => h v (List.mem_cons_of_mem _ hv))

/-- arguments of scalars alone, and a result of scalars alone -/
def valOf (x : Bool × List Value) : Value := if x.1 then .agg x.2.toArray else x.2.headD undef
theorem meets_sc {P : Program} {f : FuncId} (args : List (Bool × List Value)) (res : Bool × List Value) (hc : callable P f = true) (ha : ∀ x ∈ args, x.1 = false → x.2.length = 1) (hr : ∀ v ∈ res.2, Sc v) (hr1 : res.1 = false → res.2.length = 1)
    (h : ∀ w, Calls P f (args.map valOf).toArray w fun e w' => e = .returned (valOf res) ∧ Below w.heap.size w w') : Meets P f (args.map fun x => (x.1, scs x.2)) [(res.1, scs res.2, true)] := by
  refine ⟨hc, fun w B vs hB har => ?_⟩
  have hvs : vs = args.map valOf := by
    apply List.ext_getElem?
    intro j
    by_cases hj : j < args.length
    · have hl := har.1
      simp at hl
      have h1 := har.2 j vs[j] _ (List.getElem?_eq_getElem (by omega)) (by rw [List.getElem?_map, List.getElem?_eq_getElem hj]; rfl)
      rw [List.getElem?_eq_getElem (by omega), List.getElem?_map, List.getElem?_eq_getElem hj]
      simp only [Option.map_some, Option.some.injEq]
      unfold ArgR at h1
      unfold valOf
      split at h1
      · rename_i hb
        obtain ⟨vals, e1, e2⟩ := h1
        rw [if_pos hb, e1, rep_scs e2]
      · rename_i hb
        have := rep_scs h1
        rw [if_neg hb]
        rw [← this]; rfl
    · have hl := har.1
      simp at hl
      rw [List.getElem?_eq_none (by omega), List.getElem?_eq_none (by simp; omega)]
  subst hvs
  refine (h w).mono ?_
  rintro e w' ⟨rfl, hb⟩
  refine ⟨_, rfl, ⟨[valOf res], [[]], by simp, rfl, rfl, by simp, fun j u r f' h1 h2 h3 => ?_⟩, hb⟩
  cases j with
  | zero =>
    simp at h1 h2 h3
    subst h1 h2 h3
    refine ⟨res.2, ?_, own_scs hr⟩
    unfold valOf
    simp only
    split
    · rfl
    · rename_i hb
      have := hr1 (by simpa using hb)
      match hx : res.2, this with
      | [v], _ => rfl
  | succ j => simp at h1

/-! ### rows that are filled from the left -/
def fillL {α : Type} (l : List α) (k : Nat) (z : α) : List α := l.take k ++ List.replicate (l.length - k) z
theorem fillL_zero {α : Type} (l : List α) (z : α) : fillL l 0 z = List.replicate l.length z := by simp [fillL]
theorem fillL_len {α : Type} {l : List α} {k : Nat} {z : α} (h : k ≤ l.length) : (fillL l k z).length = l.length := by simp [fillL]; omega
theorem fillL_get {α : Type} {l : List α} {k : Nat} {z : α} (h : k < l.length) : (fillL l k z)[k]? = some z := by
  unfold fillL
  rw [List.getElem?_append_right (by simp; omega), List.length_take, Nat.min_eq_left (by omega), Nat.sub_self, List.getElem?_replicate, if_pos (by omega)]
theorem fillL_set {α : Type} {l : List α} {k : Nat} {x z : α} (h : l[k]? = some x) : (fillL l k z).set k x = fillL l (k + 1) z := take_rep_set rfl h
theorem fillL_end {α : Type} (l : List α) (z : α) : fillL l l.length z = l := by simp [fillL]
end Go.Proofs.Ytolkglnkdfcceaa
