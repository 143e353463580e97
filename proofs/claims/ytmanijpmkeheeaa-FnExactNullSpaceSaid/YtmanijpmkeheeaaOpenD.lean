/- From the statement's reading of an argument to data; a law's contract as the row asks for it. -/
import Derived.Test.YtmanijpmkeheeaaLawMt
namespace Go.Proofs.Ytmanijpmkeheeaa
open Go.RowKit Go.ChangeShapes Go.WideShapes Go.Deep
set_option linter.unusedVariables false
set_option linter.unusedSimpArgs false
set_option maxRecDepth 100000

theorem run_law {P : Program} {f : FuncId} {args : List (Bool × List DV)} {v : Value} (h : Meets P f args [(false, [.sc v], true)]) {w : World} {B : Nat → Prop} {vs : List Value} (hB : ∀ b, B b → b < w.heap.size) (ha : ArgsR w B vs args) :
    Calls P f vs.toArray w fun e w' => e = .returned v ∧ Below w.heap.size w w' := by
  refine (h.2 w B vs hB ha).mono ?_
  rintro e w' ⟨u, rfl, ⟨us, fs, h1, h2, h3, -, h4⟩, hb⟩
  refine ⟨?_, hb⟩
  have h1 : us = [u] := h1
  subst h1
  match fs, h3 with
  | [f'], _ =>
    obtain ⟨vals, e1, e2⟩ := h4 0 u _ f' rfl rfl rfl
    have e1 : vals = [u] := e1
    subst e1
    have e2 : OwnL w' w.heap.size [u] [.sc v] f' := e2
    rw [(RepL.scOf e2.rep).1]

/-- a slice of items that can be read -/
theorem slr_rep {w : World} {fp : List Nat} {l : List It} {A : Option Addr} {n c : Nat} (t : Nat) (h : SlR Lay.item w fp l A n c) : RepL w (· ∈ fp) [.slice A n c] [.sl t 3 (l.map encIt)] ∧ l.length ≤ 9223372036854775807 ∧ ∀ x ∈ l, ItOk x := by
  obtain ⟨h1, h2, h3, h4⟩ := h
  have hle : l.length ≤ 9223372036854775807 := by unfold maxLen at h3; omega
  rcases h4 with ⟨rfl, -⟩ | ⟨b, off, es, rfl, hn, rfl, rfl, hR, hc⟩
  · simp at h1; subst h1
    exact ⟨.sl0 h3 .nil, by simp, by simp⟩
  · have key : ∀ es : List (Ent It), (∀ e ∈ es, Lay.item.R w e.f e.x e.c) → es.flatMap Ent.c = itFlat (es.map Ent.x) ∧ ∀ e ∈ es, ItOk e.x := by
      intro es
      induction es with
      | nil => intro _; exact ⟨rfl, by simp⟩
      | cons e es ih =>
        intro hR
        obtain ⟨e1, e2⟩ := ih fun e he => hR e (List.mem_cons_of_mem _ he)
        obtain ⟨-, q1, q2⟩ := hR e (List.mem_cons_self ..)
        refine ⟨?_, fun e' he' => ?_⟩
        · rw [List.flatMap_cons, e1, q1]; rfl
        · rcases List.mem_cons.1 he' with rfl | he'
          · exact q2
          · exact e2 e' he'
    obtain ⟨k1, k2⟩ := key es hR
    refine ⟨.sl (cells := es.flatMap Ent.c) (List.mem_cons_self ..) (by simpa using h1.symm) hn h2 h3 (by decide) (by simp [encIt]) ?_ hc .nil, hle, ?_⟩
    · rw [encIts_scs, k1]
      generalize es.map Ent.x = xs
      have : ∀ (vs : List Value), (∀ v ∈ vs, Sc v) → RepL w (· ∈ b :: es.flatMap Ent.f) vs (scs vs) := by
        intro vs
        induction vs with
        | nil => intro _; exact .nil
        | cons v vs ih => intro hv; exact .sc (hv v (List.mem_cons_self ..)) (ih fun v h => hv v (List.mem_cons_of_mem _ h))
      refine this _ fun u hu => ?_
      obtain ⟨x, _, hx⟩ := List.mem_flatMap.1 hu
      simp [itCells] at hx
      rcases hx with rfl | rfl | rfl <;> trivial
    · intro x hx
      obtain ⟨e, he, rfl⟩ := List.mem_map.1 hx
      exact k2 e he

/-- an argument of type laws.Matrix -/
theorem arg_mt {H : Type} {enc : TypeId × Value → H} {w : World} {base : Nat} {b : Nat} {spare : Nat → Bool} {held : Bool} {v : Value} {d : DataW H} {p : List MemPlace} (h : DataW.Trod enc Try.prog w b spare held 24 v d p) (ok : Value.okWide Try.prog w .any base 24 v) :
    ∃ (m : Mt) (f : List Nat), ArgR w (· ∈ f) v (true, encMtL m) ∧ (∀ c ∈ f, c < w.heap.size) ∧ m.cells.length ≤ 9223372036854775807 ∧ (∀ x ∈ m.cells, ItOk x) := by
  obtain ⟨cs, rfl, -⟩ := okWide_struct Try.underlying24 ok
  obtain ⟨fuel, hf⟩ := h
  obtain ⟨hl, n, hfi⟩ := open_fields Try.underlying24 (by kernel_rfl) (by kernel_rfl) hf
  simp only [Value.cells] at hl hfi
  match hcs : cs.toList, hl with
  | [u0, u1, u2], _ =>
    rw [hcs] at hfi
    obtain ⟨v0, y0, e0, t0⟩ := hfi 0 _ rfl
    obtain ⟨v1, y1, e1, t1⟩ := hfi 1 _ rfl
    obtain ⟨v2, y2, e2, t2⟩ := hfi 2 _ rfl
    simp at e0 e1 e2
    subst e0 e1 e2
    obtain ⟨a0, f0, -, h0, i0⟩ := opens_int Try.underlying3 H enc w b spare held n _ _ t0
    obtain ⟨a1, f1, -, h1, i1⟩ := opens_int Try.underlying3 H enc w b spare held n _ _ t1
    obtain ⟨a2, f2, A, nn, cp, h2, i2⟩ := opens_items H enc w b spare held n _ _ t2
    simp at h0 h1 h2
    subst h0 h1 h2
    obtain ⟨r1, r2, r3⟩ := slr_rep 89 i2
    refine ⟨⟨a0, a1, a2⟩, f2, ?_, i2.lt, r2, r3⟩
    refine ⟨[.int .i64 a0, .int .i64 a1, .slice A nn cp], ?_, .sc trivial (.sc trivial r1)⟩
    rw [← hcs]
end Go.Proofs.Ytmanijpmkeheeaa
