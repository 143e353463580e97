/- Deep ownership under a store of one cell, and under a change of one nested slice. No program here. -/
import Derived.Test.YtgmpajfhjnojiaaGB
namespace Go.Proofs.Ytgmpajfhjnojiaa
open Go.RowKit
set_option linter.unusedVariables false
set_option linter.unusedSimpArgs false

section
variable {w w' : World} {base : Nat} {vs : List Value} {ds : List DV} {f : List Nat}

/-- a scalar in place of a scalar -/
theorem OwnL.setSc (h : OwnL w base vs ds f) : ∀ {p : Nat} {x u : Value}, ds[p]? = some (.sc x) → Sc u → OwnL w base (vs.set p u) (ds.set p (.sc u)) f := by
  induction h with
  | nil => intro p x u hp; simp at hp
  | @sc v vs ds f h1 h2 ih =>
    intro p x u hp hu
    cases p with
    | zero => exact .sc hu h2
    | succ p => exact .sc h1 (ih (by simpa using hp) hu)
  | sl h1 h2 h3 h4 h5 h6 _ ih =>
    intro p x u hp hu
    cases p with
    | zero => simp at hp
    | succ p => exact .sl h1 h2 h3 h4 (ih (by simpa using hp) hu) h6
/-- one cell with what it owns; the others stay -/
theorem OwnL.one_at (h : OwnL w base vs ds f) : ∀ {p : Nat} {d : DV}, ds[p]? = some d → ∃ u f2, vs[p]? = some u ∧ OwnL w base [u] [d] f2 ∧ (∀ b ∈ f2, b ∈ f) ∧
    ∀ (w' : World) (d' : DV), (∀ b ∈ f, b ∉ f2 → w'.heap[b]? = w.heap[b]?) → OwnL w' base [u] [d'] f2 → OwnL w' base vs (ds.set p d') f := by
  induction h with
  | nil => intro p d hp; simp at hp
  | @sc v vs ds f h1 h2 ih =>
    intro p d hp
    cases p with
    | zero =>
      simp at hp; subst hp
      refine ⟨v, [], rfl, .sc h1 .nil, by simp, fun w' d' hk ho => ?_⟩
      have := ho.app (h2.keep fun b hb => hk b hb (by simp)) (by simp)
      simpa using this
    | succ p =>
      obtain ⟨u, f2, a1, a2, a3, a4⟩ := ih (by simpa using hp)
      exact ⟨u, f2, by simpa using a1, a2, a3, fun w' d' hk ho => .sc h1 (a4 w' d' hk ho)⟩
  | @sl v t k es cells g vs ds f h1 h2 h3 h4 h5 h6 ih1 ih2 =>
    intro p d hp
    rw [← List.append_assoc] at h6
    obtain ⟨n1, n2, n3⟩ := List.nodup_append.1 h6
    cases p with
    | zero =>
      simp at hp; subst hp
      refine ⟨v, v.ownBlock.toList ++ g, rfl, ?_, fun b hb => ?_, fun w' d' hk ho => ?_⟩
      · have := OwnL.sl (vs := []) (ds := []) (f := []) h1 h2 h3 h4 .nil (by simpa using n1)
        simpa using this
      · rw [← List.append_assoc]; exact List.mem_append_left _ hb
      · have hk2 : OwnL w' base vs ds f := h5.keep fun b hb => hk b (by rw [← List.append_assoc]; exact List.mem_append_right _ hb) (fun hc => n3 b hc b hb rfl)
        have := ho.app hk2 (fun b hb hc => n3 b hb b hc rfl)
        simpa using this
    | succ p =>
      obtain ⟨u, f2, a1, a2, a3, a4⟩ := ih2 (by simpa using hp)
      refine ⟨u, f2, by simpa using a1, a2, fun b hb => by rw [← List.append_assoc]; exact List.mem_append_right _ (a3 b hb), fun w' d' hk ho => ?_⟩
      have hx : ∀ b, b ∈ v.ownBlock.toList ++ g → w'.heap[b]? = w.heap[b]? := fun b hb => hk b (by rw [← List.append_assoc]; exact List.mem_append_left _ hb) (fun hc => n3 b hb b (a3 b hc) rfl)
      refine .sl (own_keep h1 fun b hb => hx b (by simp [hb])) h2 h3 (h4.keep fun b hb => hx b (by simp [hb])) (a4 w' d' (fun b hb hn => hk b (by rw [← List.append_assoc]; exact List.mem_append_right _ hb) hn) ho) (by rw [← List.append_assoc]; exact h6)

theorem flat_set1 {α : Type} {k : Nat} {d : α} : ∀ {es : List (List α)} {j off : Nat} {e : List α}, (∀ e ∈ es, e.length = k) → es[j]? = some e → off < k → (es.set j (e.set off d)).flatten = es.flatten.set (j * k + off) d
  | [], j, off, e, _, h, _ => by simp at h
  | a :: es, 0, off, e, hk, h, ho => by
    simp at h; subst h
    have := hk a (List.mem_cons_self ..)
    simp only [List.set_cons_zero, List.flatten_cons, Nat.zero_mul, Nat.zero_add]
    rw [List.set_append_left _ _ (by omega)]
  | a :: es, j + 1, off, e, hk, h, ho => by
    have ha := hk a (List.mem_cons_self ..)
    have ih := flat_set1 (d := d) (es := es) (j := j) (off := off) (e := e) (fun e he => hk e (List.mem_cons_of_mem _ he)) (by simpa using h) ho
    simp only [List.set_cons_succ, List.flatten_cons, ih]
    rw [List.set_append_right _ _ (by rw [Nat.succ_mul]; omega)]
    congr 2
    rw [Nat.succ_mul]; omega
theorem flat_get1 {α : Type} {k : Nat} {es : List (List α)} {j off : Nat} {e : List α} {d : α} (hk : ∀ e ∈ es, e.length = k) (h : es[j]? = some e) (ho : e[off]? = some d) : es.flatten[j * k + off]? = some d := by
  have h1 := flat_at hk h
  have hlt : off < e.length := (List.getElem?_eq_some_iff.1 ho).1
  have : ((es.flatten.drop (j * k)).take k)[off]? = some d := by rw [h1]; exact ho
  rw [List.getElem?_take, if_pos (by rw [← hk e (List.mem_of_getElem? h)]; exact hlt), List.getElem?_drop] at this
  exact this

variable {t k : Nat} {es : List (List DV)} {g n c : Nat}
theorem own_lens (h : OwnL w base [.slice (some ⟨g, 0, none⟩) n c] [.sl t k es] f) : n = es.length ∧ 0 < k ∧ (∀ e ∈ es, e.length = k) ∧ g ∈ f ∧ base ≤ g ∧ g < w.heap.size := by
  cases h with
  | sl h1 h2 h3 h4 h5 h6 =>
    obtain ⟨a, c', e, _⟩ := own_shape h1
    injection e with _ e _
    have := own_blk h1 rfl
    exact ⟨e, h2, h3, by simp [Value.ownBlock], this.1, this.2⟩
theorem own_store (h : OwnL w base [.slice (some ⟨g, 0, none⟩) n c] [.sl t k es] f) {j off : Nat} {e : List DV} {x u : Value} (he : es[j]? = some e) (ho : e[off]? = some (.sc x)) (hu : Sc u) :
    OwnL (w.setCell ⟨g, j * k + off, none⟩ u) base [.slice (some ⟨g, 0, none⟩) n c] [.sl t k (es.set j (e.set off (.sc u)))] f ∧ (∃ z, w.cell? ⟨g, j * k + off, none⟩ = some z) ∧ w.frozen? ⟨g, j * k + off, none⟩ = false := by
  cases h with
  | @sl v t k es cells f1 vs ds f2 h1 h2 h3 h4 h5 h6 =>
    cases h5
    obtain ⟨_, _, en, _⟩ := own_shape h1
    injection en with _ en _
    subst en
    have hcl : cells.length = es.length * k := h1.1
    have hek : e.length = k := h3 e (List.mem_of_getElem? he)
    have hlt : off < k := by rw [← hek]; exact (List.getElem?_eq_some_iff.1 ho).1
    have hp := flat_get1 h3 he ho
    have hlen : (es.set j (e.set off (.sc u))).length = es.length := by simp
    have hst := h1.stored (j * k + off) u
    have hset := h4.setSc hp hu
    rw [← flat_set1 h3 he hlt] at hset
    have hnd : ∀ b ∈ f1, b ≠ g := by
      intro b hb e
      subst e
      have := (List.nodup_append.1 h6).2.2 b (by simp [Value.ownBlock]) b (by simp [hb])
      exact this rfl
    have hpc : j * k + off < cells.length := by rw [h4.rep.len]; exact (List.getElem?_eq_some_iff.1 hp).1
    refine ⟨?_, ⟨_, (h1.cellAt (j * k + off) (by omega)).trans (List.getElem?_eq_getElem hpc)⟩, h1.frozenAt _⟩
    · refine .sl (by rw [hlen]; exact hst.1) h2 (fun e' he' => ?_) (hset.keep fun b hb => ?_) .nil h6
      · rcases List.mem_or_eq_of_mem_set he' with h | h
        · exact h3 e' h
        · subst h; simpa using hek
      · exact Below.heap_setCell w ⟨g, j * k + off, none⟩ u b (fun e => hnd b hb e)
/-- a nested slice of an own row -/
theorem own_sub (h : OwnL w base [.slice (some ⟨g, 0, none⟩) n c] [.sl t k es] f) {j off : Nat} {e : List DV} {d : DV} (he : es[j]? = some e) (ho : e[off]? = some d) :
    ∃ u f2, w.cell? ⟨g, j * k + off, none⟩ = some u ∧ OwnL w base [u] [d] f2 ∧ (∀ b ∈ f2, b ∈ f ∧ b ≠ g) ∧
      ∀ (w' : World) (d' : DV), (∀ b ∈ f, b ∉ f2 → w'.heap[b]? = w.heap[b]?) → OwnL w' base [u] [d'] f2 → OwnL w' base [.slice (some ⟨g, 0, none⟩) n c] [.sl t k (es.set j (e.set off d'))] f := by
  cases h with
  | @sl v t k es cells f1 vs ds f2 h1 h2 h3 h4 h5 h6 =>
    cases h5
    obtain ⟨_, _, en, _⟩ := own_shape h1
    injection en with _ en _
    subst en
    have hcl : cells.length = es.length * k := h1.1
    have hek : e.length = k := h3 e (List.mem_of_getElem? he)
    have hlt : off < k := by rw [← hek]; exact (List.getElem?_eq_some_iff.1 ho).1
    have hp := flat_get1 h3 he ho
    have hnd : ∀ b ∈ f1, b ≠ g := by
      intro b hb e
      subst e
      exact (List.nodup_append.1 h6).2.2 b (by simp [Value.ownBlock]) b (by simp [hb]) rfl
    obtain ⟨u, f3, a1, a2, a3, a4⟩ := h4.one_at hp
    refine ⟨u, f3, (h1.cellAt (j * k + off) (by rw [← hcl]; exact (List.getElem?_eq_some_iff.1 a1).1)).trans a1, a2, fun b hb => ⟨by simp [a3 b hb], hnd b (a3 b hb)⟩, fun w' d' hk ho' => ?_⟩
    have hc := a4 w' d' (fun b hb hn => hk b (by simp [hb]) hn) ho'
    rw [← flat_set1 h3 he hlt] at hc
    have hkg : w'.heap[g]? = w.heap[g]? := hk g (by simp [Value.ownBlock]) (fun hx => hnd _ (a3 _ hx) rfl)
    have ho1 : w'.ownsRow base t k (Value.slice (some ⟨g, 0, none⟩) es.length c) es.length cells := own_keep h1 fun b hb => by
      injection hb with hb
      subst hb
      exact hkg
    refine .sl (by rw [List.length_set]; exact ho1) h2 (fun e' he' => ?_) hc .nil h6
    rcases List.mem_or_eq_of_mem_set he' with h | h
    · exact h3 e' h
    · subst h; simpa using hek
end
end Go.Proofs.Ytgmpajfhjnojiaa
