/- From the statement's reading of an argument to data, at any type; a law's contract as the row asks for it. No program here. -/
import Derived.Test.YtgmpajfhjnojiaaMem
import Derived.Test.YtgmpajfhjnojiaaOpen
import Derived.Test.YtgmpajfhjnojiaaGA
namespace Go.Proofs.Ytgmpajfhjnojiaa
open Go.RowKit Go.ChangeShapes Go.WideShapes Go.Deep
set_option linter.unusedVariables false
set_option linter.unusedSimpArgs false

theorem RepL.lt {w : World} {A : Nat → Prop} {vs : List Value} {ds : List DV} (h : RepL w A vs ds) : RepL w (· < w.heap.size) vs ds := by
  induction h with
  | nil => exact .nil
  | sc h1 _ ih => exact .sc h1 ih
  | sl0 h1 _ ih => exact .sl0 h1 ih
  | @sl b off n c t k es cells vs ds h1 h2 h3 h4 h5 h6 h7 h8 h9 _ ih1 ih2 =>
    refine .sl ?_ h2 h3 h4 h5 h6 h7 ih1 h9 ih2
    have hl : cells.length = es.length * k := by rw [h8.len, flat_length h7]
    have hp : 0 < cells.length := by rw [hl, ← h2]; exact Nat.mul_pos h3 h6
    have := h9 0 _ (List.getElem?_eq_getElem hp)
    unfold World.cell? at this
    apply Classical.byContradiction
    intro hb
    have hn : w.heap[b]? = none := by simp; omega
    simp [hn] at this

/-- whatever can be read at type t is data of the form 'e' -/
def OpD {α : Type} (e : α → List DV) (Ok : α → Prop) (P : Program) (t : TypeId) : Prop :=
  ∀ (H : Type) (enc : TypeId × Value → H) (w : World) (base : Nat) (spare : Nat → Bool) (held : Bool) (fuel : Nat) (cs : List Value) (x : DataW H × List MemPlace),
    DataW.trod enc P w base spare held fuel t cs = some x → ∃ a : α, RepL w (· < w.heap.size) cs (e a) ∧ Ok a

section
variable {P : Program} {t : TypeId}
theorem opD_int (ht : P.underlying t = some (.int .i64)) : OpD (fun n : Int => [.sc (.int .i64 n)]) In64 P t := by
  intro H enc w base spare held fuel cs x h
  obtain ⟨n, rfl, -, hn⟩ := DataW.trod_int ht h
  exact ⟨n, .sc trivial .nil, in64_wf hn⟩
theorem opD_u8 (ht : P.underlying t = some (.int .u8)) : OpD (fun n : Int => [.sc (.int .u8 n)]) (fun n => 0 ≤ n ∧ n < 256) P t := by
  intro H enc w base spare held fuel cs x h
  obtain ⟨n, rfl, -, hn⟩ := DataW.trod_int ht h
  refine ⟨n, .sc trivial .nil, ?_⟩
  simp [Lit.wf, IntKind.min, IntKind.max, IntKind.bits, IntKind.signed] at hn
  omega
theorem opD_str (ht : P.underlying t = some .string) : OpD (fun s : ByteArray => [.sc (.string s)]) (fun s => s.size ≤ 9223372036854775807) P t := by
  intro H enc w base spare held fuel cs x h
  obtain ⟨s, rfl, -, hs⟩ := DataW.trod_string ht h
  exact ⟨s, .sc trivial .nil, hs⟩
theorem opD_bool (ht : P.underlying t = some .bool) : OpD (fun b : Bool => [.sc (.bool b)]) (fun _ => True) P t := by
  intro H enc w base spare held fuel cs x h
  obtain ⟨s, rfl, -⟩ := DataW.trod_bool ht h
  exact ⟨s, .sc trivial .nil, trivial⟩
theorem repl_flat {w : World} {A : Nat → Prop} {α : Type} {e : α → List DV} (a : Nat → α) (cs : Nat → List Value) : ∀ n, (∀ i, i < n → RepL w A (cs i) (e (a i))) → RepL w A ((List.range n).map cs).flatten (((List.range n).map a).map e).flatten := by
  intro n
  induction n with
  | zero => intro _; exact .nil
  | succ n ih =>
    intro h
    simp only [List.range_succ, List.map_append, List.map_cons, List.map_nil, List.flatten_append, List.flatten_cons, List.flatten_nil, List.append_nil]
    exact (ih fun i hi => h i (by omega)).app (h n (by omega))
theorem slice_core {w : World} {α : Type} {e : α → List DV} {Ok : α → Prop} {k : Nat} (te : TypeId) (hk : 0 < k) (hl : ∀ a, (e a).length = k) {a : Addr} {len cap base : Nat} (hle : len ≤ cap) (hm : cap ≤ 9223372036854775807)
    (hi : ∀ i, i < len → ∃ cs', w.cells? base (a.add (i * k)) k = some cs' ∧ ∃ y, RepL w (· < w.heap.size) cs' (e y) ∧ Ok y) :
    ∃ l : List α, RepL w (· < w.heap.size) [.slice (some a) len cap] [.sl te k (l.map e)] ∧ l.length ≤ 9223372036854775807 ∧ ∀ x ∈ l, Ok x := by
  rcases Nat.eq_zero_or_pos len with h0 | h0
  · subst h0
    exact ⟨[], .sl0 hm .nil, by simp, by simp⟩
  · have hch : ∀ i, i < len → ∃ p : α × List Value, RepL w (· < w.heap.size) p.2 (e p.1) ∧ Ok p.1 ∧ ∀ j, j < k → w.cell? (a.add (i * k + j)) = p.2[j]? := by
      intro i hil
      obtain ⟨cs', hcs, y, hR, hOk⟩ := hi i hil
      obtain ⟨-, hcl, hat⟩ := World.cells?_some hcs
      exact ⟨(y, cs'), hR, hOk, fun j hj => by rw [← add_add']; exact hat j hj⟩
    have hdef : ∃ p : α × List Value, True := ⟨(hch 0 h0).choose, trivial⟩
    obtain ⟨p0, -⟩ := hdef
    have hch2 : ∀ i, ∃ p : α × List Value, i < len → RepL w (· < w.heap.size) p.2 (e p.1) ∧ Ok p.1 ∧ ∀ j, j < k → w.cell? (a.add (i * k + j)) = p.2[j]? := by
      intro i
      by_cases h : i < len
      · obtain ⟨p, hp⟩ := hch i h; exact ⟨p, fun _ => hp⟩
      · exact ⟨p0, fun h' => (h h').elim⟩
    obtain ⟨f, hf⟩ := Classical.axiomOfChoice hch2
    have hspot : a.spot = none := by
      have hcl : (f 0).2.length = k := by rw [(hf 0 h0).1.len, hl]
      have hc0 := (hf 0 h0).2.2 0 hk
      rw [List.getElem?_eq_getElem (by omega)] at hc0
      cases hs : a.spot with
      | none => rfl
      | some q =>
        unfold World.cell? Addr.add at hc0
        simp [hs] at hc0
        split at hc0 <;> simp at hc0
    obtain ⟨b, off, sp⟩ := a
    simp only at hspot
    subst hspot
    have hadd : ∀ j, (⟨b, off, none⟩ : Addr).add j = ⟨b, off + j, none⟩ := by
      intro j; unfold Addr.add; split
      · next h => rw [h]; rfl
      · rfl
    have hlen : ∀ c ∈ ((List.range len).map fun i => (f i).2), c.length = k := by
      intro c hc
      obtain ⟨i, hi, rfl⟩ := List.mem_map.1 hc
      rw [(hf i (List.mem_range.1 hi)).1.len, hl]
    have hR := repl_flat (w := w) (A := (· < w.heap.size)) (e := e) (fun i => (f i).1) (fun i => (f i).2) len (fun i hi => (hf i hi).1)
    have hat : At w b off ((List.range len).map fun i => (f i).2).flatten := by
      intro j u hu
      have hjl : j < len * k := by
        have := (List.getElem?_eq_some_iff.1 hu).1
        rw [flat_length hlen] at this; simpa using this
      have hi : j / k < len := Nat.div_lt_of_lt_mul (by rw [Nat.mul_comm]; exact hjl)
      have h3 := (hf _ hi).2.2 (j % k) (Nat.mod_lt _ hk)
      rw [Nat.mul_comm, Nat.div_add_mod, hadd] at h3
      rw [h3]
      have hg : ((List.range len).map fun i => (f i).2)[j / k]? = some (f (j / k)).2 := by simp [List.getElem?_map, List.getElem?_range hi]
      have hfa := flat_at hlen hg
      have : ((((List.range len).map fun i => (f i).2).flatten.drop (j / k * k)).take k)[j % k]? = some u := by
        rw [List.getElem?_take, if_pos (Nat.mod_lt _ hk), List.getElem?_drop, Nat.mul_comm, Nat.div_add_mod]; exact hu
      rw [hfa] at this; exact this
    have hcell0 : w.cell? ⟨b, off, none⟩ ≠ none := by
      have hcl : (f 0).2.length = k := by rw [(hf 0 h0).1.len, hl]
      have hc0 := (hf 0 h0).2.2 0 hk
      rw [List.getElem?_eq_getElem (by omega), hadd] at hc0
      simp only [Nat.zero_mul, Nat.add_zero] at hc0
      rw [hc0]; simp
    refine ⟨(List.range len).map fun i => (f i).1, .sl (A := (· < w.heap.size)) ?_ (by simp) h0 hle hm hk (by intro c hc; obtain ⟨x, _, rfl⟩ := List.mem_map.1 hc; exact hl x) hR hat .nil, ?_, ?_⟩
    · apply Classical.byContradiction
      intro hb
      apply hcell0
      have hn : w.heap[b]? = none := by simp; omega
      simp [World.cell?, hn]
    · simp; omega
    · intro x hx
      obtain ⟨i, hi, rfl⟩ := List.mem_map.1 hx
      exact (hf i (List.mem_range.1 hi)).2.1
theorem opD_slice {α : Type} {e : α → List DV} {Ok : α → Prop} {el : TypeId} {k : Nat} (te : TypeId) (ht : P.underlying t = some (.slice el)) (hc : P.cellsOf el = k) (hk : 0 < k) (hl : ∀ a, (e a).length = k) (ho : OpD e Ok P el) :
    OpD (fun l : List α => [.sl te k (l.map e)]) (fun l => l.length ≤ 9223372036854775807 ∧ ∀ x ∈ l, Ok x) P t := by
  intro H enc w base spare held fuel cs x h
  rcases open_slice ht h with ⟨rfl, -⟩ | ⟨a, len, cap, m, n, D, Pl, rfl, hb, hle, hm, hmm, hx, hi⟩
  · exact ⟨[], .sl0 (Nat.zero_le _) .nil, by simp, by simp⟩
  · rw [hc] at hi
    have hlm : len ≤ m := by rw [hmm]; split <;> omega
    exact slice_core te hk hl hle hm fun i hil => by
      obtain ⟨cs', hcs, htr⟩ := hi i (by omega)
      exact ⟨cs', hcs, ho H enc w base spare held n cs' _ htr⟩
/-- the same below some fuel (for types that hold themselves) -/
def OpDb {α : Type} (F : Nat) (e : α → List DV) (Ok : α → Prop) (P : Program) (t : TypeId) : Prop :=
  ∀ (H : Type) (enc : TypeId × Value → H) (w : World) (base : Nat) (spare : Nat → Bool) (held : Bool) (fuel : Nat) (cs : List Value) (x : DataW H × List MemPlace), fuel < F →
    DataW.trod enc P w base spare held fuel t cs = some x → ∃ a : α, RepL w (· < w.heap.size) cs (e a) ∧ Ok a
theorem opDb_slice {α : Type} {F : Nat} {e : α → List DV} {Ok : α → Prop} {el : TypeId} {k : Nat} (te : TypeId) (ht : P.underlying t = some (.slice el)) (hc : P.cellsOf el = k) (hk : 0 < k) (hl : ∀ a, (e a).length = k) (ho : OpDb F e Ok P el) :
    OpDb F (fun l : List α => [.sl te k (l.map e)]) (fun l => l.length ≤ 9223372036854775807 ∧ ∀ x ∈ l, Ok x) P t := by
  intro H enc w base spare held fuel cs x hF h
  rcases DataW.trod_slice ht h with ⟨rfl, -⟩ | ⟨a, len, cap, elems, rest, n, hn, rfl, -, hb, hle, hm, hlen, hel, -⟩
  · exact ⟨[], .sl0 (Nat.zero_le _) .nil, by simp, by simp⟩
  · rw [hc] at hel
    refine slice_core (base := base) te hk hl hle hm fun i hil => ?_
    have := hel i hil
    rw [List.getElem?_eq_getElem (by omega)] at this
    obtain ⟨cs', h1, h2⟩ := Option.bind_eq_some_iff.1 this
    exact ⟨cs', h1, ho H enc w base spare held n cs' _ (by omega) h2⟩
/-- the fields of a struct, with less fuel -/
theorem open_fldsF {H : Type} {enc : TypeId × Value → H} {w : World} {base : Nat} {spare : Nat → Bool} {held : Bool} {fuel : Nat} {cs : List Value} {x : DataW H × List MemPlace} {fs : Array Field}
    (ht : P.underlying t = some (.struct fs)) (h : DataW.trod enc P w base spare held fuel t cs = some x) :
    cs.length = P.cellsOf t ∧ ∃ n, n < fuel ∧ ∀ (j : Nat) (f : Field), fs[j]? = some f → ∃ y : DataW H × List MemPlace, DataW.trod enc P w base spare held n f.type ((cs.drop f.offset).take (P.cellsOf f.type)) = some y := by
  obtain ⟨ys, n, hn, hy, hlen, hyl, hf⟩ := DataW.trod_struct ht h
  refine ⟨hlen, n, by omega, fun j f hj => ?_⟩
  have hjl : j < fs.size := (Array.getElem?_eq_some_iff.1 hj).1
  exact ⟨ys[j]'(by omega), by rw [hf j f hj]; exact List.getElem?_eq_getElem (by omega)⟩

/-- the fields of a struct -/
theorem open_flds {H : Type} {enc : TypeId × Value → H} {w : World} {base : Nat} {spare : Nat → Bool} {held : Bool} {fuel : Nat} {cs : List Value} {x : DataW H × List MemPlace} {fs : Array Field}
    (ht : P.underlying t = some (.struct fs)) (h : DataW.trod enc P w base spare held fuel t cs = some x) :
    cs.length = P.cellsOf t ∧ ∃ n, ∀ (j : Nat) (f : Field), fs[j]? = some f → ∃ y : DataW H × List MemPlace, DataW.trod enc P w base spare held n f.type ((cs.drop f.offset).take (P.cellsOf f.type)) = some y := by
  obtain ⟨ys, n, hn, hy, hlen, hyl, hf⟩ := DataW.trod_struct ht h
  refine ⟨hlen, n, fun j f hj => ?_⟩
  have hjl : j < fs.size := (Array.getElem?_eq_some_iff.1 hj).1
  exact ⟨ys[j]'(by omega), by rw [hf j f hj]; exact List.getElem?_eq_getElem (by omega)⟩
/-- pieces put together -/
theorem repl_cut {w : World} {A : Nat → Prop} {cs : List Value} {o k : Nat} {d ds : List DV} (h : RepL w A ((cs.drop o).take k) d) (r : RepL w A (cs.drop (o + k)) ds) : RepL w A (cs.drop o) (d ++ ds) := by
  have := h.app r
  rwa [← List.drop_drop, List.take_append_drop] at this

theorem repl_at {w : World} {A : Nat → Prop} {cs : List Value} {o o' c k : Nat} {d : List DV} (h : RepL w A ((cs.drop o).take c) d) (ho : o = o') (hc : c = k) : RepL w A ((cs.drop o').take k) d := by subst ho hc; exact h
theorem repl_end {w : World} {A : Nat → Prop} {cs : List Value} {c k : Nat} (h : cs.length = c) (hc : c = k) : RepL w A (cs.drop k) [] := by
  subst hc; rw [List.drop_of_length_le (by omega)]; exact .nil

theorem argD_one {α : Type} {e : α → List DV} {Ok : α → Prop} (ho : OpD e Ok P t) {H : Type} {enc : TypeId × Value → H} {w : World} {base b : Nat} {spare : Nat → Bool} {held : Bool} {v : Value} {d : DataW H} {p : List MemPlace}
    (hv : v.cells.toList = [v]) (h : DataW.Trod enc P w b spare held t v d p) : ∃ a, ArgR w (· < w.heap.size) v (false, e a) ∧ Ok a := by
  obtain ⟨fuel, hf⟩ := h
  obtain ⟨a, hr, hk⟩ := ho H enc w b spare held fuel _ _ hf
  rw [hv] at hr
  exact ⟨a, hr, hk⟩
theorem argD_sl {α : Type} {e : α → List DV} {Ok : α → Prop} (ho : OpD e Ok P t) {el : TypeId} (ht : P.underlying t = some (.slice el)) {H : Type} {enc : TypeId × Value → H} {w : World} {base b : Nat} {spare : Nat → Bool} {held : Bool} {v : Value} {d : DataW H} {p : List MemPlace}
    (h : DataW.Trod enc P w b spare held t v d p) (ok : Value.okWide P w .any base t v) : ∃ a, ArgR w (· < w.heap.size) v (false, e a) ∧ Ok a := by
  obtain ⟨_, _, _, rfl⟩ := okWide_slice ht ok
  exact argD_one (base := base) ho rfl h
theorem argD_int {α : Type} {e : α → List DV} {Ok : α → Prop} (ho : OpD e Ok P t) {k : IntKind} (ht : P.underlying t = some (.int k)) {H : Type} {enc : TypeId × Value → H} {w : World} {base b : Nat} {spare : Nat → Bool} {held : Bool} {v : Value} {d : DataW H} {p : List MemPlace}
    (h : DataW.Trod enc P w b spare held t v d p) (ok : Value.okWide P w .any base t v) : ∃ a, ArgR w (· < w.heap.size) v (false, e a) ∧ Ok a := by
  obtain ⟨_, rfl⟩ := okWide_int ht ok
  exact argD_one (base := base) ho rfl h
theorem argD_bool {α : Type} {e : α → List DV} {Ok : α → Prop} (ho : OpD e Ok P t) (ht : P.underlying t = some .bool) {H : Type} {enc : TypeId × Value → H} {w : World} {base b : Nat} {spare : Nat → Bool} {held : Bool} {v : Value} {d : DataW H} {p : List MemPlace}
    (h : DataW.Trod enc P w b spare held t v d p) (ok : Value.okWide P w .any base t v) : ∃ a, ArgR w (· < w.heap.size) v (false, e a) ∧ Ok a := by
  obtain ⟨_, rfl⟩ := okWide_bool ht ok
  exact argD_one (base := base) ho rfl h
theorem argD_str {α : Type} {e : α → List DV} {Ok : α → Prop} (ho : OpD e Ok P t) (ht : P.underlying t = some .string) {H : Type} {enc : TypeId × Value → H} {w : World} {base b : Nat} {spare : Nat → Bool} {held : Bool} {v : Value} {d : DataW H} {p : List MemPlace}
    (h : DataW.Trod enc P w b spare held t v d p) (ok : Value.okWide P w .any base t v) : ∃ a, ArgR w (· < w.heap.size) v (false, e a) ∧ Ok a := by
  obtain ⟨_, rfl⟩ := okWide_string ht ok
  exact argD_one (base := base) ho rfl h
theorem argD_st {α : Type} {e : α → List DV} {Ok : α → Prop} (ho : OpD e Ok P t) {fs : Array Field} (ht : P.underlying t = some (.struct fs)) {H : Type} {enc : TypeId × Value → H} {w : World} {base b : Nat} {spare : Nat → Bool} {held : Bool} {v : Value} {d : DataW H} {p : List MemPlace}
    (h : DataW.Trod enc P w b spare held t v d p) (ok : Value.okWide P w .any base t v) : ∃ a, ArgR w (· < w.heap.size) v (true, e a) ∧ Ok a := by
  obtain ⟨cs, rfl, -⟩ := okWide_struct ht ok
  obtain ⟨fuel, hf⟩ := h
  obtain ⟨a, hr, hk⟩ := ho H enc w b spare held fuel _ _ hf
  exact ⟨a, ⟨cs.toList, by simp, hr⟩, hk⟩
end

theorem run_law {P : Program} {f : FuncId} {args : List (Bool × List DV)} {v : Value} (h : Meets P f args [(false, [.sc v], true)]) {w : World} {vs : List Value} (ha : ArgsR w (· < w.heap.size) vs args) :
    Calls P f vs.toArray w fun e w' => e = .returned v ∧ Below w.heap.size w w' := by
  refine (h.2 w (· < w.heap.size) vs (fun _ h => h) ha).mono ?_
  rintro e w' ⟨u, rfl, ⟨us, fs, h1, h2, h3, -, h4⟩, hb⟩
  refine ⟨?_, hb⟩
  have h1 : us = [u] := h1
  subst h1
  match fs, h3 with
  | [f'], _ =>
    obtain ⟨vals, e1, e2⟩ := h4 0 u _ f' rfl rfl rfl
    have e1 : vals = [u] := e1
    subst e1
    have e2 : OwnL w' w.heap.size [u] [.sc v] f' := e2
    rw [(RepL.scOf e2.rep).1]
end Go.Proofs.Ytgmpajfhjnojiaa
