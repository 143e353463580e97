/- Calls that write into what they are handed: the laws' marks. No program here. -/
import Derived.Test.YtlcnokbhoekpkaaAeJ
namespace Go.Proofs.Ytlcnokbhoekpkaa
open Go.RowKit
set_option linter.unusedVariables false
set_option linter.unusedSimpArgs false

def OwnP (w : World) (base : Nat) : List Value → List DV → List (List Nat) → Prop
  | [], [], [] => True
  | v :: vs, d :: ds, f :: fs => OwnL w base [v] [d] f ∧ OwnP w base vs ds fs
  | _, _, _ => False
/-- the call writes into the blocks of what it is handed, and into no others -/
structure Wrote (w w' : World) (f : List Nat) : Prop where
  os : w'.os = w.os
  tape : w'.tape = w.tape
  output : w'.output = w.output
  size : w.heap.size ≤ w'.heap.size
  block : ∀ b, b < w.heap.size → b ∉ f → w'.heap[b]? = w.heap[b]?
def Marks (P : Program) (f : FuncId) (b : Bool) (ds : List DV) (k : Int) (ds' : List DV) (k' : Int) : Prop :=
  callable P f = true ∧ ∀ (w : World) (base : Nat) (v : Value) (vals : List Value) (fs : List (List Nat)), (if b then v = .agg vals.toArray else vals = [v]) → OwnP w base vals ds fs → fs.flatten.Nodup →
    Calls P f #[v, .int .i64 k] w fun e w' => e = .returned (.int .i64 k') ∧ OwnP w' base vals ds' fs ∧ Wrote w w' fs.flatten

def MkL (s : AS) : List AC → List DV → List DV → List (Nat × Nat × DV) → Prop
  | [], [], [], [] => True
  | .d y :: cs, x :: ds, z :: ds', L => (∃ v, y = .sc v ∧ x = .sc v ∧ z = .sc v) ∧ MkL s cs ds ds' L
  | .nil :: cs, x :: ds, z :: ds', L => (∃ t k, 0 < k ∧ x = .sl t k [] ∧ z = .sl t k []) ∧ MkL s cs ds ds' L
  | .own i st :: cs, x :: ds, z :: ds', p :: L => s.own? i st = some (.dx st x) ∧ p = (i, st, z) ∧ MkL s cs ds ds' L
  | _, _, _, _ => False
def markS (s : AS) : List (Nat × Nat × DV) → AS
  | [] => s
  | p :: L => markS { s with ob := upd s.ob p.1 (.dx p.2.1 p.2.2) } L

section
variable {P : Program} {w0 : Cx} {w w' : World} {N : Nat} {s : AS} {a : Act} {E : En} {o : Oper}

theorem ownP_cons {base : Nat} {vals : List Value} {d : DV} {ds : List DV} {fs : List (List Nat)} (h : OwnP w base vals (d :: ds) fs) : ∃ v vs f fs', vals = v :: vs ∧ fs = f :: fs' ∧ OwnL w base [v] [d] f ∧ OwnP w base vs ds fs' := by
  cases vals with
  | nil => exact h.elim
  | cons v vs => cases fs with
    | nil => exact h.elim
    | cons f fs => exact ⟨v, vs, f, fs, rfl, rfl, h.1, h.2⟩
theorem ownP_nil {base : Nat} {vals : List Value} {fs : List (List Nat)} (h : OwnP w base vals [] fs) : vals = [] ∧ fs = [] := by
  cases vals with
  | cons => exact h.elim
  | nil => cases fs with
    | cons => exact h.elim
    | nil => exact ⟨rfl, rfl⟩
theorem markS_same : ∀ {L : List (Nat × Nat × DV)} {s : AS}, (markS s L).sl = s.sl ∧ (markS s L).n = s.n ∧ (markS s L).c = s.c
  | [], s => ⟨rfl, rfl, rfl⟩
  | p :: L, s => by obtain ⟨h1, h2, h3⟩ := markS_same (L := L) (s := { s with ob := upd s.ob p.1 (.dx p.2.1 p.2.2) }); exact ⟨h1, h2, h3⟩
theorem markS_ob : ∀ {L : List (Nat × Nat × DV)} {s : AS} (j : Nat), (∃ p ∈ L, p.1 = j ∧ (markS s L).ob j = .dx p.2.1 p.2.2) ∨ ((∀ p ∈ L, p.1 ≠ j) ∧ (markS s L).ob j = s.ob j)
  | [], s, j => .inr ⟨by simp, rfl⟩
  | p :: L, s, j => by
    rcases markS_ob (L := L) (s := { s with ob := upd s.ob p.1 (.dx p.2.1 p.2.2) }) j with ⟨q, hq, h1, h2⟩ | ⟨h1, h2⟩
    · exact .inl ⟨q, List.mem_cons_of_mem _ hq, h1, h2⟩
    · by_cases e : p.1 = j
      · subst e
        refine .inl ⟨p, List.mem_cons_self .., rfl, ?_⟩
        rw [markS, h2]; exact upd_same _ _ _
      · refine .inr ⟨fun q hq => ?_, ?_⟩
        · rcases List.mem_cons.1 hq with rfl | hq
          · exact e
          · exact h1 q hq
        · rw [markS, h2]; exact upd_ne _ _ (Ne.symm e)

theorem rep_mark (h : RepE w0 N s a w E) {L : List (Nat × Nat × DV)} (hb : Below w0.heap.size w0.toWorld w') (hsz : w.heap.size ≤ w'.heap.size) (hblk : ∀ b, b < w.heap.size → (∀ p ∈ L, b ∉ E.m p.1) → w'.heap[b]? = w.heap[b]?)
    (hL : ∀ p ∈ L, p.1 < s.n ∧ (∃ x, s.ob p.1 = .dx p.2.1 x) ∧ OwnL w' w0.heap.size [E.v p.1] [p.2.2] (E.m p.1)) : RepE w0 N (markS s L) a w' E := by
  obtain ⟨e1, e2, e3⟩ := markS_same (L := L) (s := s)
  have hlv : (markS s L).lv = s.lv := by
    funext j
    unfold AS.lv
    rw [e2]
    rcases markS_ob (L := L) (s := s) j with ⟨p, hp, h1, h2⟩ | ⟨h1, h2⟩
    · obtain ⟨_, ⟨x, hx⟩, _⟩ := hL p hp
      rw [h2, ← h1, hx]; rfl
    · rw [h2]
  have hAb : ∀ b, E.A b → w'.heap[b]? = w.heap[b]? := fun b hbA => hblk b (h.A_lt b hbA) (fun p hp => h.A_m b hbA p.1 (hL p hp).1)
  have hst : Stay w E s.lv s.c w' E (markS s L).lv (markS s L).c := by
    rw [hlv, e3]
    exact ⟨fun b hbA => ⟨hbA, hAb b hbA⟩, fun i st _ h => ⟨h, rfl⟩, Nat.le_refl _⟩
  refine ⟨h.size, h.defers, hb, fun j hj => ?_, fun t => by rw [e1]; exact (h.slot t).stay hst, fun b hbA => Nat.lt_of_lt_of_le (h.A_lt b hbA) hsz, by rw [e2]; exact h.A_m, by rw [e2]; exact h.A_o, by rw [e2]; exact h.mm, by rw [e2]; exact h.oo,
    by rw [e2]; exact fun i hi b hbm => Nat.lt_of_lt_of_le (h.m_lt i hi b hbm) hsz, h.anc⟩
  rw [e2] at hj
  rcases markS_ob (L := L) (s := s) j with ⟨p, hp, h1, h2⟩ | ⟨h1, h2⟩
  · subst h1
    rw [h2]
    obtain ⟨_, ⟨x, hx⟩, ho⟩ := hL p hp
    have hO := h.obj p.1 hj
    rw [hx] at hO
    exact ⟨by rw [e3]; exact hO.1, hO.2.1, ho⟩
  · rw [h2]
    refine (h.obj j hj).stay hst rfl rfl rfl (fun b hbm => hblk b (h.m_lt j hj b hbm) (fun p hp hbp => h.mm j p.1 hj (hL p hp).1 (fun e => h1 p hp e.symm) b hbm hbp)) (fun b hbo => h.A_o j hj b hbo)

theorem mkL_own (h : RepE w0 N s a w E) : ∀ {cs : List AC} {ds ds' : List DV} {L : List (Nat × Nat × DV)} {vals : List Value}, MkL s cs ds ds' L → (L.map (·.1)).Nodup → CellsR w E s.lv s.c cs vals →
    ∃ fs, OwnP w w0.heap.size vals ds fs ∧ fs.flatten = (L.map fun p => E.m p.1).flatten ∧ fs.flatten.Nodup ∧ (∀ p ∈ L, p.1 < s.n ∧ ∃ x, s.ob p.1 = .dx p.2.1 x) ∧
      ∀ w', OwnP w' w0.heap.size vals ds' fs → ∀ p ∈ L, OwnL w' w0.heap.size [E.v p.1] [p.2.2] (E.m p.1)
  | [], [], [], [], vals, _, _, hc => by rw [hc.nil']; exact ⟨[], trivial, rfl, by simp, by simp, by simp⟩
  | .d y :: cs, x :: ds, z :: ds', L, vals, hm, hnd, hc => by
    obtain ⟨⟨v, rfl, rfl, rfl⟩, hm⟩ := hm
    obtain ⟨u, us, rfl, c1, c2⟩ := hc.cons'
    obtain ⟨fs, h1, h2, h3, h4, h5⟩ := mkL_own h hm hnd c2
    obtain ⟨rfl, hs⟩ := RepL.scOf c1
    exact ⟨[] :: fs, ⟨.sc hs .nil, h1⟩, by simpa using h2, by simpa using h3, h4, fun w' hw => h5 w' hw.2⟩
  | .nil :: cs, x :: ds, z :: ds', L, vals, hm, hnd, hc => by
    obtain ⟨⟨t, k, hk, rfl, rfl⟩, hm⟩ := hm
    obtain ⟨u, us, rfl, c1, c2⟩ := hc.cons'
    obtain ⟨fs, h1, h2, h3, h4, h5⟩ := mkL_own h hm hnd c2
    obtain rfl : u = .slice none 0 0 := c1
    refine ⟨[] :: fs, ⟨?_, h1⟩, by simpa using h2, by simpa using h3, h4, fun w' hw => h5 w' hw.2⟩
    have := OwnL.sl (w := w) (base := w0.heap.size) (v := .slice none 0 0) (t := t) (k := k) (es := []) (cells := []) (g := []) (vs := []) (ds := []) (f := []) (World.ownsRow_nil _ _ _ _) hk (by simp) .nil .nil (by simp [Value.ownBlock])
    simpa [Value.ownBlock] using this
  | .own i st :: cs, x :: ds, z :: ds', p :: L, vals, hm, hnd, hc => by
    obtain ⟨hi, rfl, hm⟩ := hm
    obtain ⟨u, us, rfl, c1, c2⟩ := hc.cons'
    obtain ⟨hin, hob, hlv⟩ := own?_some hi
    rw [List.map_cons, List.nodup_cons] at hnd
    obtain ⟨fs, h1, h2, h3, h4, h5⟩ := mkL_own h hm hnd.2 c2
    obtain rfl : u = E.v i := c1.2 hlv
    have hO := h.obj i hin
    rw [hob] at hO
    have ho : OwnL w w0.heap.size [E.v i] [x] (E.m i) := hO.2.2
    refine ⟨E.m i :: fs, ⟨ho, h1⟩, by simp [h2], ?_, ?_, ?_⟩
    · rw [List.flatten_cons]
      refine List.nodup_append.2 ⟨ho.nodup, h3, fun b hb b' hb' e => ?_⟩
      subst e
      rw [h2] at hb'
      obtain ⟨m', hm', hbm⟩ := List.mem_flatten.1 hb'
      obtain ⟨q, hq, rfl⟩ := List.mem_map.1 hm'
      exact h.mm i q.1 hin (h4 q hq).1 (fun e => hnd.1 (List.mem_map.2 ⟨q, hq, e.symm⟩)) b hb hbm
    · intro q hq
      rcases List.mem_cons.1 hq with rfl | hq
      · exact ⟨hin, x, hob⟩
      · exact h4 q hq
    · intro w' hw q hq
      rcases List.mem_cons.1 hq with rfl | hq
      · exact hw.1
      · exact h5 w' hw.2 q hq

theorem astep_mark {K : AS → Prop} {f : FuncId} {X Y : Operand} {ts : Array TypeId} {b : Bool} {cs : List AC} {ds ds' : List DV} {k k' : Int} {L : List (Nat × Nat × DV)} (ho : o.op = .call ⟨.value (.func f), #[X, Y], ts⟩) (hd : dB N o.dst = true) (hm : Marks P f b ds k ds' k')
    (hX : s.ev X = .p b cs) (hY : s.ev Y = .p false [.d (.sc (.int .i64 k))]) (hL : MkL s cs ds ds' L) (hnd : (L.map (·.1)).Nodup) (hk : K ((markS s L).put o.dst (.p false [.d (.sc (.int .i64 k'))]))) : AStep P N o K s := by
  refine ⟨_, ?_, hk⟩
  intro w0 a w E h
  have eX := ev_ok h X; have eY := ev_ok h Y
  rw [hX] at eX; rw [hY] at eY
  have eY := slot_sc eY
  obtain ⟨vals, hp, hc⟩ := part_get (show PartR w E s.lv s.c b cs _ from eX)
  obtain ⟨fs, g1, g2, g3, g4, g5⟩ := mkL_own h hL hnd hc
  unfold Oper.wp
  rw [run_call ho hm.1, Oper.upon_enter]
  have e : (#[X, Y].toList.map a.eval).toArray = #[a.eval X, .int .i64 k] := by simp [eY]
  rw [e]
  refine (hm.2 w w0.heap.size _ vals fs hp g1 g3).mono ?_
  rintro e w' ⟨rfl, g6, g7⟩
  simp only
  have hmem : ∀ c, (∀ p ∈ L, c ∉ E.m p.1) → c ∉ fs.flatten := by
    intro c hcc hcf
    rw [g2] at hcf
    obtain ⟨m', hm', hbm⟩ := List.mem_flatten.1 hcf
    obtain ⟨q, hq, rfl⟩ := List.mem_map.1 hm'
    exact hcc q hq hbm
  have hrep := rep_mark (w' := w') (L := L) h ?_ g7.size (fun c hc1 hc2 => g7.block c hc1 (hmem c hc2)) (fun p hp => ⟨(g4 p hp).1, (g4 p hp).2, g5 w' g6 p hp⟩)
  · exact ⟨E, hrep.put (slot_sc_mk trivial) (dB_ok hd)⟩
  · refine ⟨g7.os.trans h.bel.os, g7.tape.trans h.bel.tape, g7.output.trans h.bel.output, Nat.le_trans h.bel.size g7.size, fun c hc1 => ?_⟩
    refine (g7.block c (Nat.lt_of_lt_of_le hc1 h.bel.size) (hmem c fun p hp hcp => ?_)).trans (h.bel.block c hc1)
    have := own_ge h (g4 p hp).1 hcp
    rcases this with h1 | h1
    · obtain ⟨_, x, hx⟩ := g4 p hp; rw [hx] at h1; cases h1
    · omega
end
attribute [go_sem] markS.eq_1 markS.eq_2
end Go.Proofs.Ytlcnokbhoekpkaa
