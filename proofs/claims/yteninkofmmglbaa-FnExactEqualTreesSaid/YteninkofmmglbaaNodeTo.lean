/- laws.toStringS, toNode, toNodeS. -/
import Derived.Test.YteninkofmmglbaaNode
import Derived.Laws.ResultCell
namespace Go.Proofs.Yteninkofmmglbaa
open Go.RowKit
set_option linter.unusedVariables false
set_option linter.unusedSimpArgs false

theorem Try.infoStr : (Try.prog.info? 9).map (fun i => (i.zero, i.size, i.bytes)) = some (some (.string ByteArray.empty), 1, 16) := by kernel_rfl

/-- behind k rounds of 'out[i] = ..' -/
def ToRel {α : Type} (L : Lay α) (t : TypeId) (x0 : α) (l : List α) (n : Nat) (w : World) (v4 : Value) (wr : World) : Prop :=
  ∃ (k : Nat) (es : List (Ent α)), k ≤ n ∧ v4 = .int .i64 k ∧ OwnN L wr w.heap.size t (.slice (some ⟨w.heap.size, 0, none⟩) n n) es ∧ es.map Ent.x = l.take k ++ List.replicate (n - k) x0 ∧ Below w.heap.size w wr

theorem to_start {α : Type} {L : Lay α} {t : TypeId} {x0 : α} {l : List α} {n : Nat} {w w1 : World} {z : Value} (hsz : z.cells.size = L.size)
    (h : w1.ownsRow w.heap.size t L.size (.slice (some ⟨w.heap.size, 0, none⟩) n n) n (madeCells z.cells (n * L.size)).toList) (hz : L.R w1 [] x0 z.cells.toList) (hb : Below w.heap.size w w1) :
    ToRel L t x0 l n w (.int .i64 0) w1 :=
  ⟨0, _, Nat.zero_le _, rfl, OwnN.made hsz h hz, by simp, hb⟩

theorem to_step {α : Type} {L : Lay α} {t : TypeId} {x0 : α} {l : List α} {n k : Nat} {w wr w2 : World} {es : List (Ent α)} {e' : Ent α} (hl : l.length = n) (hk : k < n) (hx : l[k]? = some e'.x)
    (hown : OwnN L wr w.heap.size t (.slice (some ⟨w.heap.size, 0, none⟩) n n) es) (hes : es.map Ent.x = l.take k ++ List.replicate (n - k) x0) (hb : Below w.heap.size w wr)
    (hb2 : Below wr.heap.size wr w2) (hR : L.R w2 e'.f e'.x e'.c) (hO : Ow w2 wr.heap.size e'.f) :
    ToRel L t x0 l n w (.int .i64 ((k : Int) + 1)) (w2.setCells w.heap.size (k * L.size) e'.c) := by
  have hlen : es.length = n := by
    have := congrArg List.length hes
    simp only [List.length_map, List.length_append, List.length_take, List.length_replicate] at this
    omega
  have hg : w.heap.size < wr.heap.size := (own_blk hown.1 rfl).2
  obtain ⟨k1, k2⟩ := OwnN.store (i := k) (hown.keep hb2) hlen hk hR (hO.lo hb.size) (fun b hbm => ⟨by have := (hO.2 b hbm).1; omega, fun hm => by have h1 := hown.2.2.1.lt b hm; have := (hO.2 b hbm).1; omega⟩)
  refine ⟨k + 1, _, hk, rfl, k1, ?_, (hb.trans (hb2.mono hb.size)).grown k2 (by have := hb2.size; omega) (fun g hg => by injection hg with hg; omega)⟩
  rw [List.map_set, hes, take_rep_set hl hx]

theorem to_end {α : Type} {L : Lay α} {t : TypeId} {x0 : α} {l : List α} {n : Nat} {w wr : World} {k : Nat} {es : List (Ent α)} (hl : l.length = n) (hk : ¬ k < n) (hk' : k ≤ n)
    (hown : OwnN L wr w.heap.size t (.slice (some ⟨w.heap.size, 0, none⟩) n n) es) (hes : es.map Ent.x = l.take k ++ List.replicate (n - k) x0) (hb : Below w.heap.size w wr) :
    RetOwn L t w l (.returned (.slice (some ⟨w.heap.size, 0, none⟩) n n)) wr := by
  obtain rfl : k = n := by omega
  refine ⟨_, es, rfl, hown, ?_, hb⟩
  rw [hes, Nat.sub_self, List.replicate_zero, List.append_nil, List.take_of_length_le (by omega)]

theorem own_len {α : Type} {L : Lay α} {w : World} {base : Nat} {t : TypeId} {A : Option Addr} {n c : Nat} {es : List (Ent α)} (h : OwnN L w base t (.slice A n c) es) : es.length = n := by
  obtain ⟨A', c', hv, _, _⟩ := own_shape h.1
  injection hv with _ h2 _; exact h2.symm

theorem own_cell {α : Type} {L : Lay α} {w : World} {base g n c : Nat} {t : TypeId} {es : List (Ent α)} (h : OwnN L w base t (.slice (some ⟨g, 0, none⟩) n c) es) {o : Nat} (ho : o < n * L.size) :
    ∃ u, w.cell? ⟨g, o, none⟩ = some u := by
  have hl := own_len h
  have h1 := h.1
  rw [hl] at h1
  have := h1.cellAt o ho
  rw [List.getElem?_eq_getElem (by rw [flat_len (fun e he => L.len (h.2.1 e he)), hl]; exact ho)] at this
  exact ⟨_, this⟩

theorem own_frozen {α : Type} {L : Lay α} {w : World} {base g n c : Nat} {t : TypeId} {es : List (Ent α)} (h : OwnN L w base t (.slice (some ⟨g, 0, none⟩) n c) es) (o : Nat) :
    w.frozen? ⟨g, o, none⟩ = false := by
  have hl := own_len h
  have h1 := h.1
  rw [hl] at h1
  exact h1.frozenAt o

theorem toStringS_any (A : Option Addr) (n c : Nat) (fp : List Nat) (l : List ByteArray) (w : World) (ha : SlR Lay.str w fp l A n c) (hn : n ≤ 1048576) :
    Calls Try.prog 55 #[.slice A n c] w (RetOwn Lay.str 9 w l) := by
  have hm := ha.le
  have hl := Lib.hid ha.1
  obtain ⟨i0, hi, hz0, hz1, hz2⟩ := info_parts Try.infoStr
  go_enter Try.func55, Try.ntmps55
  go_wp2_with (at_make; refine wpList_make_full _ rfl _ _ 30 rfl w.heap.size 9 i0 (.string ByteArray.empty) 1 Try.underlying30 hi hz0 hz1 _ _ _ _ n rfl rfl (by omega) (by omega) (by rw [hz2]; omega) (by unfold maxLen; omega) (Nat.le_refl _) ?_; intro w1 hown1 hgr1)
  have hb1 : Below w.heap.size w w1 := (Below.refl _ _).grown hgr1 (Nat.le_refl _) (by simp)
  clear hi hz0 hz1 hz2 hgr1
  go_loopw [4] (ToRel Lay.str 9 ByteArray.empty l n w) (fun i _ => n - (intOf i).toNat)
  case atStart => exact to_start (L := Lay.str) rfl hown1 ⟨rfl, rfl, by decide⟩ hb1
  case round =>
    clear hown1 hb1
    obtain ⟨k, es, hk, rfl, hown, hes, hb⟩ := hrel
    by_cases hlt : k < n
    · obtain ⟨b, off, x, rfl, hx, hxs, -, c1⟩ := (ha.keep (same_below hb ha.lt)).strAt hlt
      have R := to_step (e' := ⟨x, [], [.string x]⟩) hl.out hlt hx hown hes hb (Below.refl _ _) ⟨rfl, rfl, by unfold maxLen; omega⟩ (Ow.nil _ _)
      obtain ⟨u, c2⟩ := own_cell hown (o := k) (by simp [Lay.str]; omega)
      have c3 := own_frozen hown k
      simp only [Lay.str, Nat.mul_one, World.setCells] at R
      clear ha hx hown hes hb
      go_wp2
      go_roundw
      case rel => exact R
      case measure => simp [intOf]; omega
    · go_wp2
      go_ret
      exact to_end hl.out hlt hk hown hes hb

theorem Try.infoNd : (Try.prog.info? 45).map (fun i => (i.zero, i.size, i.bytes)) = some (some (.agg #[.int .i64 0, .int .i64 0, .string ByteArray.empty, .slice none 0 0, .int .i64 0]), 5, 64) := by kernel_rfl

theorem toNode_any (x : Nd) (A : Option Addr) (n c : Nat) (fp : List Nat) (w : World) (ha : SlR Lay.str w fp x.labels A n c) (hn : n ≤ 1048576) (hx : NdOk x) :
    Calls Try.prog 34 #[ndVal x A n c] w fun e w' => ∃ A' c' fp', e = .returned (ndVal x A' n c') ∧ SlR Lay.str w' fp' x.labels A' n c' ∧ Ow w' w.heap.size fp' ∧ Below w.heap.size w w' := by
  have hA := Lib.hid ha; clear ha
  go_enter Try.func34, Try.ntmps34
  go_wp2_with fail
  refine (toStringS_any A n c fp x.labels _ (((hA.out.alloc _).alloc _).alloc _) hn).mono ?_
  rintro e w1 ⟨v, es, rfl, hown, hes, hb⟩
  obtain ⟨A', c', fp', rfl, hsl, how⟩ := hown.read
  rw [hes] at hsl
  obtain rfl : es.length = n := by rw [← hsl.1, hA.out.1]
  clear hown hes
  obtain ⟨hc, hf⟩ := bcell hb
  have hz : w.heap.size + 2 < w1.heap.size := by have := hb.size; simp at this; omega
  have HB := Lib.hid hb
  have HS := Lib.hid hsl
  have HO := Lib.hid how
  clear hb hsl how
  go_wp2
  refine bodyPost_ret (v := ndVal x A' es.length c') (by simp [results, Try.results34, go_sem, hc, hz]) rfl ⟨A', c', fp', rfl, HS.out.keep ?_, (HO.out.keep ?_).lo (by simp; omega), ?_⟩
  · repeat (refine Same.trans ?_ (same_set _ (fun b hb => by have := (HO.out.2 b hb).1; simp at this ⊢; omega)))
    exact fun _ _ => rfl
  · repeat (refine Same.trans ?_ (same_set _ (fun b hb => by have := (HO.out.2 b hb).1; simp at this ⊢; omega)))
    exact fun _ _ => rfl
  · repeat (refine Below.setCell ?_ (by simp <;> omega) _)
    exact ((((Below.refl _ _).alloc (Nat.le_refl _) _).alloc (by simp) _).alloc (by simp; omega) _).trans (HB.out.mono (by simp; omega))

def nd0 : Nd := ⟨0, 0, ByteArray.empty, [], 0⟩

theorem toNodeS_any (A : Option Addr) (n c : Nat) (fp : List Nat) (l : List Nd) (w : World) (ha : SlR Lay.node w fp l A n c) (hn : n ≤ 1048576) (hls : ∀ x ∈ l, x.labels.length ≤ 1048576) :
    Calls Try.prog 12 #[.slice A n c] w (RetOwn Lay.node 45 w l) := by
  have hm := ha.le
  have hl := Lib.hid ha.1
  obtain ⟨i0, hi, hz0, hz1, hz2⟩ := info_parts Try.infoNd
  go_enter Try.func12, Try.ntmps12
  go_wp2_with (at_make; refine wpList_make_full _ rfl _ _ 25 rfl w.heap.size 45 i0 (.agg #[.int .i64 0, .int .i64 0, .string ByteArray.empty, .slice none 0 0, .int .i64 0]) 5 Try.underlying25 hi hz0 hz1 _ _ _ _ n rfl rfl (by omega) (by omega) (by rw [hz2]; omega) (by unfold maxLen; omega) (Nat.le_refl _) ?_; intro w1 hown1 hgr1)
  have hb1 : Below w.heap.size w w1 := (Below.refl _ _).grown hgr1 (Nat.le_refl _) (by simp)
  clear hi hz0 hz1 hz2 hgr1
  go_loopw [4] (ToRel Lay.node 45 nd0 l n w) (fun i _ => n - (intOf i).toNat)
  case atStart => exact to_start (L := Lay.node) rfl hown1 ⟨none, 0, 0, rfl, SlR.empty _ _ _ _ (Nat.zero_le _), by simp [NdOk, nd0, In64]⟩ hb1
  case round =>
    clear hown1 hb1
    obtain ⟨k, es, hk, rfl, hown, hes, hb⟩ := hrel
    by_cases hlt : k < n
    · obtain ⟨b1, o1, x, f1, cs, rfl, hx, -, -, ⟨A', n', c', rfl, hsl, hok⟩, hc⟩ := (ha.keep (same_below hb ha.lt)).at_ hlt
      have hn' : n' ≤ 1048576 := by rw [← hsl.1]; exact hls x (List.mem_of_getElem? hx)
      simp only [Lay.node] at hc
      have c0 := hc 0 _ rfl; rw [Nat.add_zero] at c0
      have c1 := hc 1 _ rfl
      have c2 := hc 2 _ rfl
      have c3 := hc 3 _ rfl
      have c4 := hc 4 _ rfl
      have HS := Lib.hid hsl
      have HA := Lib.hid ha
      clear ha hc hsl
      go_wp2_with fail
      refine (toNode_any x A' n' c' f1 _ HS.out hn' hok).mono ?_
      rintro e w2 ⟨A2, cc2, fp2, rfl, hs2, how2, hb2⟩
      have R := to_step (e' := ⟨x, fp2, ndCells x A2 n' cc2⟩) hl.out hlt hx hown hes hb hb2 ⟨A2, n', cc2, rfl, hs2, hok⟩ how2
      have hown2 := hown.keep hb2
      obtain ⟨u0, d0⟩ := own_cell hown2 (o := k * 5) (by simp [Lay.node]; omega)
      obtain ⟨u1, d1⟩ := own_cell hown2 (o := k * 5 + 1) (by simp [Lay.node]; omega)
      obtain ⟨u2, d2⟩ := own_cell hown2 (o := k * 5 + 2) (by simp [Lay.node]; omega)
      obtain ⟨u3, d3⟩ := own_cell hown2 (o := k * 5 + 3) (by simp [Lay.node]; omega)
      obtain ⟨u4, d4⟩ := own_cell hown2 (o := k * 5 + 4) (by simp [Lay.node]; omega)
      have e0 := own_frozen hown2 (k * 5)
      have e1 := own_frozen hown2 (k * 5 + 1)
      have e2 := own_frozen hown2 (k * 5 + 2)
      have e3 := own_frozen hown2 (k * 5 + 3)
      have e4 := own_frozen hown2 (k * 5 + 4)
      simp only [Lay.node, ndCells, World.setCells] at R
      clear hown hown2 hes hb hb2 hx
      go_wp2
      go_roundw
      case rel => exact R
      case measure => simp [intOf]; omega
    · go_wp2
      go_ret
      exact to_end hl.out hlt hk hown hes hb
end Go.Proofs.Yteninkofmmglbaa
