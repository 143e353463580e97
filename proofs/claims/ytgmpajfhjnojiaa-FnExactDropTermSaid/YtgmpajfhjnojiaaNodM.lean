/- Marks of []Node. -/
import Derived.Test.YtgmpajfhjnojiaaMarkB
import Derived.Test.YtgmpajfhjnojiaaOwn
import Derived.Test.YtgmpajfhjnojiaaTNod
namespace Go.Proofs.Ytgmpajfhjnojiaa
open Go.RowKit
set_option linter.unusedVariables false
set_option linter.unusedSimpArgs false

section
variable {w w1 w2 w3 : World} {f f2 : List Nat}
theorem Wrote.refl (w : World) (f : List Nat) : Wrote w w f := ⟨rfl, rfl, rfl, Nat.le_refl _, fun _ _ _ => rfl⟩
theorem Wrote.trans (h : Wrote w w1 f) (k : Wrote w1 w2 f) : Wrote w w2 f :=
  ⟨k.os.trans h.os, k.tape.trans h.tape, k.output.trans h.output, Nat.le_trans h.size k.size, fun b hb hn => (k.block b (Nat.lt_of_lt_of_le hb h.size) hn).trans (h.block b hb hn)⟩
theorem Wrote.mono (h : Wrote w w1 f2) (hs : ∀ b ∈ f2, b ∈ f) : Wrote w w1 f := ⟨h.os, h.tape, h.output, h.size, fun b hb hn => h.block b hb fun hx => hn (hs b hx)⟩
theorem Wrote.below (h : Below w.heap.size w w1) : Wrote w w1 f := ⟨h.os, h.tape, h.output, h.size, fun b hb _ => h.block b hb⟩
theorem Wrote.cell (w : World) {g o : Nat} {u : Value} (h : g ∈ f) (hg : g < w.heap.size) : Wrote w (w.setCell ⟨g, o, none⟩ u) f := by
  have hb := Below.setCell (Below.refl 0 w) (p := ⟨g, o, none⟩) (Nat.zero_le _) u
  refine ⟨hb.os, hb.tape, hb.output, hb.size, fun b hb hn => ?_⟩
  exact Below.heap_setCell w ⟨g, o, none⟩ u b (fun e => hn (e ▸ h))
end
theorem OwnL.wrote {w w' : World} {base : Nat} {vs : List Value} {ds : List DV} {f f2 : List Nat} (h : OwnL w base vs ds f) (hw : Wrote w w' f2) (hd : ∀ b ∈ f, b ∉ f2) : OwnL w' base vs ds f :=
  h.keep fun b hb => hw.block b (h.blocks b hb).2 (hd b hb)

section
variable {wr : World} {base n c t k g : Nat} {es : List (List DV)} {f : List Nat} {d0 d1 d2 d4 u0 u1 u2 u4 : Value} {d3 : DV}
/-- one element of five cells, its fourth a slice: the places before the call -/
theorem nod_cells (h : OwnL wr base [.slice (some ⟨g, 0, none⟩) n c] [.sl t 5 es] f) (he : es[k]? = some [.sc d0, .sc d1, .sc d2, d3, .sc d4]) :
    (∃ z, wr.cell? ⟨g, k * 5, none⟩ = some z) ∧ (∃ z, wr.cell? ⟨g, k * 5 + 1, none⟩ = some z) ∧ (∃ z, wr.cell? ⟨g, k * 5 + 2, none⟩ = some z) ∧ (∃ z, wr.cell? ⟨g, k * 5 + 4, none⟩ = some z) ∧
    wr.frozen? ⟨g, k * 5, none⟩ = false ∧ wr.frozen? ⟨g, k * 5 + 1, none⟩ = false ∧ wr.frozen? ⟨g, k * 5 + 2, none⟩ = false ∧ wr.frozen? ⟨g, k * 5 + 4, none⟩ = false ∧
    ∃ u, wr.cell? ⟨g, k * 5 + 3, none⟩ = some u := by
  obtain ⟨-, a1, a2⟩ := own_store h (off := 0) (u := .bool true) he rfl trivial
  obtain ⟨-, b1, b2⟩ := own_store h (off := 1) (u := .bool true) he rfl trivial
  obtain ⟨-, c1, c2⟩ := own_store h (off := 2) (u := .bool true) he rfl trivial
  obtain ⟨-, e1, e2⟩ := own_store h (off := 4) (u := .bool true) he rfl trivial
  obtain ⟨u, -, hu, -⟩ := own_sub h (off := 3) he rfl
  exact ⟨a1, b1, c1, e1, a2, b2, c2, e2, u, hu⟩
theorem adr_ne {g o o' : Nat} (h : o ≠ o') : (⟨g, o, none⟩ : Addr) ≠ ⟨g, o', none⟩ := fun e => h (by injection e)
/-- the stores before the call, the call's own slice, and the store behind it -/
theorem nod_step (h : OwnL wr base [.slice (some ⟨g, 0, none⟩) n c] [.sl t 5 es] f) (he : es[k]? = some [.sc d0, .sc d1, .sc d2, d3, .sc d4]) (s0 : Sc u0) (s1 : Sc u1) (s2 : Sc u2) (s4 : Sc u4) {u : Value} (hu : wr.cell? ⟨g, k * 5 + 3, none⟩ = some u)
    {w2 : World} (hb : Below ((wr.setCell ⟨g, k * 5, none⟩ u0).setCell ⟨g, k * 5 + 1, none⟩ u1).heap.size ((wr.setCell ⟨g, k * 5, none⟩ u0).setCell ⟨g, k * 5 + 1, none⟩ u1) w2) :
    ∃ f2, OwnL (w2.setCell ⟨g, k * 5 + 2, none⟩ u2) base [u] [d3] f2 ∧ ∀ (w4 : World) (d3' : DV), OwnL w4 base [u] [d3'] f2 → Wrote (w2.setCell ⟨g, k * 5 + 2, none⟩ u2) w4 f2 →
      (∃ z, w4.cell? ⟨g, k * 5 + 4, none⟩ = some z) ∧ w4.frozen? ⟨g, k * 5 + 4, none⟩ = false ∧
      OwnL (w4.setCell ⟨g, k * 5 + 4, none⟩ u4) base [.slice (some ⟨g, 0, none⟩) n c] [.sl t 5 (es.set k [.sc u0, .sc u1, .sc u2, d3', .sc u4])] f ∧ Wrote wr (w4.setCell ⟨g, k * 5 + 4, none⟩ u4) f := by
  have hk : k < es.length := (List.getElem?_eq_some_iff.1 he).1
  have hg := own_lens h
  obtain ⟨-, -, -, gf, -, gs⟩ := hg
  have a1 := (own_store h (off := 0) (u := u0) he rfl s0).1
  have e1 : (es.set k ([.sc d0, .sc d1, .sc d2, d3, .sc d4].set 0 (.sc u0)))[k]? = some [.sc u0, .sc d1, .sc d2, d3, .sc d4] := by rw [List.getElem?_set, if_pos rfl, if_pos hk]; rfl
  have a2 := (own_store a1 (off := 1) (u := u1) e1 rfl s1).1
  have e2 : ((es.set k ([.sc d0, .sc d1, .sc d2, d3, .sc d4].set 0 (.sc u0))).set k ([.sc u0, .sc d1, .sc d2, d3, .sc d4].set 1 (.sc u1)))[k]? = some [.sc u0, .sc u1, .sc d2, d3, .sc d4] := by rw [List.getElem?_set, if_pos rfl, if_pos (by simpa using hk)]; rfl
  have wA : Wrote wr ((wr.setCell ⟨g, k * 5, none⟩ u0).setCell ⟨g, k * 5 + 1, none⟩ u1) f := (Wrote.cell wr gf gs).trans (Wrote.cell _ gf (by simpa using gs))
  generalize hW : (wr.setCell ⟨g, k * 5, none⟩ u0).setCell ⟨g, k * 5 + 1, none⟩ u1 = W at *
  have a2 : OwnL W base [.slice (some ⟨g, 0, none⟩) n c] [.sl t 5 ((es.set k ([.sc d0, .sc d1, .sc d2, d3, .sc d4].set 0 (.sc u0))).set k ([.sc u0, .sc d1, .sc d2, d3, .sc d4].set 1 (.sc u1)))] f := a2
  have a3 := a2.keep fun b hbf => hb.block b (a2.blocks b hbf).2
  have gs2 := (own_lens a3).2.2.2.2.2
  have wB : Wrote wr w2 f := wA.trans (Wrote.below hb)
  have a4 := (own_store a3 (off := 2) (u := u2) e2 rfl s2).1
  have e4 : (((es.set k ([.sc d0, .sc d1, .sc d2, d3, .sc d4].set 0 (.sc u0))).set k ([.sc u0, .sc d1, .sc d2, d3, .sc d4].set 1 (.sc u1))).set k ([.sc u0, .sc u1, .sc d2, d3, .sc d4].set 2 (.sc u2)))[k]? = some [.sc u0, .sc u1, .sc u2, d3, .sc d4] := by rw [List.getElem?_set, if_pos rfl, if_pos (by simpa using hk)]; rfl
  have wC : Wrote wr (w2.setCell ⟨g, k * 5 + 2, none⟩ u2) f := wB.trans (Wrote.cell _ gf gs2)
  obtain ⟨u', f2, b1, b2, b3, b4⟩ := own_sub a4 (off := 3) e4 rfl
  have hu' : u' = u := by
    rw [World.cell?_setCell_other (h := adr_ne (by omega))] at b1
    have hgW : g < W.heap.size := (own_lens a2).2.2.2.2.2
    have : w2.cell? ⟨g, k * 5 + 3, none⟩ = W.cell? ⟨g, k * 5 + 3, none⟩ := (bcell hb).1 g _ hgW
    rw [this, ← hW, World.cell?_setCell_other (h := adr_ne (by omega)), World.cell?_setCell_other (h := adr_ne (by omega)), hu] at b1
    injection b1 with b1; exact b1.symm
  subst hu'
  refine ⟨f2, b2, fun w4 d3' ho hw => ?_⟩
  have a5 := b4 w4 d3' (fun b hbf hn => hw.block b (a4.blocks b hbf).2 hn) ho
  have e5 : ((((es.set k ([.sc d0, .sc d1, .sc d2, d3, .sc d4].set 0 (.sc u0))).set k ([.sc u0, .sc d1, .sc d2, d3, .sc d4].set 1 (.sc u1))).set k ([.sc u0, .sc u1, .sc d2, d3, .sc d4].set 2 (.sc u2))).set k ([.sc u0, .sc u1, .sc u2, d3, .sc d4].set 3 d3'))[k]? = some [.sc u0, .sc u1, .sc u2, d3', .sc d4] := by rw [List.getElem?_set, if_pos rfl, if_pos (by simpa using hk)]; rfl
  obtain ⟨a6, z6, f6⟩ := own_store a5 (off := 4) (u := u4) e5 rfl s4
  refine ⟨z6, f6, ?_, (wC.trans (hw.mono fun b hb => (b3 b hb).1)).trans (Wrote.cell _ gf (own_lens a5).2.2.2.2.2)⟩
  simpa using a6
end

/-! ### the walk -/
def wNd (x : Nod) : Nat := 4 + x.labels.length
def mkNd (o : Nat) (x : Nod) : Nod := ⟨(o : Nat), (o + 1 : Nat), markT (o + 2), marksS (o + 3) x.labels.length, (o + 3 + x.labels.length : Nat)⟩
def offN (l : List Nod) (i : Nat) : Nat := sumOf wNd (l.take i)
def mixN (k0 : Nat) (l : List Nod) (i : Nat) : List Nod := ((List.range i).map fun j => mkNd (k0 + offN l j) (l.getD j default)) ++ l.drop i
def marksN (k0 : Nat) (l : List Nod) : List Nod := (List.range l.length).map fun j => mkNd (k0 + offN l j) (l.getD j default)
theorem offN_succ {l : List Nod} {i : Nat} (h : i < l.length) : offN l (i + 1) = offN l i + (4 + (l.getD i default).labels.length) := sumOf_take wNd h
theorem offN_le (l : List Nod) (i : Nat) : offN l i ≤ sumOf wNd l := sumOf_le wNd l i
theorem mixN_0 (k0 : Nat) (l : List Nod) : mixN k0 l 0 = l := by simp [mixN]
theorem mixN_end (k0 : Nat) (l : List Nod) : mixN k0 l l.length = marksN k0 l := by simp [mixN, marksN]
theorem mixN_len {k0 : Nat} {l : List Nod} {i : Nat} (h : i ≤ l.length) : (mixN k0 l i).length = l.length := by simp [mixN]; omega
theorem mixN_get {k0 : Nat} {l : List Nod} {i : Nat} (h : i < l.length) : ((mixN k0 l i).map encNod)[i]? = some (encNod (l.getD i default)) := by
  unfold mixN
  rw [List.getElem?_map, List.getElem?_append_right (by simp), List.length_map, List.length_range, Nat.sub_self, List.getElem?_drop, Nat.add_zero, List.getD_eq_getElem?_getD, List.getElem?_eq_getElem h]; rfl
theorem own_some {w : World} {base n c t k : Nat} {A : Option Addr} {es : List (List DV)} {f : List Nat} (h : OwnL w base [.slice A n c] [.sl t k es] f) (hn : 0 < es.length) : ∃ g, A = some ⟨g, 0, none⟩ := by
  cases h with
  | sl h1 h2 h3 h4 h5 h6 =>
    obtain ⟨g, cap, hv, -, -⟩ := h1.form hn
    injection hv with e1 e2 e3
    exact ⟨g, e1⟩
theorem mixN_set {k0 : Nat} {l : List Nod} {i : Nat} (h : i < l.length) : ((mixN k0 l i).map encNod).set i (encNod (mkNd (k0 + offN l i) (l.getD i default))) = (mixN k0 l (i + 1)).map encNod := marks_step encNod (fun j => mkNd (k0 + offN l j) (l.getD j default)) l i h
theorem own_cap {w : World} {base n c t k : Nat} {A : Option Addr} {es : List (List DV)} {f : List Nat} (h : OwnL w base [.slice A n c] [.sl t k es] f) : n ≤ 9223372036854775807 := by
  cases h with
  | sl h1 h2 h3 h4 h5 h6 =>
    obtain ⟨A, c', e, e1, e2⟩ := own_shape h1
    injection e with _ e _
    unfold maxLen at e2
    omega
theorem marks_x {P : Program} {fn : FuncId} {d d' : DV} {k k' : Int} (h : Marks P fn false [d] k [d'] k') {w : World} {base : Nat} {u : Value} {f2 : List Nat} (ho : OwnL w base [u] [d] f2) {x : Int} (hx : x = k) :
    Calls P fn #[u, .int .i64 x] w fun e w' => e = .returned (.int .i64 k') ∧ OwnL w' base [u] [d'] f2 ∧ Wrote w w' f2 := by
  subst hx
  refine (h.2 w base u [u] [f2] rfl ⟨ho, trivial⟩ (by simpa using ho.nodup)).mono ?_
  rintro e w' ⟨h1, ⟨h2, -⟩, h3⟩
  exact ⟨h1, h2, by simpa using h3⟩
def NRel (k0 n : Nat) (w : World) (base : Nat) (A : Option Addr) (c : Nat) (l : List Nod) (f : List Nat) (v1 v5 : Value) (wr : World) : Prop :=
  ∃ k : Nat, k ≤ n ∧ v5 = .int .i64 k ∧ v1 = .int .i64 ((k0 + offN l k : Nat) : Int) ∧ OwnL wr base [.slice A n c] [.sl 73 5 ((mixN k0 l k).map encNod)] f ∧ Wrote w wr f
set_option maxRecDepth 100000 in
theorem markNodeS_any (A : Option Addr) (n c base k0 : Nat) (l : List Nod) (f : List Nat) (w : World) (ha : OwnL w base [.slice A n c] [.sl 73 5 (l.map encNod)] f) (hl : l.length = n) (h0 : 0 < k0) (h1 : k0 + sumOf wNd l ≤ 4611686018427387904) :
    Calls Try.prog 23 #[.slice A n c, .int .i64 k0] w fun e w' => e = .returned (.int .i64 ((k0 + sumOf wNd l : Nat) : Int)) ∧ OwnL w' base [.slice A n c] [.sl 73 5 ((marksN k0 l).map encNod)] f ∧ Wrote w w' f := by
  have HL := Lib.hid hl; clear hl
  go_enter Try.func23, Try.ntmps23
  go_wp2
  go_loopw [1, 5] (NRel k0 n w base A c l f) (fun _ i _ => n - (intOf i).toNat)
  case atStart => exact ⟨0, Nat.zero_le _, rfl, by simp [offN, sumOf], by rw [mixN_0]; exact ha, Wrote.refl _ _⟩
  case round =>
    obtain ⟨k, hk, rfl, rfl, hown, hg⟩ := hrel
    by_cases hlt : k < n
    · have hkl : k < l.length := by have := HL.out; omega
      have he := mixN_get (k0 := k0) hkl
      obtain ⟨g, rfl⟩ := own_some hown (by rw [List.length_map, mixN_len (by omega)]; omega)
      obtain ⟨-, -, -, gf, -, gs⟩ := own_lens hown
      have hcp := own_cap hown
      have hof := offN_succ hkl
      have hol := offN_le l (k + 1)
      have hms := mixN_set (k0 := k0) hkl
      generalize l.getD k default = x at *
      generalize hes : (mixN k0 l k).map encNod = es at *
      obtain ⟨⟨z0, c0⟩, ⟨z1, c1⟩, ⟨z2, c2⟩, ⟨z4, c4⟩, q0, q1, q2, q4, u, c3⟩ := nod_cells hown he
      generalize hK : k0 + offN l k = K at *
      have hKb : K + 4 + x.labels.length ≤ 4611686018427387904 := by omega
      have NS := fun (w2 : World) hb => nod_step (u0 := .int .i64 K) (u1 := .int .i64 ((K : Int) + 1)) (u2 := .string (markT (K + 2))) (u4 := .int .i64 ((K + 3 + x.labels.length : Nat) : Int)) hown he trivial trivial trivial trivial c3 (w2 := w2) hb
      have HR := Lib.hid NS
      have HG := Lib.hid hg
      have HE := Lib.hid hes
      have HK := Lib.hid hK
      have HM := Lib.hid hms
      have HF := Lib.hid hof
      clear hown hg ha he NS hes hK hms hof hol
      go_wp2_with fail
      refine (markText_x _ (K + 2) _ (by omega) (by omega) (by omega)).mono ?_
      rintro e w2 ⟨rfl, hb⟩
      obtain ⟨f2, o3, HN⟩ := HR.out w2 hb
      obtain ⟨hc, hf⟩ := bcell hb
      have hz : g < w2.heap.size := by have := hb.size; simp at this; omega
      have HN := Lib.hid HN
      have HO := Lib.hid o3
      clear hb HR o3
      go_wp2_with fail
      refine (marks_x (markStringS_k x.labels (K + 3) (by omega) (by omega)) HO.out (by omega)).mono ?_
      rintro e w4 ⟨rfl, o4, wr4⟩
      obtain ⟨⟨z5, c5⟩, q5, o5, wr5⟩ := HN.out w4 _ o4 wr4
      have HW := Lib.hid wr5
      have HP := Lib.hid o5
      clear o4 wr4 o5 wr5 HN HO hc hf c0 c1 c2 c3 c4 q0 q1 q2 q4
      go_wp2
      go_roundw
      case rel =>
        refine ⟨k + 1, hlt, rfl, ?_, ?_, HG.out.trans HW.out⟩
        · congr 1; have := HF.out; have := HK.out; omega
        · rw [← HM.out]
          have := HP.out
          unfold mkNd encNod encSs
          exact this
      case measure => simp [intOf]; omega
    · go_wp2
      go_ret
      obtain rfl : k = n := by omega
      obtain rfl : l.length = k := HL.out
      have he : offN l l.length = sumOf wNd l := by unfold offN; rw [List.take_length]
      rw [mixN_end] at hown
      exact ⟨ret_i (by rw [he]), hown, hg⟩
theorem markNodeS_k (l : List Nod) (k0 : Nat) (h0 : 0 < k0) (h1 : k0 + sumOf wNd l ≤ 4611686018427387904) : Marks Try.prog 23 false [encNods l] k0 [encNods (marksN k0 l)] ((k0 + sumOf wNd l : Nat) : Int) := by
  refine ⟨by kernel_rfl, fun w base v vals fs hv ho hnd => ?_⟩
  have hv : vals = [v] := hv
  subst hv
  obtain ⟨_, _, f, _, e, rfl, o0, ho⟩ := ownP_cons ho
  injection e with e1 e2
  subst e1 e2
  obtain ⟨-, rfl⟩ := ownP_nil ho
  obtain ⟨A, n, c, rfl, hn⟩ : ∃ A n c, v = .slice A n c ∧ n = l.length := by
    unfold encNods at o0
    cases o0 with
    | sl h1 h2 h3 h4 h5 h6 =>
      obtain ⟨A, c, e, -, -⟩ := own_shape h1
      exact ⟨A, _, c, e, by rw [List.length_map]⟩
  refine (markNodeS_any A n c base k0 l f w o0 hn.symm h0 h1).mono ?_
  rintro e w' ⟨rfl, h3, h4⟩
  exact ⟨rfl, ⟨h3, trivial⟩, by simpa using h4⟩
theorem marksN_len (k0 : Nat) (l : List Nod) : (marksN k0 l).length = l.length := by simp [marksN]
theorem marksN_get {k0 i : Nat} {l : List Nod} (h : i < l.length) : (marksN k0 l).getD i default = mkNd (k0 + offN l i) (l.getD i default) := by
  unfold marksN
  rw [List.getD_eq_getElem?_getD, List.getElem?_map, List.getElem?_range h]; rfl
end Go.Proofs.Ytgmpajfhjnojiaa
