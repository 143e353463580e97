/- laws.markText, markItemS, heldItemS. -/
import Derived.Test.YtmanijpmkeheeaaGN
import Derived.Test.YtmanijpmkeheeaaRegion
import Derived.Laws.IdiomStrings
namespace Go.Proofs.Ytmanijpmkeheeaa
open Go.RowKit
set_option linter.unusedVariables false
set_option linter.unusedSimpArgs false

/-- the digits of k ahead of acc -/
def digL (k : Nat) (acc : List UInt8) : List UInt8 := if h : k = 0 then acc else digL (k / 10) (UInt8.ofNat (48 + k % 10) :: acc)
termination_by k
decreasing_by omega

theorem digL_zero (acc : List UInt8) : digL 0 acc = acc := by rw [digL]; simp
theorem digL_pos {k : Nat} (h : 0 < k) (acc : List UInt8) : digL k acc = digL (k / 10) (UInt8.ofNat (48 + k % 10) :: acc) := by rw [digL, dif_neg (by omega)]

def markT (k : Nat) : ByteArray := ⟨(109 :: digL k []).toArray⟩

theorem digL_len (m : Nat) : ∀ (k : Nat) (acc : List UInt8), k < 10 ^ m → (digL k acc).length ≤ acc.length + m := by
  induction m with
  | zero => intro k acc h; obtain rfl : k = 0 := by simpa using h
            rw [digL_zero]; omega
  | succ m ih =>
    intro k acc h
    by_cases h0 : k = 0
    · subst h0; rw [digL_zero]; omega
    · rw [digL_pos (by omega)]
      have := ih (k / 10) (UInt8.ofNat (48 + k % 10) :: acc) (by rw [Nat.pow_succ] at h; omega)
      simp only [List.length_cons] at this
      omega
theorem digL_ge (k : Nat) : ∀ acc : List UInt8, acc.length ≤ (digL k acc).length := by
  induction k using Nat.strongRecOn with
  | _ k ih =>
    intro acc
    by_cases h0 : k = 0
    · subst h0; rw [digL_zero]; omega
    · rw [digL_pos (by omega)]
      have := ih (k / 10) (by omega) (UInt8.ofNat (48 + k % 10) :: acc)
      simp only [List.length_cons] at this
      omega
theorem digL_le {K : Nat} (h : K ≤ 4611686018427387904) : (digL K []).length ≤ 20 := by
  have := digL_len 20 K [] (Nat.lt_of_le_of_lt h (by decide))
  simpa using this
theorem markT_size {K : Nat} (h : K ≤ 4611686018427387904) : (markT K).size ≤ 21 := by
  have := digL_le h
  simp [markT, ByteArray.size]; omega

theorem conv_digit (w : World) (k : Nat) : (convert 56 9 (.slice (some ⟨w.heap.size, 0, none⟩) 1 1)).run Try.prog (w.alloc (.cells #[.int .u8 (48 + (k : Int) % 10)] 5)) =
    .ok (.string ⟨#[UInt8.ofNat (48 + k % 10)]⟩) (w.alloc (.cells #[.int .u8 (48 + (k : Int) % 10)] 5)) := by
  have h := run_convert_bytes_back (P := Try.prog) (w.alloc (.cells #[.int .u8 (48 + (k : Int) % 10)] 5)) 56 9 5 ⟨w.heap.size, 0, none⟩ 1 [UInt8.ofNat (48 + k % 10)] Try.underlying56 Try.underlying5 Try.underlying9 (fun j hj => by
    have hj0 : j = 0 := by simpa using hj
    subst hj0
    have e : ((UInt8.ofNat (48 + k % 10)).toNat : Int) = 48 + (k : Int) % 10 := by
      rw [UInt8.toNat_ofNat']; omega
    simp only [List.getElem_cons_zero, e]
    simp [Addr.add, go_sem])
  exact h

theorem ba_cons (c : UInt8) (acc : List UInt8) : (⟨#[c]⟩ ++ ⟨acc.toArray⟩ : ByteArray) = ⟨(c :: acc).toArray⟩ := by
  apply ByteArray.ext
  simp [ByteArray.data_append]

def MarkTRel (K : Nat) (w : World) (v0 v3 : Value) (wr : World) : Prop :=
  ∃ (k : Nat) (acc : List UInt8), k ≤ K ∧ acc.length ≤ 20 ∧ v0 = .int .i64 k ∧ v3 = .string ⟨acc.toArray⟩ ∧ digL k acc = digL K [] ∧ Below w.heap.size w wr

set_option maxRecDepth 100000 in
theorem markText_any (K : Nat) (w : World) (h0 : 0 < K) (h1 : K ≤ 4611686018427387904) :
    Calls Try.prog 90 #[.int .i64 K] w fun e w' => e = .returned (.string (markT K)) ∧ Below w.heap.size w w' := by
  have hd : decide ((K : Int) ≤ 0) = false := by simp; omega
  go_enter Try.func90, Try.ntmps90
  go_wp2
  go_loopw [0, 3] (MarkTRel K w) (fun k _ _ => (intOf k).toNat)
  case atStart => exact ⟨K, [], Nat.le_refl _, by simp, rfl, rfl, rfl, Below.refl _ _⟩
  case round =>
    obtain ⟨k, acc, hk, hacc, rfl, rfl, hdig, hb⟩ := hrel
    have HD := Lib.hid hdig; clear hdig
    by_cases hlt : 0 < k
    · have hcv := conv_digit wr k
      have hdl : UInt8.ofNat (48 + k % 10) :: acc = UInt8.ofNat (48 + k % 10) :: acc := rfl
      have HL := Lib.hid (show (UInt8.ofNat (48 + k % 10) :: acc).length ≤ 20 from by
        have h2 := digL_ge (k / 10) (UInt8.ofNat (48 + k % 10) :: acc)
        rw [← digL_pos hlt, HD.out] at h2
        exact Nat.le_trans h2 (digL_le h1))
      clear hdl
      generalize hc : UInt8.ofNat (48 + k % 10) = c at hcv HL
      have HC := Lib.hid hc; clear hc
      go_wp2
      refine ⟨⟨k / 10, c :: acc, by omega, HL.out, rfl, by rw [ba_cons], ?_, hb.alloc hb.size _⟩, by simp [intOf]; omega⟩
      have := HD.out
      rw [digL_pos hlt, HC.out] at this
      exact this
    · go_wp2
      go_ret
      obtain rfl : k = 0 := by omega
      have := HD.out
      rw [digL_zero] at this
      exact ⟨by unfold markT; rw [← this]; rfl, hb⟩

theorem markText_x (x : Int) (K : Nat) (w : World) (hx : x = K) (h0 : 0 < K) (h1 : K ≤ 4611686018427387904) :
    Calls Try.prog 90 #[.int .i64 x] w fun e w' => e = .returned (.string (markT K)) ∧ Below w.heap.size w w' := by
  subst hx; exact markText_any K w h0 h1

/-! ### rows of items -/
def itFlat (l : List It) : List Value := l.flatMap itCells
def itEnts (l : List It) : List (Ent It) := l.map fun x => ⟨x, [], itCells x⟩
theorem itEnts_c (l : List It) : (itEnts l).flatMap Ent.c = itFlat l := by simp [itEnts, itFlat, List.flatMap_map]
theorem itEnts_f (l : List It) : (itEnts l).flatMap Ent.f = [] := by simp [itEnts, List.flatMap_map]
theorem itEnts_x (l : List It) : (itEnts l).map Ent.x = l := by simp [itEnts, Function.comp_def]
theorem itFlat_len (l : List It) : (itFlat l).length = l.length * 3 := by
  rw [← itEnts_c, flat_len (size := 3) (by intro e he; simp [itEnts] at he; obtain ⟨x, _, rfl⟩ := he; rfl)]; simp [itEnts]

/-- a row of items that the call owns -/
def OwI (w : World) (base : Nat) (v : Value) (l : List It) : Prop := w.ownsRow base 41 3 v l.length (itFlat l) ∧ ∀ x ∈ l, ItOk x

theorem OwI.ownN {w : World} {base : Nat} {v : Value} {l : List It} (h : OwI w base v l) : OwnN Lay.item w base 41 v (itEnts l) := by
  refine ⟨by rw [itEnts_c, show (itEnts l).length = l.length from by simp [itEnts]]; exact h.1, ?_, by rw [itEnts_f]; exact Ow.nil _ _, by rw [itEnts_f]; intro b hb; cases hb⟩
  intro x hx
  simp [itEnts] at hx
  obtain ⟨y, hy, rfl⟩ := hx
  exact ⟨rfl, rfl, h.2 y hy⟩
theorem OwI.of_ownN {w : World} {base : Nat} {v : Value} {es : List (Ent It)} (h : OwnN Lay.item w base 41 v es) : OwI w base v (es.map Ent.x) := by
  obtain ⟨h1, h2, _, _⟩ := h
  have e : es = itEnts (es.map Ent.x) := by
    unfold itEnts
    rw [List.map_map]
    refine (List.map_id' es).symm.trans (List.map_congr_left fun x hx => ?_)
    obtain ⟨a, b, _⟩ := h2 x hx
    cases x
    simp only at a b
    simp [a, b]
  refine ⟨?_, fun x hx => ?_⟩
  · rw [List.length_map, ← itEnts_c, ← e]; exact h1
  · obtain ⟨y, hy, rfl⟩ := List.mem_map.1 hx
    exact (h2 y hy).2.2
theorem OwI.read {w : World} {base : Nat} {v : Value} {l : List It} (h : OwI w base v l) : ∃ A c fp, v = .slice A l.length c ∧ SlR Lay.item w fp l A l.length c ∧ Ow w base fp := by
  have := h.ownN.read
  rw [itEnts_x] at this
  simpa [itEnts] using this
theorem OwI.keep {w w' : World} {base : Nat} {v : Value} {l : List It} (h : OwI w base v l) (hb : Below w.heap.size w w') : OwI w' base v l := ⟨own_below h.1 hb (Nat.le_refl _), h.2⟩
theorem OwI.mono {w : World} {base base' : Nat} {v : Value} {l : List It} (h : OwI w base v l) (hb : base' ≤ base) : OwI w base' v l := ⟨own_mono h.1 hb, h.2⟩

theorem itFlat_set (l : List It) (k : Nat) (x : It) (hk : k < l.length) : (((itFlat l).set (k * 3) (.int .i64 x.num)).set (k * 3 + 1) (.int .i64 x.den)).set (k * 3 + 2) (.string x.text) = itFlat (l.set k x) := by
  have h1 : putAt (itFlat l) (k * 3) (itCells x) = itFlat (l.set k x) := by
    rw [putAt_eq _ _ _ (by rw [itFlat_len]; simp [itCells]; omega), ← itEnts_c, ← itEnts_c]
    have := flat_set (size := 3) (⟨x, [], itCells x⟩ : Ent It) (itEnts l) k (by intro e he; simp [itEnts] at he; obtain ⟨x, _, rfl⟩ := he; rfl) rfl (by simpa [itEnts] using hk)
    rw [show itEnts (l.set k x) = (itEnts l).set k ⟨x, [], itCells x⟩ from by simp [itEnts, List.map_set], this]
    rfl
  rw [← h1]; rfl

/-! ### marks -/
def markIt (k : Nat) : It := ⟨k, k + 1, markT (k + 2)⟩
def marksIt (k n : Nat) : List It := (List.range n).map fun i => markIt (k + 3 * i)
theorem marksIt_len (k n : Nat) : (marksIt k n).length = n := by simp [marksIt]
theorem marksIt_get {k n i : Nat} (h : i < n) : (marksIt k n)[i]? = some (markIt (k + 3 * i)) := by simp [marksIt, h]
theorem marksIt_ok {k n : Nat} (h : k + 3 * n ≤ 4611686018427387904) : ∀ x ∈ marksIt k n, ItOk x := by
  intro x hx
  simp [marksIt] at hx
  obtain ⟨i, hi, rfl⟩ := hx
  have := markT_size (K := k + 3 * i + 2) (by omega)
  refine ⟨?_, ?_, ?_⟩
  · simp [markIt, In64]; omega
  · simp [markIt, In64]; omega
  · simp only [markIt]; unfold maxLen; omega

theorem marksIt_step (l : List It) (k0 k : Nat) (hk : k < l.length) : (marksIt k0 k ++ l.drop k).set k (markIt (k0 + 3 * k)) = marksIt k0 (k + 1) ++ l.drop (k + 1) := by
  have hl := marksIt_len k0 k
  rw [List.set_append_right _ _ (by omega), hl, Nat.sub_self, List.drop_eq_getElem_cons hk, List.set_cons_zero]
  have : marksIt k0 (k + 1) = marksIt k0 k ++ [markIt (k0 + 3 * k)] := by simp [marksIt, List.range_succ]
  rw [this, List.append_assoc]; rfl

def MarkIRel (k0 n : Nat) (w : World) (base : Nat) (A : Option Addr) (c : Nat) (l : List It) (v1 v5 : Value) (wr : World) : Prop :=
  ∃ k : Nat, k ≤ n ∧ v5 = .int .i64 k ∧ v1 = .int .i64 ((k0 + 3 * k : Nat) : Int) ∧ wr.ownsRow base 41 3 (.slice A n c) n (itFlat (marksIt k0 k ++ l.drop k)) ∧ w.grownBy wr (Value.slice A n c).ownBlock

theorem markI_step {k0 n : Nat} {w wr w2 : World} {base g c : Nat} {l : List It} {k : Nat} (hk : k < n) (hl : l.length = n)
    (hown : wr.ownsRow base 41 3 (.slice (some ⟨g, 0, none⟩) n c) n (itFlat (marksIt k0 k ++ l.drop k))) (hg : w.grownBy wr (Value.slice (some ⟨g, 0, none⟩) n c).ownBlock)
    (hb : Below ((wr.setCell ⟨g, k * 3, none⟩ (.int .i64 ((k0 + 3 * k : Nat) : Int))).setCell ⟨g, k * 3 + 1, none⟩ (.int .i64 ((k0 + 3 * k + 1 : Nat) : Int))).heap.size ((wr.setCell ⟨g, k * 3, none⟩ (.int .i64 ((k0 + 3 * k : Nat) : Int))).setCell ⟨g, k * 3 + 1, none⟩ (.int .i64 ((k0 + 3 * k + 1 : Nat) : Int))) w2) :
    MarkIRel k0 n w base (some ⟨g, 0, none⟩) c l (.int .i64 ((k0 + 3 * k + 3 : Nat) : Int)) (.int .i64 ((k : Int) + 1)) (w2.setCell ⟨g, k * 3 + 2, none⟩ (.string (markT (k0 + 3 * k + 2)))) := by
  have h1 := hown.stored (k * 3) (.int .i64 ((k0 + 3 * k : Nat) : Int))
  have h2 := h1.1.stored (k * 3 + 1) (.int .i64 ((k0 + 3 * k + 1 : Nat) : Int))
  have h3 := own_below h2.1 hb (Nat.le_refl _)
  have h4 := h3.stored (k * 3 + 2) (.string (markT (k0 + 3 * k + 2)))
  have hgb : (wr.setCell ⟨g, k * 3, none⟩ (.int .i64 ((k0 + 3 * k : Nat) : Int))).setCell ⟨g, k * 3 + 1, none⟩ (.int .i64 ((k0 + 3 * k + 1 : Nat) : Int)) |>.grownBy w2 (some g) := ⟨hb.os, hb.tape, hb.output, hb.size, fun i hi _ => hb.block i hi⟩
  refine ⟨k + 1, hk, rfl, by congr 2, ?_, ((hg.trans h1.2).trans h2.2).trans (hgb.trans h4.2)⟩
  have h5 := h4.1
  have e := itFlat_set (marksIt k0 k ++ l.drop k) k (markIt (k0 + 3 * k)) (by simp [marksIt_len]; omega)
  rw [marksIt_step l k0 k (by omega)] at e
  rw [← e]
  exact h5

theorem markItemS_any (A : Option Addr) (n c base k0 : Nat) (l : List It) (w : World) (ha : w.ownsRow base 41 3 (.slice A n c) n (itFlat l)) (hl : l.length = n) (h0 : 0 < k0) (h1 : k0 + 3 * n ≤ 4611686018427387904) :
    Calls Try.prog 41 #[.slice A n c, .int .i64 k0] w fun e w' => e = .returned (.int .i64 ((k0 + 3 * n : Nat) : Int)) ∧ w'.ownsRow base 41 3 (.slice A n c) n (itFlat (marksIt k0 n)) ∧ w.grownBy w' (Value.slice A n c).ownBlock := by
  have HL := Lib.hid hl; clear hl
  go_enter Try.func41, Try.ntmps41
  go_wp2
  go_loopw [1, 5] (MarkIRel k0 n w base A c l) (fun _ i _ => n - (intOf i).toNat)
  case atStart => exact ⟨0, Nat.zero_le _, rfl, rfl, by simpa [marksIt] using ha, World.grownBy.refl w _⟩
  case round =>
    obtain ⟨k, hk, rfl, rfl, hown, hg⟩ := hrel
    by_cases hlt : k < n
    · obtain ⟨g, cap, hv, -, -⟩ := hown.form (by omega)
      injection hv with e1 e2 e3
      subst e1 e3
      have R := fun w2 => markI_step (w2 := w2) hlt HL.out hown hg
      have hfl : (itFlat (marksIt k0 k ++ l.drop k)).length = n * 3 := by have := HL.out; rw [itFlat_len]; simp [marksIt_len]; omega
      obtain ⟨z0, c0⟩ : ∃ z, wr.cell? ⟨g, k * 3, none⟩ = some z := ⟨_, (hown.cellAt (k * 3) (by omega)).trans (List.getElem?_eq_getElem (by omega))⟩
      obtain ⟨z1, c1⟩ : ∃ z, wr.cell? ⟨g, k * 3 + 1, none⟩ = some z := ⟨_, (hown.cellAt (k * 3 + 1) (by omega)).trans (List.getElem?_eq_getElem (by omega))⟩
      obtain ⟨z2, c2⟩ : ∃ z, wr.cell? ⟨g, k * 3 + 2, none⟩ = some z := ⟨_, (hown.cellAt (k * 3 + 2) (by omega)).trans (List.getElem?_eq_getElem (by omega))⟩
      have f0 := hown.frozenAt (k * 3)
      have f1 := hown.frozenAt (k * 3 + 1)
      have f2 := hown.frozenAt (k * 3 + 2)
      have hgl := (own_blk hown rfl).2
      have HR := Lib.hid R
      clear hown hg ha hfl R
      generalize hK : k0 + 3 * k = K at HR ⊢
      have hKb : K + 3 ≤ 4611686018427387904 := by omega
      have HKK := Lib.hid hK; clear hK
      go_wp2_with fail
      refine (markText_x _ (K + 2) _ (by omega) (by omega) (by omega)).mono ?_
      rintro e w2 ⟨rfl, hb⟩
      have R := HR.out w2 hb
      obtain ⟨hc, hf⟩ := bcell hb
      have hz : g < w2.heap.size := by have := hb.size; simp at this; omega
      clear hb HR
      go_wp2
      go_roundw
      case rel => exact R
      case measure => simp [intOf]; omega
    · go_wp2
      go_ret
      obtain rfl : k = n := by omega
      rw [List.drop_of_length_le (by rw [HL.out]; omega), List.append_nil] at hown
      exact ⟨ret_i rfl, hown, hg⟩

def HeldIRel (k0 n : Nat) (w : World) (v1 v5 : Value) (wr : World) : Prop := ∃ k : Nat, k ≤ n ∧ v5 = .int .i64 k ∧ v1 = .int .i64 ((k0 + 3 * k : Nat) : Int) ∧ Below w.heap.size w wr

theorem heldItemS_any (A : Option Addr) (n c k0 : Nat) (f : List Nat) (w : World) (ha : SlR Lay.item w f (marksIt k0 n) A n c) (h0 : 0 < k0) (h1 : k0 + 3 * n ≤ 4611686018427387904) :
    Calls Try.prog 42 #[.slice A n c, .int .i64 k0] w fun e w' => e = .returned (.int .i64 ((k0 + 3 * n : Nat) : Int)) ∧ Below w.heap.size w w' := by
  have hm := ha.le
  go_enter Try.func42, Try.ntmps42
  go_wp2
  go_loopw [1, 5] (HeldIRel k0 n w) (fun _ i _ => n - (intOf i).toNat)
  case atStart => exact ⟨0, Nat.zero_le _, rfl, rfl, Below.refl _ _⟩
  case round =>
    obtain ⟨k, hk, rfl, rfl, hb⟩ := hrel
    by_cases hlt : k < n
    · obtain ⟨b, off, y, rfl, hy, hok, hbf, c0, c1, c2⟩ := (ha.keep (same_below hb ha.lt)).itAt hlt
      rw [marksIt_get hlt] at hy
      injection hy with hy
      subst hy
      generalize hK : k0 + 3 * k = K at c0 c1 c2 ⊢
      have hKb : K + 3 ≤ 4611686018427387904 := by omega
      have HKK := Lib.hid hK; clear hK
      simp only [markIt] at c0 c1 c2
      have HA := Lib.hid ha
      clear ha hok
      go_wp2_with fail
      refine wp_region_fixn 7 (fun w' => Below w.heap.size w w') [.slice (some ⟨b, off, none⟩) n c, .int .i64 k, .pointer (some ⟨b, off + k * 3, none⟩), .pointer (some ⟨b, off + k * 3 + 2, none⟩), .string (markT (K + 2)), .int .i64 ((K : Int) + 1 + 1), .string (markT (K + 2))]
        (by kernel_rfl) (by kernel_rfl) hb.drew ?_ ?_
      · intro aF haF; simp only [List.take_succ_cons, List.take_zero, putsOps, Act.put, List.setIfInBounds_toArray, List.set_cons_succ, List.set_cons_zero] at haF; subst haF; simp only [List.take_succ_cons, List.take_zero, FixOps]; repeat' (first | exact trivial | apply And.intro)
        all_goals
          intro w' s4
          obtain ⟨b', off', y', hbb, hy', -, -, -, -, d2⟩ := (HA.out.keep (same_below s4 HA.out.lt)).itAt hlt
          rw [marksIt_get hlt, HKK.out] at hy'
          injection hy' with hy'
          subst hy'
          injection hbb with hbb; injection hbb with e1 e2; subst e1 e2
          simp only [markIt] at d2
          go_wp2_with (go_at_call 90; refine (markText_x _ (K + 2) _ (by omega) (by omega) (by omega)).mono ?_; rintro e w2 ⟨rfl, hb2⟩)
          first
            | exact ⟨rfl, rfl, s4.trans (hb2.mono s4.size)⟩
            | exact ⟨rfl, rfl, s4⟩
      · intro aF haF; simp only [List.take_succ_cons, List.take_zero, putsOps, Act.put, List.setIfInBounds_toArray, List.set_cons_succ, List.set_cons_zero] at haF; subst haF; simp only [List.drop_succ_cons, List.drop_zero]
        intro w' s4
        clear c0 c1 c2
        go_wp2
        go_roundw
        case rel => exact ⟨k + 1, by omega, by go_num, by have := HKK.out; congr 1; omega, s4⟩
        case measure => simp [intOf]; omega
    · go_wp2
      go_ret
      obtain rfl : k = n := by omega
      exact ⟨ret_i rfl, hb⟩
end Go.Proofs.Ytmanijpmkeheeaa
