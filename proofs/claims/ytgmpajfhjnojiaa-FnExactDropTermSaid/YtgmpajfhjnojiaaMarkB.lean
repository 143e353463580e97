/- laws.markText, markIntS, markStringS; heldIntS, heldStringS. -/
import Derived.Test.YtgmpajfhjnojiaaUMarkB
import Derived.Test.YtgmpajfhjnojiaaTypB
import Derived.Test.YtgmpajfhjnojiaaMarkT
import Derived.Laws.IdiomStrings
namespace Go.Proofs.Ytgmpajfhjnojiaa
open Go.RowKit
set_option linter.unusedVariables false
set_option linter.unusedSimpArgs false
set_option maxRecDepth 100000

/-! ### rows of one cell -/
def cellsZ (l : List Int) : List Value := l.map (Value.int .i64)
def cellsS (l : List ByteArray) : List Value := l.map Value.string
def marksZ (k n : Nat) : List Int := (List.range n).map fun i => ((k + i : Nat) : Int)
def marksS (k n : Nat) : List ByteArray := (List.range n).map fun i => markT (k + i)
theorem marksZ_len (k n : Nat) : (marksZ k n).length = n := by simp [marksZ]
theorem marksS_len (k n : Nat) : (marksS k n).length = n := by simp [marksS]
theorem marks_step {α β : Type} (f : α → β) (g : Nat → α) (l : List α) (k : Nat) (h : k < l.length) : (((List.range k).map g ++ l.drop k).map f).set k (f (g k)) = ((List.range (k + 1)).map g ++ l.drop (k + 1)).map f := by
  rw [List.map_append, List.set_append_right _ _ (by simp), List.length_map, List.length_map, List.length_range, Nat.sub_self, List.drop_eq_getElem_cons h, List.map_cons, List.set_cons_zero, List.range_succ]
  simp
def MRel (n : Nat) (w : World) (base : Nat) (t : TypeId) (A : Option Addr) (c k0 : Nat) (cells : Nat → List Value) (v1 v5 : Value) (wr : World) : Prop :=
  ∃ k : Nat, k ≤ n ∧ v5 = .int .i64 k ∧ v1 = .int .i64 ((k0 + k : Nat) : Int) ∧ wr.ownsRow base t 1 (.slice A n c) n (cells k) ∧ w.grownBy wr (Value.slice A n c).ownBlock

theorem markIntS_any (A : Option Addr) (n c base k0 : Nat) (l : List Int) (w : World) (ha : w.ownsRow base 3 1 (.slice A n c) n (cellsZ l)) (hl : l.length = n) (h0 : 0 < k0) (h1 : k0 + n ≤ 4611686018427387904) :
    Calls Try.prog 37 #[.slice A n c, .int .i64 k0] w fun e w' => e = .returned (.int .i64 ((k0 + n : Nat) : Int)) ∧ w'.ownsRow base 3 1 (.slice A n c) n (cellsZ (marksZ k0 n)) ∧ w.grownBy w' (Value.slice A n c).ownBlock := by
  have HL := Lib.hid hl; clear hl
  go_enter Try.func37, Try.ntmps37
  go_wp2
  go_loopw [1, 5] (MRel n w base 3 A c k0 (fun k => cellsZ (marksZ k0 k ++ l.drop k))) (fun _ i _ => n - (intOf i).toNat)
  case atStart => exact ⟨0, Nat.zero_le _, rfl, rfl, by simpa [marksZ] using ha, World.grownBy.refl w _⟩
  case round =>
    obtain ⟨k, hk, rfl, rfl, hown, hg⟩ := hrel
    by_cases hlt : k < n
    · obtain ⟨g, cap, hv, -, -⟩ := hown.form (by omega)
      injection hv with e1 e2 e3
      subst e1 e3
      have hown : wr.ownsRow base 3 1 (.slice (some ⟨g, 0, none⟩) n c) n (cellsZ (marksZ k0 k ++ l.drop k)) := hown
      have hst := hown.stored k (.int .i64 ((k0 + k : Nat) : Int))
      have hfl : (cellsZ (marksZ k0 k ++ l.drop k)).length = n := by have := HL.out; simp [cellsZ, marksZ_len]; omega
      obtain ⟨z0, c0⟩ : ∃ z, wr.cell? ⟨g, k, none⟩ = some z := ⟨_, (hown.cellAt k (by omega)).trans (List.getElem?_eq_getElem (by omega))⟩
      have f0 := hown.frozenAt k
      have HS := Lib.hid hst
      have HG := Lib.hid hg
      clear hown hg ha hfl hst
      go_wp2
      refine ⟨⟨k + 1, hlt, rfl, rfl, ?_, HG.out.trans HS.out.2⟩, by simp [intOf]; omega⟩
      have hsp := marks_step (Value.int .i64) (fun i => ((k0 + i : Nat) : Int)) l k (by rw [HL.out]; omega)
      have := HS.out.1
      unfold cellsZ marksZ at this
      rw [hsp] at this
      exact this
    · go_wp2
      go_ret
      obtain rfl : k = n := by omega
      rw [List.drop_of_length_le (by rw [HL.out]; omega), List.append_nil] at hown
      exact ⟨ret_i rfl, hown, hg⟩

theorem markStringS_any (A : Option Addr) (n c base k0 : Nat) (l : List ByteArray) (w : World) (ha : w.ownsRow base 9 1 (.slice A n c) n (cellsS l)) (hl : l.length = n) (h0 : 0 < k0) (h1 : k0 + n ≤ 4611686018427387904) :
    Calls Try.prog 36 #[.slice A n c, .int .i64 k0] w fun e w' => e = .returned (.int .i64 ((k0 + n : Nat) : Int)) ∧ w'.ownsRow base 9 1 (.slice A n c) n (cellsS (marksS k0 n)) ∧ w.grownBy w' (Value.slice A n c).ownBlock := by
  have HL := Lib.hid hl; clear hl
  go_enter Try.func36, Try.ntmps36
  go_wp2
  go_loopw [1, 5] (MRel n w base 9 A c k0 (fun k => cellsS (marksS k0 k ++ l.drop k))) (fun _ i _ => n - (intOf i).toNat)
  case atStart => exact ⟨0, Nat.zero_le _, rfl, rfl, by simpa [marksS] using ha, World.grownBy.refl w _⟩
  case round =>
    obtain ⟨k, hk, rfl, rfl, hown, hg⟩ := hrel
    by_cases hlt : k < n
    · obtain ⟨g, cap, hv, -, -⟩ := hown.form (by omega)
      injection hv with e1 e2 e3
      subst e1 e3
      have hown : wr.ownsRow base 9 1 (.slice (some ⟨g, 0, none⟩) n c) n (cellsS (marksS k0 k ++ l.drop k)) := hown
      have hgl := (own_blk hown rfl).2
      have HO := Lib.hid hown
      have HG := Lib.hid hg
      clear hown hg ha
      go_wp2_with fail
      refine (markText_x _ (k0 + k) _ (by omega) (by omega) (by omega)).mono ?_
      rintro e w2 ⟨rfl, hb⟩
      have hown2 := own_below HO.out hb (Nat.le_refl _)
      have hst := hown2.stored k (.string (markT (k0 + k)))
      have hfl : (cellsS (marksS k0 k ++ l.drop k)).length = n := by have := HL.out; simp [cellsS, marksS_len]; omega
      obtain ⟨z0, c0⟩ : ∃ z, w2.cell? ⟨g, k, none⟩ = some z := ⟨_, (hown2.cellAt k (by omega)).trans (List.getElem?_eq_getElem (by omega))⟩
      have f0 := hown2.frozenAt k
      have hgb : wr.grownBy w2 (some g) := ⟨hb.os, hb.tape, hb.output, hb.size, fun i hi _ => hb.block i hi⟩
      have HS := Lib.hid hst
      have HB := Lib.hid hgb
      clear hown2 hst hb hfl hgb
      go_wp2
      refine ⟨⟨k + 1, hlt, rfl, rfl, ?_, (HG.out.trans HB.out).trans HS.out.2⟩, by simp [intOf]; omega⟩
      have hsp := marks_step Value.string (fun i => markT (k0 + i)) l k (by rw [HL.out]; omega)
      have := HS.out.1
      unfold cellsS marksS at this
      rw [hsp] at this
      exact this
    · go_wp2
      go_ret
      obtain rfl : k = n := by omega
      have hown : wr.ownsRow base 9 1 (.slice A k c) k (cellsS (marksS k0 k ++ l.drop k)) := hown
      rw [List.drop_of_length_le (by rw [HL.out]; omega), List.append_nil] at hown
      exact ⟨ret_i rfl, hown, hg⟩

/-! ### as 'Marks' -/
/-- rows of scalars -/
theorem own_row {w : World} {base t k : Nat} {es : List (List DV)} {cells : List Value} {v : Value} {f : List Nat} (hf : es.flatten = cells.map .sc) (h : OwnL w base [v] [.sl t k es] f) : w.ownsRow base t k v es.length cells ∧ f = v.ownBlock.toList := by
  cases h with
  | @sl _ _ _ _ cs g vs ds f' h1 h2 h3 h4 h5 h6 =>
    cases h5
    have hfl : Flat es.flatten := by rw [hf]; intro d hd; obtain ⟨x, _, rfl⟩ := List.mem_map.1 hd; exact ⟨x, rfl⟩
    have hg := own_flat_nil h4 hfl
    subst hg
    have hc := h4.rep
    rw [hf] at hc
    have : cs = cells := by
      have key : ∀ {A : Nat → Prop} {a b : List Value}, RepL w A a (b.map .sc) → a = b := by
        intro A a b
        induction b generalizing a with
        | nil => intro h; cases h; rfl
        | cons x b ih => intro h; cases h with | sc _ h2 => rw [ih h2]
      exact key hc
    subst this
    exact ⟨h1, by simp⟩
theorem row_own {w : World} {base t k : Nat} {es : List (List DV)} {cells : List Value} {v : Value} (hf : es.flatten = cells.map .sc) (hs : ∀ u ∈ cells, Sc u) (hk : 0 < k) (he : ∀ e ∈ es, e.length = k) (h : w.ownsRow base t k v es.length cells) : OwnL w base [v] [.sl t k es] v.ownBlock.toList := by
  have hf2 : OwnL w base cells es.flatten [] := by
    rw [hf]
    clear h hf
    induction cells with
    | nil => exact .nil
    | cons x b ih => exact .sc (hs x (List.mem_cons_self ..)) (ih fun v hv => hs v (List.mem_cons_of_mem _ hv))
  have := OwnL.sl (t := t) (k := k) (es := es) (vs := []) (ds := []) (f := []) h hk he hf2 .nil (by cases v.ownBlock <;> simp)
  simpa using this
theorem flatZ (l : List Int) : (l.map encZ).flatten = (cellsZ l).map .sc := by
  induction l with
  | nil => rfl
  | cons x l ih => rw [List.map_cons, List.flatten_cons, ih]; rfl
theorem flatS (l : List ByteArray) : (l.map encS).flatten = (cellsS l).map .sc := by
  induction l with
  | nil => rfl
  | cons x l ih => rw [List.map_cons, List.flatten_cons, ih]; rfl
theorem markIntS_k (l : List Int) (k0 : Nat) (h0 : 0 < k0) (h1 : k0 + l.length ≤ 4611686018427387904) : Marks Try.prog 37 false [encZs l] k0 [encZs (marksZ k0 l.length)] ((k0 + l.length : Nat) : Int) := by
  refine ⟨by kernel_rfl, fun w base v vals fs hv ho hnd => ?_⟩
  have hv : vals = [v] := hv
  subst hv
  obtain ⟨_, _, f, _, e, rfl, o0, ho⟩ := ownP_cons ho
  injection e with e1 e2
  subst e1 e2
  obtain ⟨-, rfl⟩ := ownP_nil ho
  obtain ⟨h2, rfl⟩ := own_row (flatZ l) o0
  rw [List.length_map] at h2
  obtain ⟨A, c, rfl, -, -⟩ := own_shape h2
  refine (markIntS_any A l.length c base k0 l w h2 rfl h0 h1).mono ?_
  rintro e w' ⟨rfl, h3, h4⟩
  exact ⟨rfl, ⟨row_own (flatZ _) (by intro u hu; obtain ⟨x, _, rfl⟩ := List.mem_map.1 hu; trivial) (by decide) (by simp [encZ]) (by rw [List.length_map, marksZ_len]; exact h3), trivial⟩, wrote_grown h4⟩
theorem markStringS_k (l : List ByteArray) (k0 : Nat) (h0 : 0 < k0) (h1 : k0 + l.length ≤ 4611686018427387904) : Marks Try.prog 36 false [encSs l] k0 [encSs (marksS k0 l.length)] ((k0 + l.length : Nat) : Int) := by
  refine ⟨by kernel_rfl, fun w base v vals fs hv ho hnd => ?_⟩
  have hv : vals = [v] := hv
  subst hv
  obtain ⟨_, _, f, _, e, rfl, o0, ho⟩ := ownP_cons ho
  injection e with e1 e2
  subst e1 e2
  obtain ⟨-, rfl⟩ := ownP_nil ho
  obtain ⟨h2, rfl⟩ := own_row (flatS l) o0
  rw [List.length_map] at h2
  obtain ⟨A, c, rfl, -, -⟩ := own_shape h2
  refine (markStringS_any A l.length c base k0 l w h2 rfl h0 h1).mono ?_
  rintro e w' ⟨rfl, h3, h4⟩
  exact ⟨rfl, ⟨row_own (flatS _) (by intro u hu; obtain ⟨x, _, rfl⟩ := List.mem_map.1 hu; trivial) (by decide) (by simp [encS]) (by rw [List.length_map, marksS_len]; exact h3), trivial⟩, wrote_grown h4⟩

/-! ### held -/
theorem marksZ_get {k n i : Nat} (h : i < n) : (marksZ k n).getD i default = ((k + i : Nat) : Int) := by
  rw [List.getD_eq_getElem?_getD]; simp [marksZ, h]
theorem marksS_get {k n i : Nat} (h : i < n) : (marksS k n).getD i default = markT (k + i) := by
  rw [List.getD_eq_getElem?_getD]; simp [marksS, h]
theorem heldIntS_m (k0 n : Nat) (h0 : 0 < k0) (h1 : k0 + n ≤ 4611686018427387904) : Meets Try.prog 39 [(false, [encZs (marksZ k0 n)]), (false, [.sc (.int .i64 k0)])] [(false, [.sc (.int .i64 ((k0 + n : Nat) : Int))], true)] := by
  have hl := marksZ_len k0 n
  refine meets_upf Try.func39 u_laws_heldIntS_g rfl ?_; simp only [u_laws_heldIntS_u]
  simp only [encZs]
  simp (disch := first | omega | (simp only [List.length_take, List.length_drop, List.length_append, List.map_cons, List.map_nil, List.length_map, List.length_cons, List.length_nil, List.length_set, List.length_replicate]; omega) | (simp only [List.length_cons, List.length_nil, Nat.zero_add, Nat.reduceAdd])) only [go_sem, ↓reduceIte, Nat.reduceAdd, Int.reduceNeg, Int.reduceAdd, Int.reduceSub, Int.reduceMul, Int.reduceLT, Int.reduceLE, Int.reduceEq, Int.reduceToNat, Nat.reduceBEq, e_sle, e_sge, e_shl1, e_orI, e_andI, e_shr, wrapu, wrap8, tn1, nat1, ix_s, ix_z, st_s, st_z, fl_s, fl_z, fl1_s, fl1_z, map_s, map_z, true_and]
  refine lp_n n (fun i => [.sc (.int .i64 i), .sc (.int .i64 ((k0 + i : Nat) : Int))]) rfl fun i hi => ?_
  simp only [u_laws_heldIntS_l0]
  by_cases hlt : i < n
  · have hg := marksZ_get (k := k0) hlt
    have hk : ((k0 + i : Nat) : Int) + 1 = ((k0 + (i + 1) : Nat) : Int) := by omega
    repeat' (first | (with_reducible refine jn_in ?_) | (with_reducible refine cl_ok (by assumption) rfl ?_) | (with_reducible refine cl_okP (by assumption) rfl ?_) | (with_reducible refine br_if (fun hbr => ?_) (fun hbr => ?_)) | (with_reducible refine br_ifn (fun hbr => ?_) (fun hbr => ?_)) | (with_reducible refine br_nb (fun hbr => ?_) (fun hbr => ?_)) | (with_reducible refine br_b (fun hbr => ?_) (fun hbr => ?_)) | simp (disch := first | omega | (simp only [List.length_take, List.length_drop, List.length_append, List.map_cons, List.map_nil, List.length_map, List.length_cons, List.length_nil, List.length_set, List.length_replicate]; omega) | (simp only [List.length_cons, List.length_nil, Nat.zero_add, Nat.reduceAdd])) only [go_sem, ↓reduceIte, Nat.reduceAdd, Int.reduceNeg, Int.reduceAdd, Int.reduceSub, Int.reduceMul, Int.reduceLT, Int.reduceLE, Int.reduceEq, Int.reduceToNat, Nat.reduceBEq, e_sle, e_sge, e_shl1, e_orI, e_andI, e_shr, wrapu, wrap8, tn1, nat1, ix_s, ix_z, st_s, st_z, fl_s, fl_z, fl1_s, fl1_z, map_s, map_z, hl, hg, eq_self, hk])
    all_goals first | omega | exact ⟨rfl, hlt⟩
  · obtain rfl : i = n := by omega
    repeat' (first | (with_reducible refine jn_in ?_) | (with_reducible refine cl_ok (by assumption) rfl ?_) | (with_reducible refine cl_okP (by assumption) rfl ?_) | (with_reducible refine br_if (fun hbr => ?_) (fun hbr => ?_)) | (with_reducible refine br_ifn (fun hbr => ?_) (fun hbr => ?_)) | (with_reducible refine br_nb (fun hbr => ?_) (fun hbr => ?_)) | (with_reducible refine br_b (fun hbr => ?_) (fun hbr => ?_)) | simp (disch := first | omega | (simp only [List.length_take, List.length_drop, List.length_append, List.map_cons, List.map_nil, List.length_map, List.length_cons, List.length_nil, List.length_set, List.length_replicate]; omega) | (simp only [List.length_cons, List.length_nil, Nat.zero_add, Nat.reduceAdd])) only [go_sem, ↓reduceIte, Nat.reduceAdd, Int.reduceNeg, Int.reduceAdd, Int.reduceSub, Int.reduceMul, Int.reduceLT, Int.reduceLE, Int.reduceEq, Int.reduceToNat, Nat.reduceBEq, e_sle, e_sge, e_shl1, e_orI, e_andI, e_shr, wrapu, wrap8, tn1, nat1, ix_s, ix_z, st_s, st_z, fl_s, fl_z, fl1_s, fl1_z, map_s, map_z, hl])
    all_goals first | omega | rfl
theorem heldStringS_m (k0 n : Nat) (h0 : 0 < k0) (h1 : k0 + n ≤ 4611686018427387904) : Meets Try.prog 38 [(false, [encSs (marksS k0 n)]), (false, [.sc (.int .i64 k0)])] [(false, [.sc (.int .i64 ((k0 + n : Nat) : Int))], true)] := by
  have hl := marksS_len k0 n
  refine meets_upf Try.func38 u_laws_heldStringS_g rfl ?_; simp only [u_laws_heldStringS_u]
  simp only [encSs]
  simp (disch := first | omega | (simp only [List.length_take, List.length_drop, List.length_append, List.map_cons, List.map_nil, List.length_map, List.length_cons, List.length_nil, List.length_set, List.length_replicate]; omega) | (simp only [List.length_cons, List.length_nil, Nat.zero_add, Nat.reduceAdd])) only [go_sem, ↓reduceIte, Nat.reduceAdd, Int.reduceNeg, Int.reduceAdd, Int.reduceSub, Int.reduceMul, Int.reduceLT, Int.reduceLE, Int.reduceEq, Int.reduceToNat, Nat.reduceBEq, e_sle, e_sge, e_shl1, e_orI, e_andI, e_shr, wrapu, wrap8, tn1, nat1, ix_s, ix_z, st_s, st_z, fl_s, fl_z, fl1_s, fl1_z, map_s, map_z, true_and]
  refine lp_n n (fun i => [.sc (.int .i64 i), .sc (.int .i64 ((k0 + i : Nat) : Int))]) rfl fun i hi => ?_
  simp only [u_laws_heldStringS_l0]
  by_cases hlt : i < n
  · have hg := marksS_get (k := k0) hlt
    have hm := markText_m (k0 + i) (by omega) (by omega)
    have hk : ((k0 + i : Nat) : Int) + 1 = ((k0 + (i + 1) : Nat) : Int) := by omega
    repeat' (first | (with_reducible refine jn_in ?_) | (with_reducible refine cl_ok (by assumption) rfl ?_) | (with_reducible refine cl_okP (by assumption) rfl ?_) | (with_reducible refine br_if (fun hbr => ?_) (fun hbr => ?_)) | (with_reducible refine br_ifn (fun hbr => ?_) (fun hbr => ?_)) | (with_reducible refine br_nb (fun hbr => ?_) (fun hbr => ?_)) | (with_reducible refine br_b (fun hbr => ?_) (fun hbr => ?_)) | simp (disch := first | omega | (simp only [List.length_take, List.length_drop, List.length_append, List.map_cons, List.map_nil, List.length_map, List.length_cons, List.length_nil, List.length_set, List.length_replicate]; omega) | (simp only [List.length_cons, List.length_nil, Nat.zero_add, Nat.reduceAdd])) only [go_sem, ↓reduceIte, Nat.reduceAdd, Int.reduceNeg, Int.reduceAdd, Int.reduceSub, Int.reduceMul, Int.reduceLT, Int.reduceLE, Int.reduceEq, Int.reduceToNat, Nat.reduceBEq, e_sle, e_sge, e_shl1, e_orI, e_andI, e_shr, wrapu, wrap8, tn1, nat1, ix_s, ix_z, st_s, st_z, fl_s, fl_z, fl1_s, fl1_z, map_s, map_z, hl, hg, eq_self, hk])
    all_goals first | omega | exact ⟨rfl, hlt⟩
  · obtain rfl : i = n := by omega
    repeat' (first | (with_reducible refine jn_in ?_) | (with_reducible refine cl_ok (by assumption) rfl ?_) | (with_reducible refine cl_okP (by assumption) rfl ?_) | (with_reducible refine br_if (fun hbr => ?_) (fun hbr => ?_)) | (with_reducible refine br_ifn (fun hbr => ?_) (fun hbr => ?_)) | (with_reducible refine br_nb (fun hbr => ?_) (fun hbr => ?_)) | (with_reducible refine br_b (fun hbr => ?_) (fun hbr => ?_)) | simp (disch := first | omega | (simp only [List.length_take, List.length_drop, List.length_append, List.map_cons, List.map_nil, List.length_map, List.length_cons, List.length_nil, List.length_set, List.length_replicate]; omega) | (simp only [List.length_cons, List.length_nil, Nat.zero_add, Nat.reduceAdd])) only [go_sem, ↓reduceIte, Nat.reduceAdd, Int.reduceNeg, Int.reduceAdd, Int.reduceSub, Int.reduceMul, Int.reduceLT, Int.reduceLE, Int.reduceEq, Int.reduceToNat, Nat.reduceBEq, e_sle, e_sge, e_shl1, e_orI, e_andI, e_shr, wrapu, wrap8, tn1, nat1, ix_s, ix_z, st_s, st_z, fl_s, fl_z, fl1_s, fl1_z, map_s, map_z, hl])
    all_goals first | omega | rfl
end Go.Proofs.Ytgmpajfhjnojiaa
