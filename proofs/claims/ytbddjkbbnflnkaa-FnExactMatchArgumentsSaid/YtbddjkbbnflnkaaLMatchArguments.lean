/- The law FnExactMatchArguments. -/
import Derived.Test.YtbddjkbbnflnkaaULMatchArguments
import Derived.Test.YtbddjkbbnflnkaaMatchI
import Derived.Test.YtbddjkbbnflnkaaMarkB
namespace Go.Proofs.Ytbddjkbbnflnkaa
open Go.RowKit
set_option linter.unusedVariables false
set_option linter.unusedSimpArgs false
set_option maxRecDepth 100000

theorem itS_inv {α : Type} {step : Nat → α → MS α} {s0 : α} (P : Nat → α → Prop) (h0 : P 0 s0) (hs : ∀ a s s', P a s → step a s = .inr s' → P (a + 1) s') : ∀ {a s}, itS step s0 a = .inr s → P a s
  | 0, s, h => by injection h with h; exact h ▸ h0
  | a + 1, s, h => by
    unfold itS at h
    split at h
    · cases h
    · rename_i s1 h1
      exact hs a s1 s (itS_inv P h0 hs h1) h
theorem M1_len {F L : List ByteArray} {a : Nat} {s : List Int} (h : M1 F L a = .inr s) : s.length = F.length := by
  refine itS_inv (fun _ s => s.length = F.length) (by simp) (fun a s s' hp hs => ?_) h
  unfold step1 at hs
  split at hs
  · injection hs with hs; rw [← hs]; exact hp
  · split at hs
    · cases hs
    · injection hs with hs; rw [← hs, List.length_set]; exact hp
theorem M2_len {F L : List ByteArray} {ex : List Int} {a : Nat} {s : List Int} (he : ex.length = F.length) (h : M2 F L ex a = .inr s) : s.length = F.length := by
  refine itS_inv (fun _ s => s.length = F.length) he (fun a s s' hp hs => ?_) h
  unfold step2 at hs
  split at hs
  · injection hs with hs; rw [← hs]; exact hp
  · split at hs
    · cases hs
    · split at hs
      · injection hs with hs; rw [← hs]; exact hp
      · split at hs
        · cases hs
        · injection hs with hs; rw [← hs, List.length_set]; exact hp
theorem M3_len {F L : List ByteArray} {mt : List Int} {a : Nat} {s : List Int × List Int} (he : mt.length = F.length) (h : M3 F L mt a = .inr s) : s.1.length = F.length ∧ s.2.length ≤ a := by
  refine itS_inv (fun a s => s.1.length = F.length ∧ s.2.length ≤ a) ⟨he, Nat.le_refl _⟩ (fun a s s' hp hs => ?_) h
  unfold step3 at hs
  split at hs
  · injection hs with hs; rw [← hs]; exact ⟨hp.1, by omega⟩
  · split at hs
    · injection hs with hs; rw [← hs]; exact ⟨by simp only [List.length_set]; exact hp.1, by simp only; omega⟩
    · split at hs
      · injection hs with hs; rw [← hs]; exact ⟨hp.1, by simp only [List.length_append, List.length_singleton]; omega⟩
      · cases hs
theorem matchA_len (F L : List ByteArray) : (matchA F L).1.length ≤ F.length ∧ (matchA F L).2.1.length ≤ L.length := by
  unfold matchA
  split
  · split
    · simp
    · rename_i m1 h1
      split
      · simp
      · rename_i m2 h2
        cases h3 : M3 F L m2 L.length with
        | inl e => simp [outM]
        | inr s =>
          obtain ⟨g1, g2⟩ := M3_len (M2_len (M1_len h1) h2) h3
          simp only [outM]; omega
  · simp
set_option maxHeartbeats 8000000 in
theorem lawMatchArguments_m (a0 a1 : List ByteArray) (ok0 : OkSs a0) (ok1 : OkSs a1) : Meets Try.prog 3 [(false, [encSs a0]), (false, [encSs a1])] [(false, [.sc (.bool true)], true)] := by
  have hz0 := szSs_m a0 ((1048576 : Int)) ok0 (by omega) (by omega)
  by_cases hc0 : ((wtSs a0 : Nat) : Int) ≤ (1048576 : Int)
  rotate_left
  · rw [szF_gt (by omega)] at hz0
    refine meets_upf Try.func3 u_laws_FnExactMatchArguments_g rfl ?_; simp only [u_laws_FnExactMatchArguments_u]
    simp only [encSs] at hz0 ⊢
    repeat' (first | (with_reducible refine jn_in ?_) | (with_reducible refine cl_ok (by assumption) rfl ?_) | (with_reducible refine br_if (fun hbr => ?_) (fun hbr => ?_)) | (with_reducible refine br_ifn (fun hbr => ?_) (fun hbr => ?_)) | (with_reducible refine br_nb (fun hbr => ?_) (fun hbr => ?_)) | (with_reducible refine br_b (fun hbr => ?_) (fun hbr => ?_)) | simp (disch := first | omega | (simp only [List.length_take, List.length_drop, List.length_append, List.map_cons, List.map_nil, List.length_map, List.length_cons, List.length_nil, List.length_set, List.length_replicate]; omega) | (simp only [List.length_cons, List.length_nil, Nat.zero_add, Nat.reduceAdd])) only [go_sem, ↓reduceIte, Nat.reduceAdd, Int.reduceNeg, Int.reduceAdd, Int.reduceSub, Int.reduceMul, Int.reduceLT, Int.reduceLE, Int.reduceEq, Int.reduceToNat, Nat.reduceBEq, eq_self])
    all_goals first | rfl | omega
  rw [szF_le hc0] at hz0
  have hd0 : decide ((1048576 : Int) - ((wtSs a0 : Nat) : Int) < 0) = false := decide_eq_false (by omega)
  have hz1 := szSs_m a1 ((1048576 : Int) - ((wtSs a0 : Nat) : Int)) ok1 (by omega) (by omega)
  by_cases hc1 : ((wtSs a1 : Nat) : Int) ≤ (1048576 : Int) - ((wtSs a0 : Nat) : Int)
  rotate_left
  · rw [szF_gt (by omega)] at hz1
    refine meets_upf Try.func3 u_laws_FnExactMatchArguments_g rfl ?_; simp only [u_laws_FnExactMatchArguments_u]
    simp only [encSs] at hz0 hz1 ⊢
    repeat' (first | (with_reducible refine jn_in ?_) | (with_reducible refine cl_ok (by assumption) rfl ?_) | (with_reducible refine br_if (fun hbr => ?_) (fun hbr => ?_)) | (with_reducible refine br_ifn (fun hbr => ?_) (fun hbr => ?_)) | (with_reducible refine br_nb (fun hbr => ?_) (fun hbr => ?_)) | (with_reducible refine br_b (fun hbr => ?_) (fun hbr => ?_)) | simp (disch := first | omega | (simp only [List.length_take, List.length_drop, List.length_append, List.map_cons, List.map_nil, List.length_map, List.length_cons, List.length_nil, List.length_set, List.length_replicate]; omega) | (simp only [List.length_cons, List.length_nil, Nat.zero_add, Nat.reduceAdd])) only [go_sem, ↓reduceIte, Nat.reduceAdd, Int.reduceNeg, Int.reduceAdd, Int.reduceSub, Int.reduceMul, Int.reduceLT, Int.reduceLE, Int.reduceEq, Int.reduceToNat, Nat.reduceBEq, eq_self, hd0])
    all_goals first | rfl | omega
  rw [szF_le hc1] at hz1
  have hd1 : decide ((1048576 : Int) - ((wtSs a0 : Nat) : Int) - ((wtSs a1 : Nat) : Int) < 0) = false := decide_eq_false (by omega)
  have hl0 : a0.length ≤ 1048576 := wtSs_len (by omega)
  have hl1 : a1.length ≤ 1048576 := wtSs_len (by omega)
  have ht0 := toSs_m a0 hl0
  have ht1 := toSs_m a1 hl1
  have hq0 := eqSs_m a0 (by omega)
  have hq1 := eqSs_m a1 (by omega)
  have h1 := specMatch_m a0 a1 hl0 hl1 (wtSs_size (by omega)) (wtSs_size (by omega))
  have h2 := implMatch_m a0 a1 hl0 hl1 (wtSs_size (by omega)) (wtSs_size (by omega))
  obtain ⟨b0, b1⟩ := matchA_len a0 a1
  generalize matchA a0 a1 = R at *
  obtain ⟨R0, R1, R2⟩ := R
  simp only [resM] at h1 h2 b0 b1
  have hr0 := eqZs_m R0 (by omega)
  have hr1 := eqZs_m R1 (by omega)
  have hmx0 : Marks Try.prog 21 false [encSs a0] 1 [encSs (marksS 1 a0.length)] ((1 + a0.length : Nat) : Int) := markStringS_k a0 1 (by omega) (by omega)
  have hmx1 : Marks Try.prog 21 false [encSs a1] ((1 + a0.length : Nat) : Int) [encSs (marksS (1 + a0.length) a1.length)] ((1 + a0.length + a1.length : Nat) : Int) := markStringS_k a1 (1 + a0.length) (by omega) (by omega)
  have hkx : decide (((1 + a0.length + a1.length : Nat) : Int) < 0) = false := decide_eq_false (by omega)
  have hmg0 : Marks Try.prog 22 false [encZs R0] 1 [encZs (marksZ 1 R0.length)] ((1 + R0.length : Nat) : Int) := markIntS_k R0 1 (by omega) (by omega)
  have hmg1 : Marks Try.prog 22 false [encZs R1] ((1 + R0.length : Nat) : Int) [encZs (marksZ (1 + R0.length) R1.length)] ((1 + R0.length + R1.length : Nat) : Int) := markIntS_k R1 (1 + R0.length) (by omega) (by omega)
  have hhg0 : Meets Try.prog 23 [(false, [encZs (marksZ 1 R0.length)]), (false, [.sc (.int .i64 1)])] [(false, [.sc (.int .i64 ((1 + R0.length : Nat) : Int))], true)] := heldIntS_m 1 R0.length (by omega) (by omega)
  have hhg1 : Meets Try.prog 23 [(false, [encZs (marksZ (1 + R0.length) R1.length)]), (false, [.sc (.int .i64 ((1 + R0.length : Nat) : Int))])] [(false, [.sc (.int .i64 ((1 + R0.length + R1.length : Nat) : Int))], true)] := heldIntS_m (1 + R0.length) R1.length (by omega) (by omega)
  have hkg0 : decide (((1 + R0.length : Nat) : Int) < 0) = false := decide_eq_false (by omega)
  have hkg1 : decide (((1 + R0.length + R1.length : Nat) : Int) < 0) = false := decide_eq_false (by omega)
  refine meets_upf Try.func3 u_laws_FnExactMatchArguments_g rfl ?_; simp only [u_laws_FnExactMatchArguments_u]
  simp only [encSs, encZs] at hz0 hz1 ht0 ht1 hq0 hq1 h1 h2 hr0 hr1 hmx0 hmx1 hmg0 hmg1 hhg0 hhg1 ⊢
  repeat' (first | (with_reducible refine cl_ok (by assumption) rfl ?_) | (refine mk_ok (by assumption) ?_ ?_; (· first | exact ⟨⟨_, rfl, rfl⟩, ⟨_, rfl, rfl⟩, trivial⟩ | exact trivial | exact ⟨⟨_, rfl, rfl⟩, trivial⟩)) | simp (disch := first | omega | (simp only [List.length_take, List.length_drop, List.length_append, List.map_cons, List.map_nil, List.length_map, List.length_cons, List.length_nil, List.length_set, List.length_replicate]; omega) | (simp only [List.length_cons, List.length_nil, Nat.zero_add, Nat.reduceAdd])) only [go_sem, ↓reduceIte, Nat.reduceAdd, Int.reduceNeg, Int.reduceAdd, Int.reduceSub, Int.reduceMul, Int.reduceLT, Int.reduceLE, Int.reduceEq, Int.reduceToNat, Nat.reduceBEq, hd0, hd1, hkx, hkg0, hkg1])
  all_goals rfl
end Go.Proofs.Ytbddjkbbnflnkaa
