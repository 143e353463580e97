/- MatchArguments: what its answer says (the plain law of FnMatches). -/
import Derived.Test.YtmbjaohohkfjbaaMatchI
namespace Go.Proofs.Ytmbjaohohkfjbaa
open Go.RowKit
set_option linter.unusedVariables false
set_option linter.unusedSimpArgs false
set_option maxRecDepth 100000

def preB (f s : ByteArray) : Prop := s = ⟨#[]⟩ ∨ (s.size ≤ f.size ∧ f.extract 0 s.size = s)
structure IM (F L : List ByteArray) (mt : List Int) : Prop where
  len : mt.length = F.length
  pre : ∀ i b : Nat, mt[i]? = some (b : Int) → b < L.length ∧ preB (F.getD i default) (L.getD b default)
  inj : ∀ i j b : Nat, mt[i]? = some (b : Int) → mt[j]? = some (b : Int) → i = j
def fullM (F L : List ByteArray) (mt : List Int) (a : Nat) : Prop := ∀ i b : Nat, i < F.length → b < a → F.getD i default = L.getD b default → F.getD i default ≠ dotS → mt[i]? = some (b : Int)
theorem IM.set {F L : List ByteArray} {mt : List Int} {k a : Nat} (h : IM F L mt) (hk : k < mt.length) (hn : mt.getD k default < 0) (ha : a < L.length) (hna : ¬ (a : Int) ∈ mt) (hp : preB (F.getD k default) (L.getD a default)) : IM F L (mt.set k (a : Int)) := by
  have get : ∀ i b : Nat, (mt.set k (a : Int))[i]? = some (b : Int) → (i = k ∧ b = a) ∨ (i ≠ k ∧ b ≠ a ∧ mt[i]? = some (b : Int)) := by
    intro i b hi
    rw [List.getElem?_set] at hi
    split at hi
    · try rw [if_pos hk] at hi
      injection hi with hi
      exact .inl ⟨by omega, by omega⟩
    · refine .inr ⟨by omega, ?_, hi⟩
      rintro rfl
      exact hna (List.mem_of_getElem? hi)
  refine ⟨by rw [List.length_set]; exact h.len, fun i b hi => ?_, fun i j b hi hj => ?_⟩
  · rcases get i b hi with ⟨rfl, rfl⟩ | ⟨_, _, g⟩
    · exact ⟨ha, hp⟩
    · exact h.pre i b g
  · rcases get i b hi with ⟨p1, p2⟩ | ⟨p1, p2, p3⟩ <;> rcases get j b hj with ⟨q1, q2⟩ | ⟨q1, q2, q3⟩
    · omega
    · exact absurd p2 q2
    · exact absurd q2 p2
    · exact h.inj i j b p3 q3
theorem fullM.set {F L : List ByteArray} {mt : List Int} {k a n : Nat} (h : fullM F L mt n) (hn : mt.getD k default < 0) : fullM F L (mt.set k (a : Int)) n := by
  intro i b hi hb he hd
  have := h i b hi hb he hd
  rw [List.getElem?_set, if_neg]
  · exact this
  · rintro rfl
    rw [List.getD_eq_getElem?_getD, this] at hn
    simp at hn; omega
theorem find1_self {F : List ByteArray} {i : Nat} (hv : allB (vF F) F.length = true) (hi : i < F.length) : find1 F (F.getD i default) = i := by
  have h := allB_iff.1 hv i hi
  unfold vF at h
  simp only [Bool.and_eq_true, Bool.not_eq_true', decide_eq_false_iff_not] at h
  rcases find1_spec F (F.getD i default) with ⟨_, h2⟩ | ⟨k, h1, h2, h3⟩
  · exact absurd (getD_mem hi) h2
  · rw [h1] at h ⊢
    rcases Nat.lt_or_ge i k with g | g
    · exact absurd (getD_some hi) (h3 i g)
    · have := h.2; omega
theorem find1_at {F : List ByteArray} {s : ByteArray} {k : Int} (h : find1 F s = k) (h0 : 0 ≤ k) : k.toNat < F.length ∧ F.getD k.toNat default = s := by
  rcases find1_spec F s with ⟨h1, _⟩ | ⟨j, h1, h2, _⟩
  · omega
  · obtain rfl : k = j := by omega
    have := (List.getElem?_eq_some_iff.1 h2).1
    refine ⟨by omega, ?_⟩
    rw [List.getD_eq_getElem?_getD, Int.toNat_natCast, h2]; rfl
theorem find1_neg {F : List ByteArray} {s : ByteArray} (h : find1 F s < 0) : ¬ s ∈ F := by
  rcases find1_spec F s with ⟨_, h1⟩ | ⟨j, h1, h2, _⟩
  · exact h1
  · omega
theorem ext_self (s : ByteArray) : s.extract 0 s.size = s := by simp
structure I1 (F L : List ByteArray) (a : Nat) (mt : List Int) : Prop where
  im : IM F L mt
  fu : fullM F L mt a
  lt : ∀ b : Nat, (b : Int) ∈ mt → b < a
  le : a ≤ L.length
theorem I1.step {F L : List ByteArray} {a : Nat} {mt mt' : List Int} (hv : allB (vF F) F.length = true) (h : I1 F L a mt) (ha : a < L.length) (hs : step1 F L (dI F F.length) a mt = .inr mt') : I1 F L (a + 1) mt' := by
  unfold step1 at hs
  have hna : ¬ (a : Int) ∈ mt := fun g => absurd (h.lt a g) (by omega)
  split at hs
  · rename_i hc
    injection hs with hs
    subst hs
    refine ⟨h.im, fun i b hi hb he hd => ?_, fun b hb => by have := h.lt b hb; omega, ha⟩
    rcases Nat.lt_or_ge b a with g | g
    · exact h.fu i b hi g he hd
    · obtain rfl : b = a := by omega
      exfalso
      rcases hc with hc | hc
      · exact find1_neg hc (he ▸ getD_mem hi)
      · rcases dI_is (F := F) F.length (Nat.le_refl _) with ⟨g1, g2⟩ | ⟨k, g1, g2, g3⟩
        · have := (find1_at hc (by omega)).1
          omega
        · have := (find1_at hc (by omega)).2
          rw [Int.toNat_natCast, g2] at this
          exact hd (by rw [he, ← this, g3])
  · rename_i hc
    split at hs
    · cases hs
    · rename_i hc2
      injection hs with hs
      subst hs
      obtain ⟨p1, p2⟩ := find1_at (F := F) (s := L.getD a default) rfl (by omega)
      have hk := p1
      rw [← h.im.len] at hk
      have hn : mt.getD (find1 F (L.getD a default)).toNat default < 0 := by omega
      refine ⟨h.im.set hk hn ha hna ?_, ?_, ?_, ha⟩
      · exact .inr (by rw [p2]; exact ⟨Nat.le_refl _, ext_self _⟩)
      · intro i b hi hb he hd
        rcases Nat.lt_or_ge b a with g | g
        · exact (h.fu.set hn) i b hi g he hd
        · obtain rfl : b = a := by omega
          have e1 := find1_self hv hi
          rw [he] at e1
          rw [e1, Int.toNat_natCast, List.getElem?_set, if_pos rfl, if_pos (by rw [h.im.len]; exact hi)]
      · intro b hb
        rcases (mem_setN hk hn).1 hb with g | g
        · omega
        · have := h.lt b g; omega
theorem cC_hit {F : List ByteArray} {s : ByteArray} {ex : List Int} : ∀ i, 0 < (cC F s ex i).1 → cP F s ex (cC F s ex i).2.toNat = true
  | 0, h => by simp [cC] at h
  | i + 1, h => by
    unfold cC at h ⊢
    split
    · simpa using ‹_›
    · rename_i hc
      rw [if_neg hc] at h
      exact cC_hit i h
structure I2 (F L : List ByteArray) (ex : List Int) (a : Nat) (mt : List Int) : Prop where
  im : IM F L mt
  fu : fullM F L mt L.length
  lt : ∀ b : Nat, (b : Int) ∈ mt → (b : Int) ∈ ex ∨ b < a
theorem I2.step {F L : List ByteArray} {ex : List Int} {a : Nat} {mt mt' : List Int} (h : I2 F L ex a mt) (ha : a < L.length) (hs : step2 F L (dI F F.length) ex a mt = .inr mt') : I2 F L ex (a + 1) mt' := by
  have same : I2 F L ex (a + 1) mt := ⟨h.im, h.fu, fun b hb => (h.lt b hb).imp id (by omega)⟩
  unfold step2 at hs
  split at hs
  · injection hs with hs; exact hs ▸ same
  · rename_i hc
    split at hs
    · cases hs
    · split at hs
      · injection hs with hs; exact hs ▸ same
      · rename_i hc1 hc2
        split at hs
        · cases hs
        · rename_i hc3
          injection hs with hs
          subst hs
          have hat := cC_at (F := F) (s := L.getD a default) (ex := ex) (dI F F.length)
          have hit := cC_hit (F := F) (s := L.getD a default) (ex := ex) (dI F F.length) (by omega)
          have hD := dI_le F F.length (Nat.le_refl _)
          generalize (cC F (L.getD a default) ex (dI F F.length)).2 = k at *
          have hk : k.toNat < mt.length := by rw [h.im.len]; omega
          have hna : ¬ (a : Int) ∈ mt := fun g => by
            rcases h.lt a g with g | g
            · exact hc (Or.inr g)
            · omega
          unfold cP at hit
          simp only [Bool.and_eq_true, decide_eq_true_eq] at hit
          refine ⟨h.im.set hk (by omega) ha hna (.inr ⟨by omega, hit.2.2⟩), h.fu.set (by omega), fun b hb => ?_⟩
          rcases (mem_setN hk (by omega)).1 hb with g | g
          · right; omega
          · exact (h.lt b g).imp id (by omega)
theorem nx_lt {mt : List Int} {D : Nat} (h : nx mt D < D) : mt.getD (nx mt D) default < 0 := by
  unfold nx at h ⊢
  cases hf : (List.range D).find? fun j => decide (mt.getD j default < 0) with
  | none => rw [hf] at h; exact absurd h (by simp)
  | some x =>
    have := List.find?_some hf
    simpa using this
structure I3 (F L : List ByteArray) (m2 : List Int) (a : Nat) (s : List Int × List Int) : Prop where
  im : IM F L s.1
  fu : fullM F L s.1 L.length
  al : ∀ b : Nat, b < a → ((b : Int) ∈ s.1 ↔ ¬ (b : Int) ∈ s.2)
  rs : ∀ b : Nat, (b : Int) ∈ s.2 → b < a
  rl : s.2.length ≤ a
theorem I3.step {F L : List ByteArray} {m2 : List Int} {a : Nat} {s s' : List Int × List Int} (h : I3 F L m2 a s) (ha : a < L.length) (hs : step3 L F.length (dI F F.length) a s = .inr s') : I3 F L m2 (a + 1) s' := by
  have hna : ¬ (a : Int) ∈ s.2 := fun g => absurd (h.rs a g) (by omega)
  unfold step3 at hs
  split at hs
  · rename_i hc
    injection hs with hs
    subst hs
    refine ⟨h.im, h.fu, fun b hb => ?_, fun b hb => by have := h.rs b hb; omega, by have := h.rl; omega⟩
    rcases Nat.lt_or_ge b a with g | g
    · exact h.al b g
    · obtain rfl : b = a := by omega
      exact ⟨fun _ => hna, fun _ => hc⟩
  · rename_i hc
    split at hs
    · rename_i hc2
      injection hs with hs
      subst hs
      have hn := nx_lt hc2.2
      have hD := dI_le F F.length (Nat.le_refl _)
      have hk : nx s.1 (dI F F.length) < s.1.length := by rw [h.im.len]; omega
      refine ⟨h.im.set hk hn ha hc (.inl hc2.1), h.fu.set hn, fun b hb => ?_, fun b hb => by have := h.rs b hb; omega, by have := h.rl; simp only; omega⟩
      simp only
      rw [mem_setN hk hn]
      rcases Nat.lt_or_ge b a with g | g
      · rw [← h.al b g]
        exact ⟨fun x => by rcases x with x | x
                           · omega
                           · exact x, Or.inr⟩
      · obtain rfl : b = a := by omega
        exact ⟨fun _ => hna, fun _ => Or.inl rfl⟩
    · split at hs
      · injection hs with hs
        subst hs
        refine ⟨h.im, h.fu, fun b hb => ?_, fun b hb => ?_, by have := h.rl; simp only [List.length_append, List.length_singleton]; omega⟩
        · simp only [List.mem_append, List.mem_singleton]
          rcases Nat.lt_or_ge b a with g | g
          · rw [h.al b g]
            exact ⟨fun x y => by rcases y with y | y
                                 · exact x y
                                 · omega, fun x y => x (Or.inl y)⟩
          · obtain rfl : b = a := by omega
            exact ⟨fun x => absurd x hc, fun x => absurd (Or.inr rfl) x⟩
        · simp only [List.mem_append, List.mem_singleton] at hb
          rcases hb with hb | hb
          · have := h.rs b hb; omega
          · omega
      · cases hs
theorem itS_ind {α : Type} {step : Nat → α → MS α} {s0 : α} (P : Nat → α → Prop) (n : Nat) (h0 : P 0 s0) (hs : ∀ a s s', a < n → P a s → step a s = .inr s' → P (a + 1) s') : ∀ {a s}, a ≤ n → itS step s0 a = .inr s → P a s
  | 0, s, _, h => by injection h with h; exact h ▸ h0
  | a + 1, s, hn, h => by
    unfold itS at h
    split at h
    · cases h
    · rename_i s1 h1
      exact hs a s1 s (by omega) (itS_ind P n h0 hs (by omega) h1) h
theorem count_le_one {l : List Int} {x : Int} (h : ∀ i j : Nat, l[i]? = some x → l[j]? = some x → i = j) : l.count x ≤ 1 := by
  induction l with
  | nil => simp
  | cons y l ih =>
    have h2 := ih fun i j hi hj => by have := h (i + 1) (j + 1) hi hj; omega
    rw [List.count_cons]
    split
    · rename_i hy
      have : ¬ x ∈ l := fun hm => by
        obtain ⟨j, hj⟩ := List.getElem?_of_mem hm
        have := h 0 (j + 1) (by simpa using hy) hj
        omega
      rw [List.count_eq_zero.2 this]; omega
    · omega
structure MatOk (F L : List ByteArray) (mt rs : List Int) : Prop where
  len : mt.length = F.length
  pre : ∀ i a : Nat, mt.getD i default = a → i < F.length → preB (F.getD i default) (L.getD a default)
  fu : ∀ i a : Nat, i < F.length → a < L.length → F.getD i default = L.getD a default → F.getD i default ≠ dotS → mt.getD i default = a
  one : ∀ a : Nat, a < L.length → mt.count (a : Int) + (if (a : Int) ∈ rs then 1 else 0) = 1
  rl : rs.length ≤ L.length
theorem matchA_ok (F L : List ByteArray) : ((matchA F L).1 = [] ∧ (matchA F L).2.1 = [] ∧ (matchA F L).2.2 ≠ ⟨#[]⟩) ∨ ((matchA F L).2.2 = ⟨#[]⟩ ∧ MatOk F L (matchA F L).1 (matchA F L).2.1) := by
  have err : ∀ {α : Type} (x : MS α) e, x = .inl e → True := fun _ _ _ => trivial
  have e1 : ∀ a mt e, step1 F L (dI F F.length) a mt = .inl e → e ≠ ⟨#[]⟩ := by
    intro a mt e h
    unfold step1 at h
    split at h
    · cases h
    · split at h
      · injection h with h; subst h; decide
      · cases h
  have e2 : ∀ ex a mt e, step2 F L (dI F F.length) ex a mt = .inl e → e ≠ ⟨#[]⟩ := by
    intro ex a mt e h
    unfold step2 at h
    split at h
    · cases h
    · split at h
      · injection h with h; subst h; decide
      · split at h
        · cases h
        · split at h
          · injection h with h; subst h; decide
          · cases h
  have e3 : ∀ a s e, step3 L F.length (dI F F.length) a s = .inl e → e ≠ ⟨#[]⟩ := by
    intro a s e h
    unfold step3 at h
    split at h
    · cases h
    · split at h
      · cases h
      · split at h
        · cases h
        · injection h with h; subst h; decide
  have ne : ∀ {α : Type} {step : Nat → α → MS α} {s0 : α} (hs : ∀ a s e, step a s = .inl e → e ≠ ⟨#[]⟩) (a : Nat) (e : ByteArray), itS step s0 a = .inl e → e ≠ ⟨#[]⟩ := by
    intro α step s0 hs a
    induction a with
    | zero => intro e h; cases h
    | succ a ih =>
      intro e h
      unfold itS at h
      split at h
      · rename_i e' h'
        injection h with h
        exact h ▸ ih e' h'
      · exact hs _ _ _ h
  unfold matchA
  split
  · rename_i hv
    cases h1 : M1 F L L.length with
    | inl e => exact .inl ⟨rfl, rfl, ne e1 _ _ h1⟩
    | inr m1 =>
      have i1 : I1 F L L.length m1 := itS_ind (fun a s => I1 F L a s) L.length
        ⟨⟨by simp, fun i b h => by rw [List.getElem?_replicate] at h; split at h <;> simp at h <;> omega, fun i j b h => by rw [List.getElem?_replicate] at h; split at h <;> simp at h <;> omega⟩, fun i b _ hb => by omega, fun b hb => by have := (List.mem_replicate.1 hb).2; omega, Nat.zero_le _⟩
        (fun a s s' ha hp hs => hp.step hv ha hs) (Nat.le_refl _) h1
      simp only
      cases h2 : M2 F L m1 L.length with
      | inl e => exact .inl ⟨rfl, rfl, ne (e2 m1) _ _ h2⟩
      | inr m2 =>
        have i2 : I2 F L m1 L.length m2 := itS_ind (fun a s => I2 F L m1 a s) L.length ⟨i1.im, i1.fu, fun b hb => .inl hb⟩ (fun a s s' ha hp hs => hp.step ha hs) (Nat.le_refl _) h2
        simp only
        cases h3 : M3 F L m2 L.length with
        | inl e => exact .inl ⟨rfl, rfl, ne e3 _ _ h3⟩
        | inr s =>
          have i3 : I3 F L m2 L.length s := itS_ind (fun a s => I3 F L m2 a s) L.length ⟨i2.im, i2.fu, fun b hb => (by omega), fun b hb => (by cases hb), Nat.zero_le _⟩ (fun a s s' ha hp hs => hp.step ha hs) (Nat.le_refl _) h3
          refine .inr ⟨rfl, i3.im.len, fun i a hi hlt => ?_, fun i a hi ha he hd => ?_, fun a ha => ?_, i3.rl⟩
          · refine (i3.im.pre i a ?_).2
            have hl : i < s.1.length := by rw [i3.im.len]; exact hlt
            rw [getD_some hl, ← hi]; rfl
          · show s.1.getD i default = a
            rw [List.getD_eq_getElem?_getD, i3.fu i a hi ha he hd]; rfl
          · show s.1.count (a : Int) + (if (a : Int) ∈ s.2 then 1 else 0) = 1
            have c1 := count_le_one (l := s.1) (x := (a : Int)) fun i j hi hj => i3.im.inj i j a hi hj
            have c2 := i3.al a ha
            by_cases hm : (a : Int) ∈ s.1
            · have := List.count_pos_iff.2 hm
              rw [if_neg (c2.1 hm)]; omega
            · rw [List.count_eq_zero.2 hm, if_pos (by by_cases h : (a : Int) ∈ s.2
                                                      · exact h
                                                      · exact absurd (c2.2 h) hm)]
  · refine .inl ⟨rfl, rfl, ?_⟩
    show e0S ≠ _
    decide
end Go.Proofs.Ytmbjaohohkfjbaa
