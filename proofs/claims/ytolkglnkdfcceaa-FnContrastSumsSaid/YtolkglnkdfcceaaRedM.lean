/- Reduction of a matrix to echelon form: the plain side. No program here. -/
import Derived.Test.YtolkglnkdfcceaaMul2
import Derived.Test.YtolkglnkdfcceaaBes
namespace Go.Proofs.Ytolkglnkdfcceaa
open Go.RowKit
set_option linter.unusedVariables false
set_option linter.unusedSimpArgs false

def celF (W : Nat) (l : List It) (i j : Nat) : It := l.getD (i * W + j) default
def fup (f : Nat → Nat → It) (i k : Nat) (x : It) : Nat → Nat → It := fun a b => if a = i ∧ b = k then x else f a b
theorem grid_getD {W R i k : Nat} (f : Nat → Nat → It) (hi : i < R) (hk : k < W) : (gridL W f (R * W)).getD (i * W + k) default = f i k := by
  rw [List.getD_eq_getElem?_getD, gridL_get f hk (grid_lt hi hk)]; rfl
theorem grid_ext {W n : Nat} {f g : Nat → Nat → It} (h : ∀ a b, b < W → f a b = g a b) (hW : 0 < W) : gridL W f n = gridL W g n := by
  unfold gridL
  refine List.map_congr_left fun t _ => h _ _ (Nat.mod_lt _ hW)
theorem grid_set {W R i k : Nat} (f : Nat → Nat → It) (x : It) (hi : i < R) (hk : k < W) : (gridL W f (R * W)).set (i * W + k) x = gridL W (fup f i k x) (R * W) := by
  apply List.ext_getElem?
  intro t
  rw [List.getElem?_set]
  have hlt := grid_lt hi hk
  obtain ⟨g1, g2⟩ := grid_ix (i := i) hk
  by_cases h : i * W + k = t
  · subst h
    rw [if_pos rfl, gridL_len, if_pos hlt, gridL_get _ hk hlt]
    simp [fup]
  · rw [if_neg h]
    unfold gridL
    rw [List.getElem?_map, List.getElem?_map]
    cases ht : (List.range (R * W))[t]? with
    | none => rfl
    | some u =>
      have hu : u = t := by
        have := List.getElem?_eq_some_iff.1 ht
        obtain ⟨_, e⟩ := this
        simpa using e.symm
      subst hu
      simp only [Option.map_some, fup]
      rw [if_neg]
      rintro ⟨e1, e2⟩
      apply h
      have := Nat.div_add_mod u W
      rw [e1, e2, Nat.mul_comm] at this
      exact this
theorem grid_of {W R : Nat} {l : List It} (hl : l.length = R * W) : l = gridL W (celF W l) (R * W) := by
  apply List.ext_getElem?
  intro t
  unfold gridL celF
  rw [List.getElem?_map]
  by_cases h : t < R * W
  · rw [List.getElem?_range h, List.getElem?_eq_getElem (by omega)]
    simp only [Option.map_some]
    have e : t / W * W + t % W = t := by rw [Nat.mul_comm]; exact Nat.div_add_mod t W
    rw [e, List.getD_eq_getElem?_getD, List.getElem?_eq_getElem (by omega)]; rfl
  · rw [List.getElem?_eq_none (by omega), List.getElem?_eq_none (by simp; omega)]; rfl

/-! ### the pivot's row -/
def nz (f : Nat → Nat → It) (c R r : Nat) : Nat := ((List.range R).find? fun i => decide (r ≤ i) && !decide ((f i c).num = 0)).getD R
theorem nz_is {f : Nat → Nat → It} {c R r k : Nat} (hk : k ≤ R) (hr : r ≤ k) (h1 : ∀ i, r ≤ i → i < k → (f i c).num = 0) (h2 : k = R ∨ (f k c).num ≠ 0) : nz f c R r = k := by
  unfold nz
  rcases Nat.lt_or_ge k R with h | h
  · have h3 : (f k c).num ≠ 0 := by rcases h2 with h2 | h2
                                    · omega
                                    · exact h2
    have : (List.range R).find? (fun i => decide (r ≤ i) && !decide ((f i c).num = 0)) = some k := by
      rw [List.find?_range_eq_some]
      refine ⟨by simp [hr, h3], List.mem_range.2 h, fun j hj => ?_⟩
      by_cases hrj : r ≤ j
      · simp [h1 j hrj hj]
      · simp [hrj]
    rw [this]; rfl
  · have : (List.range R).find? (fun i => decide (r ≤ i) && !decide ((f i c).num = 0)) = none := by
      rw [List.find?_range_eq_none]
      intro j hj
      by_cases hrj : r ≤ j
      · simp [h1 j hrj (by omega)]
      · simp [hrj]
    rw [this]
    show R = k
    omega

/-! ### the three sweeps -/
def swapJ (r k : Nat) (f : Nat → Nat → It) (J : Nat) : Nat → Nat → It := fun a b => if b < J then (if a = r then f k b else if a = k then f r b else f a b) else f a b
def divJ (r : Nat) (p : It) (g : Nat → Nat → It) (J : Nat) : Nat → Nat → It := fun a b => if b < J ∧ a = r then divN (g a b) p else g a b
def sdJ (r k : Nat) (p : It) (f : Nat → Nat → It) (J : Nat) : Nat → Nat → It := fun a b => if b < J then (if a = r then divN (f k b) p else if a = k then f r b else f a b) else f a b
def elJ (r c W : Nat) (g : Nat → Nat → It) (i J : Nat) : Nat → Nat → It := fun a b => if (a < i ∧ b < W ∨ a = i ∧ b < J) ∧ a ≠ r ∧ (g a c).num ≠ 0 then subN (g a b) (mulN (g a c) (g r b)) else g a b
variable {r k c W i j : Nat} {f g : Nat → Nat → It} {p : It}
theorem swapJ_0 : swapJ r k f 0 = f := by funext a b; simp [swapJ]
theorem swapJ_at {a : Nat} : swapJ r k f j a j = f a j := by simp [swapJ]
theorem swapJ_r (h : j < W) : swapJ r k f W r j = f k j := by simp [swapJ, h]
theorem swapJ_step : fup (fup (swapJ r k f j) r j (f k j)) k j (f r j) = swapJ r k f (j + 1) := by
  funext a b
  unfold fup swapJ
  rcases Nat.lt_trichotomy b j with h | h | h
  · simp [show b ≠ j by omega, show b < j by omega, show b < j + 1 by omega]
  · subst h
    by_cases h1 : a = k
    · subst h1; by_cases h2 : a = r <;> simp [h2]
    · by_cases h2 : a = r
      · subst h2; simp [h1]
      · simp [h1, h2]
  · simp [show b ≠ j by omega, show ¬ b < j by omega, show ¬ b < j + 1 by omega]
theorem divJ_0 : divJ r p g 0 = g := by funext a b; simp [divJ]
theorem divJ_at {a : Nat} : divJ r p g j a j = g a j := by simp [divJ]
theorem divJ_step : fup (divJ r p g j) r j (divN (g r j) p) = divJ r p g (j + 1) := by
  funext a b
  unfold fup divJ
  rcases Nat.lt_trichotomy b j with h | h | h
  · simp [show b ≠ j by omega, show b < j by omega, show b < j + 1 by omega]
  · subst h; by_cases h2 : a = r <;> simp [h2]
  · simp [show b ≠ j by omega, show ¬ b < j by omega, show ¬ b < j + 1 by omega]
theorem div_swap : divJ r p (swapJ r k f W) W = sdJ r k p f W := by
  funext a b
  unfold divJ swapJ sdJ
  by_cases h : b < W
  · by_cases h2 : a = r <;> simp [h, h2]
  · simp [h]
theorem sdJ_0 : sdJ r k p f 0 = f := by funext a b; simp [sdJ]
theorem sdJ_at {a : Nat} : sdJ r k p f j a j = f a j := by simp [sdJ]
theorem sdJ_step : fup (fup (sdJ r k p f j) k j (f r j)) r j (divN (f k j) p) = sdJ r k p f (j + 1) := by
  funext a b
  unfold fup sdJ
  rcases Nat.lt_trichotomy b j with h | h | h
  · simp [show b ≠ j by omega, show b < j by omega, show b < j + 1 by omega]
  · subst h
    by_cases h1 : a = r
    · subst h1; simp
    · by_cases h2 : a = k <;> simp [h1, h2]
  · simp [show b ≠ j by omega, show ¬ b < j by omega, show ¬ b < j + 1 by omega]
theorem elJ_0 : elJ r c W g 0 0 = g := by funext a b; simp [elJ]
theorem elJ_at : elJ r c W g i j i j = g i j := by simp [elJ]
theorem elJ_c (hc : c < W) : elJ r c W g i 0 i c = g i c := by simp [elJ]
theorem elJ_r {b : Nat} : elJ r c W g i j r b = g r b := by simp [elJ]
theorem elJ_W : elJ r c W g i W = elJ r c W g (i + 1) 0 := by
  funext a b
  unfold elJ
  have : (a < i ∧ b < W ∨ a = i ∧ b < W) ↔ (a < i + 1 ∧ b < W ∨ a = i + 1 ∧ b < 0) := by omega
  simp only [this]
theorem elJ_skip (h : i = r ∨ (g i c).num = 0) : elJ r c W g i 0 = elJ r c W g (i + 1) 0 := by
  funext a b
  unfold elJ
  by_cases ha : a = i
  · subst ha
    rcases h with h | h
    · simp [h]
    · simp [h]
  · have : (a < i ∧ b < W ∨ a = i ∧ b < 0) ↔ (a < i + 1 ∧ b < W ∨ a = i + 1 ∧ b < 0) := by omega
    simp only [this]
theorem elJ_step (h1 : i ≠ r) (h2 : (g i c).num ≠ 0) (hj : j < W) : fup (elJ r c W g i j) i j (subN (g i j) (mulN (g i c) (g r j))) = elJ r c W g i (j + 1) := by
  funext a b
  unfold fup elJ
  by_cases ha : a = i
  · subst ha
    rcases Nat.lt_trichotomy b j with h | h | h
    · simp [h1, h2, show b ≠ j by omega, show b < j by omega, show b < j + 1 by omega]
    · subst h; simp [h1, h2]
    · simp [h1, h2, show b ≠ j by omega, show ¬ b < j by omega, show ¬ b < j + 1 by omega]
  · simp [ha]
def stepF (W R r k c : Nat) (f : Nat → Nat → It) : Nat → Nat → It := elJ r c W (sdJ r k (f k c) f W) R 0

/-! ### the reduction, column by column -/
abbrev Stp := Nat × It × Bool
def red1 (W R c : Nat) (f : Nat → Nat → It) (st : List Stp) : Option ((Nat → Nat → It) × List Stp) :=
  if R ≤ st.length then some (f, st) else if nz f c R st.length = R then some (f, st)
  else if allN (gridL W (stepF W R st.length (nz f c R st.length) c f) (R * W)) = true then some (stepF W R st.length (nz f c R st.length) c f, st ++ [(c, f (nz f c R st.length) c, decide (nz f c R st.length ≠ st.length))]) else none
def redS (W R : Nat) (f0 : Nat → Nat → It) : Nat → Option ((Nat → Nat → It) × List Stp)
  | 0 => some (f0, [])
  | c + 1 => match redS W R f0 c with
    | none => none
    | some (f, st) => red1 W R c f st
theorem redS_step {W R : Nat} {f0 f : Nat → Nat → It} {st : List Stp} {c : Nat} (h : redS W R f0 c = some (f, st)) : redS W R f0 (c + 1) = red1 W R c f st := by simp only [redS, h]
theorem redS_none {W R : Nat} {f0 : Nat → Nat → It} {c : Nat} (h : redS W R f0 c = none) : ∀ {d}, c ≤ d → redS W R f0 d = none := by
  intro d hd
  induction d with
  | zero => obtain rfl : c = 0 := by omega
            exact h
  | succ d ih =>
    rcases Nat.lt_or_ge d c with h1 | h1
    · obtain rfl : c = d + 1 := by omega
      exact h
    · simp only [redS, ih h1]
theorem redS_idle {W R : Nat} {f0 f : Nat → Nat → It} {st : List Stp} {c : Nat} (h : redS W R f0 c = some (f, st)) (hs : R ≤ st.length) : ∀ {d}, c ≤ d → redS W R f0 d = some (f, st) := by
  intro d hd
  induction d with
  | zero => obtain rfl : c = 0 := by omega
            exact h
  | succ d ih =>
    rcases Nat.lt_or_ge d c with h1 | h1
    · obtain rfl : c = d + 1 := by omega
      exact h
    · rw [redS_step (ih h1)]; unfold red1; rw [if_pos hs]
theorem redS_len {W R : Nat} {f0 : Nat → Nat → It} : ∀ {c : Nat} {f : Nat → Nat → It} {st : List Stp}, redS W R f0 c = some (f, st) → st.length ≤ c ∧ st.length ≤ R
  | 0, f, st, h => by simp only [redS] at h; injection h with h; injection h with _ h; subst h; simp
  | c + 1, f, st, h => by
    simp only [redS] at h
    split at h
    · cases h
    · rename_i g s1 h1
      obtain ⟨i1, i2⟩ := redS_len h1
      unfold red1 at h
      split at h
      · injection h with h; injection h with _ h; subst h; omega
      · split at h
        · injection h with h; injection h with _ h; subst h; omega
        · split at h
          · injection h with h; injection h with _ h; subst h; simp; omega
          · cases h
end Go.Proofs.Ytolkglnkdfcceaa
