/- A pure program that ends well ends in one way: contracts whose result is only said to exist. No program here. -/
import Derived.Test.YtolkglnkdfcceaaVdS
import Derived.Test.YtolkglnkdfcceaaGX
namespace Go.Proofs.Ytolkglnkdfcceaa
open Go.RowKit
set_option linter.unusedVariables false
set_option linter.unusedSimpArgs false

/-- each jump hands as many values as its label takes -/
def wfU : UP → List Nat → Bool
  | .po _ k, A => wfU k A
  | .cl _ _ _ k, A => wfU k A
  | .mk _ _ _ _ k, A => wfU k A
  | .ite _ a b, A => wfU a A && wfU b A
  | .jump l xs, A => decide (A[l]? = some xs.length)
  | .join n rest k, A => wfU rest A && wfU k (A ++ [n])
  | .loop xs body, A => wfU body (A ++ [xs.length])
  | .ret _, A => true
  | .sel _ k, A => wfU k A
section
variable {P : Program}
abbrev OutU := Sum (List (Bool × List DV)) (Nat × List DV)
def lbU (o : OutU) (n : Nat) : Lbl := (List.range n).map fun l vs => o = .inr (l, vs)
theorem lbU_succ {o : OutU} {n : Nat} : lbU o (n + 1) = lbU o n ++ [fun vs => o = .inr (n, vs)] := by unfold lbU; rw [List.range_succ, List.map_append]; rfl
theorem lbU_get {o : OutU} {n l : Nat} (h : l < n) : (lbU o n)[l]? = some fun vs => o = .inr (l, vs) := by unfold lbU; rw [List.getElem?_map, List.getElem?_range h]; rfl
theorem lbU_len {o : OutU} {n : Nat} : (lbU o n).length = n := by simp [lbU]
theorem lbU_last {o : OutU} {n : Nat} {J : List DV → Prop} : (lbU o n ++ [J])[n]? = some J := by have := List.getElem?_concat_length (l := lbU o n) (a := J); rwa [lbU_len] at this
theorem v_monoR : ∀ (up : UP) {R R' : List (Bool × List DV) → Prop} {L L' : Lbl} {ρ : List DV}, (∀ r, R r → R' r) → LLe L L' → L.length = L'.length → V P R up L ρ → V P R' up L' ρ := by
  intro up
  induction up with
  | po o k ih => intro R R' L L' ρ hR h hl hv; rw [v_po] at hv ⊢; cases he : evalP ρ o with
    | none => rw [he] at hv; exact hv
    | some out => rw [he] at hv; exact ih hR h hl hv
  | cl f ar sh k ih => intro R R' L L' ρ hR h hl hv; obtain ⟨ys, res, h1, h2, h3, h4⟩ := hv; exact ⟨ys, res, h1, h2, h3, ih hR h hl h4⟩
  | mk f b xs j k ih => intro R R' L L' ρ hR h hl hv; obtain ⟨ds, ds', n, n', h1, h2, h3, h4, h5⟩ := hv; exact ⟨ds, ds', n, n', h1, h2, h3, h4, ih hR h hl h5⟩
  | ite x a b iha ihb =>
    intro R R' L L' ρ hR h hl hv
    simp only [V] at hv ⊢
    split at hv
    · rename_i c hc
      cases c with
      | true => exact iha hR h hl hv
      | false => exact ihb hR h hl hv
    · exact hv.elim
  | jump l xs => intro R R' L L' ρ hR h hl hv; obtain ⟨J, vs, h1, h2, h3⟩ := hv; obtain ⟨J', h4, h5⟩ := h l J h1; exact ⟨J', vs, h4, h2, h5 vs h3⟩
  | join n rest k ihr ihk => intro R R' L L' ρ hR h hl hv; obtain ⟨J, h1, h2⟩ := hv; exact ⟨J, fun vs a b => ihr hR h hl (h1 vs a b), ihk hR (h.snoc hl fun _ h => h) (by simp [hl]) h2⟩
  | loop xs body ih => intro R R' L L' ρ hR h hl hv; obtain ⟨I, m, vs, h1, h2, h3⟩ := hv; exact ⟨I, m, vs, h1, h2, fun vs m a b => ih hR (h.snoc hl fun _ h => h) (by simp [hl]) (h3 vs m a b)⟩
  | ret xs => intro R R' L L' ρ hR h hl hv; obtain ⟨vs, h1, h2⟩ := hv; exact ⟨vs, h1, hR _ h2⟩
  | sel xs k ih => intro R R' L L' ρ hR h hl hv; rw [v_sel] at hv ⊢; cases he : gL ρ xs with
    | none => rw [he] at hv; exact hv
    | some out => rw [he] at hv; exact ih hR h hl hv
/-- from the labels of one outcome to other labels that take it -/
theorem lbU_le {o : OutU} {n : Nat} {L : Lbl} (hl : L.length = n) (h : ∀ l vs, o = .inr (l, vs) → l < n → ∃ J, L[l]? = some J ∧ J vs) : LLe (lbU o n) L := by
  intro l J hJ
  have hlt : l < n := by have := (List.getElem?_eq_some_iff.1 hJ).1; rw [lbU_len] at this; exact this
  rw [lbU_get hlt] at hJ
  injection hJ with hJ
  subst hJ
  cases hL : L[l]? with
  | none => rw [List.getElem?_eq_none_iff] at hL; omega
  | some J' => exact ⟨J', rfl, fun vs ho => by obtain ⟨J2, h1, h2⟩ := h l vs ho hlt; rw [hL] at h1; injection h1 with h1; exact h1 ▸ h2⟩
def okO (R : List (Bool × List DV) → Prop) (L : Lbl) (A : List Nat) : OutU → Prop
  | .inl r => R r
  | .inr (l, vs) => A[l]? = some vs.length ∧ ∃ J, L[l]? = some J ∧ J vs
theorem gL_len : ∀ {ρ : List DV} {xs : List Nat} {vs : List DV}, gL ρ xs = some vs → vs.length = xs.length
  | ρ, [], vs, h => by simp only [gL] at h; injection h with h; subst h; rfl
  | ρ, x :: xs, vs, h => by
    simp only [gL] at h
    split at h
    · rename_i a b h1 h2
      injection h with h; subst h
      simp only [List.length_cons, gL_len h2]
    · cases h
theorem v_det : ∀ (up : UP) {R : List (Bool × List DV) → Prop} {L : Lbl} {A : List Nat} {ρ : List DV}, wfU up A = true → A.length = L.length → V P R up L ρ → ∃ o, okO R L A o ∧ V P (fun r => o = .inl r) up (lbU o L.length) ρ := by
  intro up
  induction up with
  | po o k ih =>
    intro R L A ρ hw hA hv
    rw [v_po] at hv
    cases he : evalP ρ o with
    | none => rw [he] at hv; exact hv.elim
    | some out =>
      rw [he] at hv
      obtain ⟨q, h1, h2⟩ := ih hw hA hv
      exact ⟨q, h1, by rw [v_po, he]; exact h2⟩
  | cl f ar sh k ih =>
    intro R L A ρ hw hA hv
    obtain ⟨ys, res, h1, h2, h3, h4⟩ := hv
    obtain ⟨q, g1, g2⟩ := ih hw hA h4
    exact ⟨q, g1, ys, res, h1, h2, h3, g2⟩
  | mk f b xs j k ih =>
    intro R L A ρ hw hA hv
    obtain ⟨ds, ds', n, n', h1, h2, h3, h4, h5⟩ := hv
    obtain ⟨q, g1, g2⟩ := ih hw hA h5
    exact ⟨q, g1, ds, ds', n, n', h1, h2, h3, h4, g2⟩
  | ite x a b iha ihb =>
    intro R L A ρ hw hA hv
    simp only [wfU, Bool.and_eq_true] at hw
    simp only [V] at hv ⊢
    split at hv
    · rename_i c hc
      cases c with
      | true => exact iha hw.1 hA hv
      | false => exact ihb hw.2 hA hv
    · exact hv.elim
  | jump l xs =>
    intro R L A ρ hw hA hv
    obtain ⟨J, vs, h1, h2, h3⟩ := hv
    simp only [wfU, decide_eq_true_eq] at hw
    exact ⟨.inr (l, vs), ⟨by rw [hw, gL_len h2], J, h1, h3⟩, _, vs, lbU_get (List.getElem?_eq_some_iff.1 h1).1, h2, rfl⟩
  | join n rest k ihr ihk =>
    intro R L A ρ hw hA hv
    simp only [wfU, Bool.and_eq_true] at hw
    obtain ⟨J, h1, h2⟩ := hv
    obtain ⟨o1, g1, g2⟩ := ihk hw.2 (by simp [hA]) h2
    simp only [List.length_append, List.length_singleton] at g2
    have other : (∀ vs, o1 ≠ .inr (L.length, vs)) → okO R L A o1 → ∃ o, okO R L A o ∧ V P (fun r => o = .inl r) (.join n rest k) (lbU o L.length) ρ := fun hne hok =>
      ⟨o1, hok, fun vs => o1 = .inr (L.length, vs), fun vs _ he => absurd he (hne vs), by rw [← lbU_succ]; exact g2⟩
    cases o1 with
    | inl r => exact other (fun vs h => by cases h) g1
    | inr p =>
      obtain ⟨l, vs⟩ := p
      obtain ⟨q1, J', q2, q3⟩ := g1
      have hl : l < L.length + 1 := by have := (List.getElem?_eq_some_iff.1 q2).1; simpa using this
      rcases Nat.lt_or_ge l L.length with hlt | hge
      · rw [List.getElem?_append_left (by omega)] at q1
        rw [List.getElem?_append_left hlt] at q2
        exact other (fun vs' h => by injection h with h; injection h with h _; omega) ⟨q1, J', q2, q3⟩
      · obtain rfl : l = L.length := by omega
        rw [← hA, List.getElem?_concat_length] at q1
        injection q1 with q1
        rw [List.getElem?_concat_length] at q2
        injection q2 with q2
        subst q2
        obtain ⟨o2, p1, p2⟩ := ihr hw.1 hA (h1 vs q1.symm q3)
        refine ⟨o2, p1, (· = vs), fun vs' _ he => he ▸ p2, v_monoR k (fun r h => by cases h) (lbU_le (by simp [lbU_len]) fun l' vs' h hlt => ?_) (by simp [lbU_len]) g2⟩
        injection h with h; injection h with h h'
        subst h h'
        exact ⟨_, lbU_last, rfl⟩
  | loop xs body ih =>
    intro R L A ρ hw hA hv
    simp only [wfU] at hw
    obtain ⟨I, m, vs, h1, h2, h3⟩ := hv
    have key : ∀ m vs, vs.length = xs.length → I vs m → ∃ o, okO R L A o ∧ ∃ I' : List DV → Nat → Prop, I' vs m ∧ ∀ vs' m', vs'.length = xs.length → I' vs' m' → V P (fun r => o = .inl r) body (lbU o L.length ++ [fun v => ∃ m'', m'' < m' ∧ I' v m'']) (psh vs' ρ) := by
      intro m
      induction m using Nat.strongRecOn with
      | ind m ihm =>
        intro vs hlen hI
        obtain ⟨o1, g1, g2⟩ := ih hw (by simp [hA]) (h3 vs m hlen hI)
        simp only [List.length_append, List.length_singleton] at g2
        have other : (∀ vs, o1 ≠ .inr (L.length, vs)) → okO R L A o1 → ∃ o, okO R L A o ∧ ∃ I' : List DV → Nat → Prop, I' vs m ∧ ∀ vs' m', vs'.length = xs.length → I' vs' m' → V P (fun r => o = .inl r) body (lbU o L.length ++ [fun v => ∃ m'', m'' < m' ∧ I' v m'']) (psh vs' ρ) := fun hne hok => by
          refine ⟨o1, hok, fun v k => v = vs ∧ k = m, ⟨rfl, rfl⟩, ?_⟩
          rintro _ _ _ ⟨rfl, rfl⟩
          refine v_monoR body (fun r h => h) ?_ (by simp [lbU_len]) g2
          rw [lbU_succ]
          exact LLe.snoc (fun l J h => ⟨J, h, fun _ h => h⟩) rfl (fun v he => absurd he (hne v))
        cases o1 with
        | inl r => exact other (fun vs h => by cases h) g1
        | inr p =>
          obtain ⟨l, vs1⟩ := p
          obtain ⟨q1, J', q2, q3⟩ := g1
          have hl : l < L.length + 1 := by have := (List.getElem?_eq_some_iff.1 q2).1; simpa using this
          rcases Nat.lt_or_ge l L.length with hlt | hge
          · rw [List.getElem?_append_left (by omega)] at q1
            rw [List.getElem?_append_left hlt] at q2
            exact other (fun vs' h => by injection h with h; injection h with h _; omega) ⟨q1, J', q2, q3⟩
          · obtain rfl : l = L.length := by omega
            rw [← hA, List.getElem?_concat_length] at q1
            injection q1 with q1
            rw [List.getElem?_concat_length] at q2
            injection q2 with q2
            subst q2
            obtain ⟨m1, k1, k2⟩ := q3
            obtain ⟨o, r1, I1, r2, r3⟩ := ihm m1 k1 vs1 q1.symm k2
            refine ⟨o, r1, fun v k => (v = vs ∧ k = m) ∨ (k < m ∧ I1 v k), .inl ⟨rfl, rfl⟩, ?_⟩
            rintro v k hv (⟨rfl, rfl⟩ | ⟨hk, hI1⟩)
            · refine v_monoR body (fun r h => by cases h) (lbU_le (by simp [lbU_len]) fun l' vs' h hlt => ?_) (by simp [lbU_len]) g2
              injection h with h; injection h with h h'
              subst h h'
              exact ⟨_, lbU_last, m1, k1, .inr ⟨k1, r2⟩⟩
            · refine v_monoR body (fun r h => h) (LLe.snoc (fun l J h => ⟨J, h, fun _ h => h⟩) rfl ?_) (by simp) (r3 v k hv hI1)
              rintro w ⟨m'', x1, x2⟩
              exact ⟨m'', x1, .inr ⟨by omega, x2⟩⟩
    obtain ⟨o, r1, I', r2, r3⟩ := key m vs (gL_len h1) h2
    exact ⟨o, r1, I', m, vs, h1, r2, r3⟩
  | ret xs =>
    intro R L A ρ hw hA hv
    obtain ⟨vs, h1, h2⟩ := hv
    exact ⟨.inl vs, h2, vs, h1, rfl⟩
  | sel xs k ih =>
    intro R L A ρ hw hA hv
    rw [v_sel] at hv
    cases he : gL ρ xs with
    | none => rw [he] at hv; exact hv.elim
    | some out =>
      rw [he] at hv
      obtain ⟨q, h1, h2⟩ := ih hw hA hv
      exact ⟨q, h1, by rw [v_sel, he]; exact h2⟩
/-- ONE RESULT: what a program may answer, it answers in one way -/
theorem v_one {α : Type} {up : UP} {ρ : List DV} {R : α → List (Bool × List DV) → Prop} {Q : α → Prop} (hw : wfU up [] = true) (h : V P (fun vs => ∃ a, Q a ∧ R a vs) up [] ρ) : ∃ a, Q a ∧ V P (R a) up [] ρ := by
  obtain ⟨o, h1, h2⟩ := v_det up hw rfl h
  cases o with
  | inl r =>
    obtain ⟨a, q1, q2⟩ := h1
    exact ⟨a, q1, v_monoR up (fun r' he => by injection he with he; exact he ▸ q2) (fun l J h => by simp [lbU] at h) rfl h2⟩
  | inr p => obtain ⟨_, J, hJ, _⟩ := h1; simp at hJ
theorem meets_ex {α : Type} {ow : OwK} {hs : List Hint} {dn : List (Nat × Nat × Bool × List Nat)} {f : FuncId} {fn : Func} {args : List (Bool × List DV)} {res : α → List Rs} {Q : α → Prop} {sh : List (Bool × Nat)} {up : UP}
    (hf : P.funcs[f]? = some fn) (hg : toUPf P f fn ow hs dn = some (sh, up)) (hsh : shA args = sh) (hwf : wfU up [] = true) (hw : V P (fun vs => ∃ a, Q a ∧ isRes (res a) vs) up [] (psh (flatA args) [])) : ∃ a, Q a ∧ Meets P f args (res a) := by
  obtain ⟨a, h1, h2⟩ := v_one hwf hw
  exact ⟨a, h1, meets_upf hf hg hsh h2⟩
theorem meetsC_ex {α : Type} {ow : OwK} {hs : List Hint} {dn : List (Nat × Nat × Bool × List Nat)} {f : FuncId} {fn : Func} {t : Nat} {x : DV} {cs : List DV} {cs' : α → List DV} {rest : List (Bool × List DV)} {res : α → List Rs} {Q : α → Prop} {sh : List (Bool × Nat)} {up : UP}
    (hf : P.funcs[f]? = some fn) (hg : toUPcf P f fn ow hs dn t = some (sh, up)) (hsh : shA rest = sh) (hdp : ∀ a, ∀ r ∈ res a, r.2.2 = true) (hwf : wfU up [] = true) (hw : V P (fun vs => ∃ a, Q a ∧ isC t (res a) (cs' a) vs) up [] (psh (flatA ((false, [cvD t x cs]) :: rest)) [])) : ∃ a, Q a ∧ MeetsC P f t x cs rest (res a) (cs' a) := by
  obtain ⟨a, h1, h2⟩ := v_one hwf hw
  exact ⟨a, h1, meets_upcf hf hg hsh (hdp a) h2⟩
end
end Go.Proofs.Ytolkglnkdfcceaa
