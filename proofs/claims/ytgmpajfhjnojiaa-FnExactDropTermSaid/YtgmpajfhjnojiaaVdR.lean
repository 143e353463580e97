/- Contracts of functions whose results may lie in their arguments (results that are only read). No program here. -/
import Derived.Test.YtgmpajfhjnojiaaGW
namespace Go.Proofs.Ytgmpajfhjnojiaa
open Go.RowKit
set_option linter.unusedVariables false
set_option linter.unusedSimpArgs false

section
variable {P : Program} {ρ ρ' : List DV} {σ : List Nat} {S S' : Sy} {s s0 : AS} {ps : List PO}
def sRdvs : List (Bool × List SC) → List (List (Option (Nat × Nat))) → Sy → Option (List PO × List (Bool × List Nat))
  | [], _, S => some ([], [])
  | (b, cs) :: r, ty, S => (match sRd false cs (ty.headD []) S with
    | some (p, xs, S1) => (match sRdvs r ty.tail S1 with | some (q, l) => some (p ++ q, (b, xs) :: l) | none => none)
    | none => none)
theorem sRdvs_ok : ∀ {xs : List (Bool × List SC)} {ty : List (List (Option (Nat × Nat)))} {l : List (Bool × List Nat)} {S : Sy} {ps : List PO} {ρ ρ' : List DV} {rvs : List ResultVar} {ys : List (Bool × List AC)},
    sRdvs xs ty S = some (ps, l) → evalPs ps ρ = some ρ' → Rel S ρ σ s → RvL P s rvs ys → RT ρ σ xs ys → ∃ ds, gArgs ρ' l = some ds ∧ RetRd P s rvs (ds.map fun d => (d.1, d.2, false))
  | [], ty, l, S, ps, ρ, ρ', rvs, ys, h, he, hr, hv, ht => by
    simp only [sRdvs] at h
    injection h with h; injection h with e1 e2; subst e1 e2
    match ys, ht with
    | [], _ =>
      cases rvs with
      | nil => exact ⟨[], rfl, trivial⟩
      | cons => exact hv.elim
  | (b, cs) :: r, ty, l, S, ps, ρ, ρ', rvs, ys, h, he, hr, hv, ht => by
    simp only [sRdvs] at h
    split at h
    · rename_i p xs S1 h1
      split at h
      · rename_i q l' h2
        injection h with h; injection h with e1 e2; subst e1 e2
        match ys, rvs, ht, hv with
        | y :: ys, rv :: rvs, ht, hv =>
          obtain ⟨ρ1, a1, a2⟩ := evalPs_app he
          obtain ⟨ds, g1, g2, -, g3⟩ := sRd_ok h1 a1 hr ht.1.2
          obtain ⟨dss, d1, d2⟩ := sRdvs_ok h2 a2 g3 hv.2 (RT.mono (evalPs_pre a1) (Pre.refl _) ht.2)
          refine ⟨(b, ds) :: dss, by simp only [gArgs, g1.app_pre (evalPs_pre a2), d1], ?_⟩
          simp only [List.map_cons, RetRd]
          refine ⟨trivial, ?_, d2⟩
          rw [hv.1]
          exact ⟨ht.1.1, g2 rfl⟩
      · cases h
    · cases h
def retKr (P : Program) (rvs : List ResultVar) (ty : List (List (Option (Nat × Nat)))) : Kt := fun _ e S =>
  match e with
  | .normal | .ret => (match sRvs P rvs S with
    | some (p, xs, S1) => (match sRdvs xs ty S1 with | some (q, l) => some (nds ((p ++ q).map .po) (.ret l)) | none => none)
    | none => none)
  | _ => none
def isRd (res : List Rs) (vs : List (Bool × List DV)) : Prop := (vs.map fun d => (d.1, d.2, false)) = res
theorem retKr_ok {rvs : List ResultVar} {ty : List (List (Option (Nat × Nat)))} {res : List Rs} {L : Lbl} : KOk P (isRd res) L ρ (retK P rvs res) (retKr P rvs ty) := by
  intro L' ρ1 hL hp e S pg hpg σ s hr hw
  have key : ∀ p xs S1 q l, sRvs P rvs S = some (p, xs, S1) → sRdvs xs ty S1 = some (q, l) → pg = nds ((p ++ q).map .po) (.ret l) → RetRd P s rvs res := by
    intro p xs S1 q l h1 h2 e
    subst e
    obtain ⟨ρ2, he, hw2, -⟩ := wn_po (w_nds hw)
    simp only [W] at hw2
    obtain ⟨vs, w1, w2⟩ := hw2
    obtain ⟨ρ3, a1, a2⟩ := evalPs_app he
    obtain ⟨ys, y1, y2, y3⟩ := sRvs_ok h1 a1 hr
    obtain ⟨ds, d1, d2⟩ := sRdvs_ok (P := P) h2 a2 y3 y1 y2
    rw [w1] at d1; injection d1 with d1; subst d1
    rw [w2] at d2; exact d2
  unfold retKr at hpg
  split at hpg
  · split at hpg
    · split at hpg
      · injection hpg with hpg; exact Or.inr (key _ _ _ _ _ (by assumption) (by assumption) hpg.symm)
      · cases hpg
    · cases hpg
  · split at hpg
    · split at hpg
      · injection hpg with hpg; exact Or.inr (key _ _ _ _ _ (by assumption) (by assumption) hpg.symm)
      · cases hpg
    · cases hpg
  · cases hpg
def toUPr (P : Program) (N : Nat) (ow : OwK) (hs : List Hint) (dn : List (Nat × Nat × Bool × List Nat)) (c : Code) (sh : List (Bool × Nat)) (rvs : List ResultVar) (ty : List (List (Option (Nat × Nat)))) : Option UP :=
  match gen P N ow hs (drawP P N ow dn) c 0 (initSy sh) (retKr P rvs ty) with
  | some pg => cv pg ((sh.map (·.2)).sum) (psh (vars 0 ((sh.map (·.2)).sum)) [])
  | none => none
def toUPrf (P : Program) (f : FuncId) (fn : Func) (ow : OwK) (hs : List Hint) (dn : List (Nat × Nat × Bool × List Nat)) : Option (List (Bool × Nat) × UP) :=
  match fn.body with
  | some c => if callable P f && decide (fn.params.toList.length ≤ fn.ntmps) then (match toUPr P fn.ntmps ow hs dn c (shP P fn) fn.results.toList (fn.resultTypes.toList.map (tcl P 9)) with | some up => some (shP P fn, up) | none => none) else none
  | none => none
/-- A CONTRACT OUT OF A PURE PROGRAM, results that are only read -/
theorem meets_uprf {ow : OwK} {hs : List Hint} {dn : List (Nat × Nat × Bool × List Nat)} {f : FuncId} {fn : Func} {args : List (Bool × List DV)} {res : List Rs} {sh : List (Bool × Nat)} {up : UP}
    (hf : P.funcs[f]? = some fn) (hg : toUPrf P f fn ow hs dn = some (sh, up)) (hsh : shA args = sh) (hw : V P (isRd res) up [] (psh (flatA args) [])) : Meets P f args res := by
  unfold toUPrf at hg
  split at hg
  · rename_i c hc
    split at hg
    · rename_i hb
      rw [Bool.and_eq_true, decide_eq_true_eq] at hb
      split at hg
      · rename_i up' hu
        injection hg with hg; injection hg with e1 e2; subst e1 e2
        unfold toUPr at hu
        split at hu
        · rename_i pg hp
          rw [← hsh] at hp hu
          have hlen : args.length ≤ fn.ntmps := by have := hb.2; rw [← show (shP P fn).length = fn.params.toList.length from by simp [shP], ← hsh] at this; simpa [shA] using this
          refine meets_awp hf hc hb.1 hlen (gen_ok (L := []) drawP_ok c hp rfl (init_rel args) retKr_ok ?_)
          rw [sum_flatA] at hu
          obtain ⟨a1, a2⟩ := Al.many (e := flatA args) (μ := []) (ρ := []) (ρ' := []) (fun p i h => by simp at h) (by simp)
          simp only [List.nil_append, List.length_nil] at a1 a2
          exact cv_ok pg hu rfl a1 a2 hw
        · cases hu
      · cases hg
    · cases hg
  · cases hg
end

/-! ### a first argument that is given away -/
section
variable {P : Program}
def initSyP (t k : Nat) (sh : List (Bool × Nat)) : Sy := ⟨(0, .p false [.own 0 0]) :: iSl sh 1 1, [(0, .row 0 t k 0)], 1, 1, 1 + (sh.map (·.2)).sum, []⟩
theorem initP_rel (t k : Nat) (es : List (List DV)) (rest : List (Bool × List DV)) : Rel (initSyP t k (shA rest)) ([DV.sl t k es] ++ flatA rest) [0] (initP t k es rest) := by
  refine ⟨rfl, rfl, ?_, fun j x hx => ?_, fun i x hx => ?_, fun i b hb => by simp [initSyP, alook] at hb⟩
  · simp only [initSyP, sum_flatA, List.length_append, List.length_singleton]
  · simp only [initSyP, alook] at hx
    split at hx
    · rename_i e
      subst e
      injection hx with hx; subst hx
      exact ⟨rfl, ⟨rfl, rfl⟩, trivial⟩
    · rename_i e
      obtain ⟨b, ds, m, h1, h2, h3, h4⟩ := iSl_ok (pre := [DV.sl t k es]) hx
      subst h3
      have hj : (initP t k es rest).sl j = (initS ((true, []) :: rest)).sl j := by
        simp only [initP, AS.put, AS.push, upd_at]
        rw [if_neg (by omega)]
      rw [hj]
      have : ((true, []) :: rest)[j]? = rest[j - 1]? := by
        obtain ⟨q, rfl⟩ := Nat.exists_eq_succ_of_ne_zero (show j ≠ 0 by omega)
        simp
      simp only [initS, this, h2]
      exact ⟨rfl, RD.toC h4⟩
  · simp only [initSyP, alook] at hx
    split at hx
    · rename_i e
      subst e
      injection hx with hx; subst hx
      refine ⟨Nat.lt_succ_self _, ?_⟩
      have : (initP t k es rest).ob 0 = .row 0 t k es true := by simp only [initP, AS.put, AS.push]; exact upd_same _ _ _
      rw [this]
      exact ⟨rfl, rfl, rfl, rfl, rfl⟩
    · cases hx
def toUPp (P : Program) (N : Nat) (ow : OwK) (hs : List Hint) (dn : List (Nat × Nat × Bool × List Nat)) (c : Code) (t k : Nat) (sh : List (Bool × Nat)) (rvs : List ResultVar) (ty : List (List (Option (Nat × Nat)))) : Option UP :=
  match gen P N ow hs (drawP P N ow dn) c 0 (initSyP t k sh) (retKt P rvs ty) with
  | some pg => cv pg (1 + (sh.map (·.2)).sum) (psh (vars 0 (1 + (sh.map (·.2)).sum)) [])
  | none => none
def shL (P : Program) (ts : List TypeId) : List (Bool × Nat) := ts.map fun t => ((tagg P t).getD false, (tcl P 9 t).length)
def toUPpf (P : Program) (f : FuncId) (fn : Func) (ow : OwK) (hs : List Hint) (dn : List (Nat × Nat × Bool × List Nat)) : Option ((Nat × Nat × List (Bool × Nat)) × UP) :=
  match fn.body, fn.params.toList with
  | some c, T :: ts => (match tel P T with
    | some (t, k) => if callable P f && decide (ts.length + 1 ≤ fn.ntmps) then (match toUPp P fn.ntmps ow hs dn c t k (shL P ts) fn.results.toList (fn.resultTypes.toList.map (tcl P 9)) with | some up => some ((t, k, shL P ts), up) | none => none) else none
    | none => none)
  | _, _ => none
/-- A CONTRACT OUT OF A PURE PROGRAM, the first argument given away -/
theorem meets_uppf {ow : OwK} {hs : List Hint} {dn : List (Nat × Nat × Bool × List Nat)} {f : FuncId} {fn : Func} {t k : Nat} {es : List (List DV)} {rest : List (Bool × List DV)} {res : List Rs} {sh : List (Bool × Nat)} {up : UP}
    (hf : P.funcs[f]? = some fn) (hg : toUPpf P f fn ow hs dn = some ((t, k, sh), up)) (hsh : shA rest = sh) (hfl : Flat es.flatten) (hdp : ∀ r ∈ res, r.2.2 = true) (hw : V P (isRes res) up [] (psh (flatA ((false, [.sl t k es]) :: rest)) [])) : MeetsP P f ((false, [.sl t k es]) :: rest) res := by
  unfold toUPpf at hg
  split at hg
  · rename_i c T ts hc hp
    split at hg
    · rename_i t' k' ht
      split at hg
      · rename_i hb
        rw [Bool.and_eq_true, decide_eq_true_eq] at hb
        split at hg
        · rename_i up' hu
          injection hg with hg; injection hg with e1 e2; injection e1 with e3 e4; injection e4 with e5 e6; subst e2 e3 e5
          unfold toUPp at hu
          split at hu
          · rename_i pg hp'
            have hlen : rest.length + 1 ≤ fn.ntmps := by
              have h1 := congrArg List.length (hsh.trans e6.symm)
              simp only [shA, shL, List.length_map] at h1
              rw [h1]; exact hb.2
            rw [e6, ← hsh] at hp' hu
            refine meetsP_awp hf hc hb.1 hlen hfl hdp (gen_ok (L := []) drawP_ok c hp' rfl (initP_rel _ _ es rest) retKt_ok ?_)
            rw [sum_flatA] at hu
            have hl : (flatA ((false, [DV.sl t' k' es]) :: rest)).length = 1 + (flatA rest).length := by simp [flatA]; omega
            obtain ⟨a1, a2⟩ := Al.many (e := flatA ((false, [DV.sl t' k' es]) :: rest)) (μ := []) (ρ := []) (ρ' := []) (fun p i h => by simp at h) (by simp)
            rw [hl] at a1 a2
            simp only [List.nil_append, List.length_nil] at a1 a2
            exact cv_ok pg hu (by rw [← hl]; rfl) a1 a2 hw
          · cases hu
        · cases hg
      · cases hg
    · cases hg
  · cases hg
theorem flat_map {α : Type} {e : α → List DV} (he : ∀ x, Flat (e x)) (l : List α) : Flat (l.map e).flatten := by
  intro d hd
  obtain ⟨x, hx, hd⟩ := List.mem_flatten.1 hd
  obtain ⟨y, _, rfl⟩ := List.mem_map.1 hx
  exact he y d hd
end
end Go.Proofs.Ytgmpajfhjnojiaa
