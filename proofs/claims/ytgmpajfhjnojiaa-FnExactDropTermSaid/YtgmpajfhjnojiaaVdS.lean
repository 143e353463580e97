/- Contracts of functions that are handed a variable by its address (a cursor). No program here. -/
import Derived.Test.YtgmpajfhjnojiaaVdR
namespace Go.Proofs.Ytgmpajfhjnojiaa
open Go.RowKit
set_option linter.unusedVariables false
set_option linter.unusedSimpArgs false

section
variable {P : Program} {ρ ρ' : List DV} {σ : List Nat} {S S' : Sy} {s s0 : AS} {ps : List PO}
def sGvsS : List (Bool × List SC) → List (List (Option (Nat × Nat))) → Sy → Option (List PO × List (Bool × List Nat) × Sy)
  | [], _, S => some ([], [], S)
  | (b, cs) :: r, ty, S => (match sGive cs (ty.headD []) S with
    | some (p, xs, S1) => (match sGvsS r ty.tail S1 with | some (q, l, S2) => some (p ++ q, (b, xs) :: l, S2) | none => none)
    | none => none)
def isCS (t : TypeId) (st z : Nat) (S : Sy) (p : Nat × SO) : Bool := match S.own p.1 st with | some (.cur _ true t' z') => decide (t' = t ∧ z' = z ∧ st < S.c) | _ => false
def curOf (t : TypeId) (S : Sy) : Option (Nat × Nat × Nat) := S.ob.findSome? fun p => match p.2 with
  | .cur st true _ z => if isCS t st z S p then some (p.1, st, z) else none
  | _ => none
theorem curOf_ok {t : TypeId} {i st z : Nat} (h : curOf t S = some (i, st, z)) (hr : Rel S ρ σ s) : ∃ st' x cs, s.own? i st' = some (.cur st' true t x cs) ∧ ρ[z]? = some (cvD t x cs) := by
  unfold curOf at h
  obtain ⟨l1, p, l2, -, h, -⟩ := List.findSome?_eq_some_iff.1 h
  split at h
  · rename_i st0 t0 z0 hp
    split at h
    · rename_i hc
      injection h with h; injection h with e1 h; injection h with e2 e3; subst e1 e2 e3
      unfold isCS at hc
      split at hc
      · rename_i a t' z' ho
        obtain ⟨rfl, rfl, hlt⟩ := of_decide_eq_true hc
        have hs : ∃ st', σ[st0]? = some st' := ⟨_, List.getElem?_eq_getElem (by rw [hr.c]; exact hlt)⟩
        obtain ⟨st', hs⟩ := hs
        obtain ⟨o', k1, k2, -, -⟩ := hr.own ho hs
        cases o' <;> first | exact k2.elim | skip
        rename_i b id ty x cs
        obtain ⟨k5, rfl, rfl, k6⟩ := k2
        obtain rfl := own_stV k1 rfl
        exact ⟨_, x, cs, k1, k6⟩
      · cases hc
    · cases h
  · cases h
theorem sGvsS_ok {K : AS → Prop} : ∀ {xs : List (Bool × List SC)} {ty : List (List (Option (Nat × Nat)))} {l : List (Bool × List Nat)} {S S' : Sy} {ps : List PO} {ρ ρ' : List DV} {s : AS} {rvs : List ResultVar} {ys : List (Bool × List AC)},
    sGvsS xs ty S = some (ps, l, S') → evalPs ps ρ = some ρ' → Rel S ρ σ s → RvL P s0 rvs ys → RT ρ σ xs ys → (∀ s', Rel S' ρ' σ s' → K s') → ∃ ds, gArgs ρ' l = some ds ∧ RetDK P s0 K rvs (ds.map fun d => (d.1, d.2, true)) s
  | [], ty, l, S, S', ps, ρ, ρ', s, rvs, ys, h, he, hr, hv, ht, hk => by
    simp only [sGvsS] at h
    injection h with h; injection h with e1 h; injection h with e2 e3; subst e1 e2 e3
    simp only [evalPs] at he; injection he with he; subst he
    match ys, ht with
    | [], _ =>
      cases rvs with
      | nil => exact ⟨[], rfl, hk s hr⟩
      | cons => exact hv.elim
  | (b, cs) :: r, ty, l, S, S', ps, ρ, ρ', s, rvs, ys, h, he, hr, hv, ht, hk => by
    simp only [sGvsS] at h
    split at h
    · rename_i p xs S1 h1
      split at h
      · rename_i q l' S2 h2
        injection h with h; injection h with e1 h; injection h with e2 e3; subst e1 e2 e3
        match ys, rvs, ht, hv with
        | y :: ys, rv :: rvs, ht, hv =>
          obtain ⟨ρ1, a1, a2⟩ := evalPs_app he
          obtain ⟨s1, ds, g1, g2, g3, -⟩ := sGive_ok h1 a1 hr ht.1.2
          obtain ⟨dss, d1, d2⟩ := sGvsS_ok h2 a2 g3 hv.2 (RT.mono (evalPs_pre a1) (Pre.refl _) ht.2) hk
          refine ⟨(b, ds) :: dss, by simp only [gArgs, g2.app_pre (evalPs_pre a2), d1], ?_⟩
          simp only [List.map_cons, RetDK]
          refine ⟨trivial, ?_⟩
          rw [hv.1]
          exact ⟨ht.1.1, s1, g1, d2⟩
      · cases h
    · cases h
def retKtC (P : Program) (t : TypeId) (rvs : List ResultVar) (ty : List (List (Option (Nat × Nat)))) : Kt := fun _ e S =>
  match e with
  | .normal | .ret => (match sRvs P rvs S with
    | some (p, xs, S1) => (match sGvsS xs ty S1 with
      | some (q, l, S2) => (match curOf t S2 with | some (_, _, z) => some (nds ((p ++ q).map .po) (.ret ((false, [z]) :: l))) | none => none)
      | none => none)
    | none => none)
  | _ => none
/-- the results, the variable's state ahead -/
def isC (t : TypeId) (res : List Rs) (cs' : List DV) (vs : List (Bool × List DV)) : Prop := ∃ x ds, vs = (false, [cvD t x cs']) :: ds ∧ (ds.map fun d => (d.1, d.2, true)) = res
theorem retKtC_ok {t : TypeId} {rvs : List ResultVar} {ty : List (List (Option (Nat × Nat)))} {res : List Rs} {cs' : List DV} {L : Lbl} : KOk P (isC t res cs') L ρ (retKC P rvs res t cs') (retKtC P t rvs ty) := by
  intro L' ρ1 hL hp e S pg hpg σ s hr hw
  have key : ∀ p xs S1 q l S2 i st z, sRvs P rvs S = some (p, xs, S1) → sGvsS xs ty S1 = some (q, l, S2) → curOf t S2 = some (i, st, z) → pg = nds ((p ++ q).map .po) (.ret ((false, [z]) :: l)) → RetDK P s (curK t cs') rvs res s := by
    intro p xs S1 q l S2 i st z h1 h2 h3 e
    subst e
    obtain ⟨ρ2, he, hw2, -⟩ := wn_po (w_nds hw)
    simp only [W] at hw2
    obtain ⟨vs, w1, x, ds0, rfl, w2⟩ := hw2
    obtain ⟨ρ3, a1, a2⟩ := evalPs_app he
    obtain ⟨ys, y1, y2, y3⟩ := sRvs_ok h1 a1 hr
    obtain ⟨ds, d1, d2⟩ := sGvsS_ok (P := P) (s0 := s) (K := fun s' => ∃ i st x cs, s'.own? i st = some (.cur st true t x cs) ∧ ρ2[z]? = some (cvD t x cs)) h2 a2 y3 y1 y2 (fun s' hr' => by
      obtain ⟨st', x, cs, k1, k2⟩ := curOf_ok h3 hr'
      exact ⟨i, st', x, cs, k1, k2⟩)
    simp only [gArgs, gL, d1] at w1
    split at w1
    · rename_i a b hz hb
      injection w1 with w1
      injection w1 with w3 w4
      injection w3 with _ w3
      subst w4
      injection hb with hb
      subst hb
      rw [← w2]
      have mono : ∀ {K K' : AS → Prop}, (∀ s, K s → K' s) → ∀ {rvs : List ResultVar} {rs : List Rs} {u : AS}, RetDK P s K rvs rs u → RetDK P s K' rvs rs u := by
        intro K K' hKK rvs
        induction rvs with
        | nil => intro rs u h; cases rs with
          | nil => exact hKK _ h
          | cons => exact h.elim
        | cons rv rvs ih =>
          intro rs u h
          cases rs with
          | nil => exact h.elim
          | cons r rs =>
            obtain ⟨b, ds, dp⟩ := r
            obtain ⟨h1, h2⟩ := h
            refine ⟨h1, ?_⟩
            obtain ⟨cs, hcs, s', hg, hd⟩ := rvP_ok h2
            rw [hcs]
            exact ⟨rfl, s', hg, ih hd⟩
      refine mono (fun s' hs => ?_) d2
      obtain ⟨i, st, x', cs, k1, k2⟩ := hs
      have hz' : [cvD t x' cs] = a := by simpa [k2] using hz
      rw [← hz'] at w3
      injection w3 with w3 _
      unfold cvD at w3
      injection w3 with _ _ w3
      injection w3 with _ w3
      injection w3 with w3 _
      subst w3
      exact ⟨i, st, x', k1⟩
    · cases w1
  unfold retKtC at hpg
  split at hpg
  · split at hpg
    · split at hpg
      · split at hpg
        · injection hpg with hpg; exact key _ _ _ _ _ _ _ _ _ (by assumption) (by assumption) (by assumption) hpg.symm
        · cases hpg
      · cases hpg
    · cases hpg
  · split at hpg
    · split at hpg
      · split at hpg
        · injection hpg with hpg; exact key _ _ _ _ _ _ _ _ _ (by assumption) (by assumption) (by assumption) hpg.symm
        · cases hpg
      · cases hpg
    · cases hpg
  · cases hpg

def initSyC (t : Nat) (sh : List (Bool × Nat)) : Sy := ⟨(0, .p false [.own 0 0]) :: iSl sh 1 1, [(0, .cur 0 true t 0)], 1, 1, 1 + (sh.map (·.2)).sum, []⟩
theorem initC_rel (t : Nat) (x : DV) (cs : List DV) (rest : List (Bool × List DV)) : Rel (initSyC t (shA rest)) ([cvD t x cs] ++ flatA rest) [0] (initC t x cs rest) := by
  refine ⟨rfl, rfl, ?_, fun j y hx => ?_, fun i y hx => ?_, fun i b hb => by simp [initSyC, alook] at hb⟩
  · simp only [initSyC, sum_flatA, List.length_append, List.length_singleton]
  · simp only [initSyC, alook] at hx
    split at hx
    · rename_i e
      subst e
      injection hx with hx; subst hx
      exact ⟨rfl, ⟨rfl, rfl⟩, trivial⟩
    · rename_i e
      obtain ⟨b, ds, m, h1, h2, h3, h4⟩ := iSl_ok (pre := [cvD t x cs]) hx
      subst h3
      have hj : (initC t x cs rest).sl j = (initS ((true, []) :: rest)).sl j := by
        simp only [initC, AS.put, AS.push, upd_at]
        rw [if_neg (by omega)]
      rw [hj]
      have : ((true, []) :: rest)[j]? = rest[j - 1]? := by
        obtain ⟨q, rfl⟩ := Nat.exists_eq_succ_of_ne_zero (show j ≠ 0 by omega)
        simp
      simp only [initS, this, h2]
      exact ⟨rfl, RD.toC h4⟩
  · simp only [initSyC, alook] at hx
    split at hx
    · rename_i e
      subst e
      injection hx with hx; subst hx
      refine ⟨Nat.lt_succ_self _, ?_⟩
      have : (initC t x cs rest).ob 0 = .cur 0 true t x cs := by simp only [initC, AS.put, AS.push]; exact upd_same _ _ _
      rw [this]
      exact ⟨rfl, rfl, rfl, rfl⟩
    · cases hx
def toUPcf (P : Program) (f : FuncId) (fn : Func) (ow : OwK) (hs : List Hint) (dn : List (Nat × Nat × Bool × List Nat)) (t : Nat) : Option (List (Bool × Nat) × UP) :=
  match fn.body, fn.params.toList with
  | some c, _ :: ts => if callable P f && decide (ts.length + 1 ≤ fn.ntmps) then
      (match gen P fn.ntmps ow hs (drawP P fn.ntmps ow dn) c 0 (initSyC t (shL P ts)) (retKtC P t fn.results.toList (fn.resultTypes.toList.map (tcl P 9))) with
      | some pg => (match cv pg (1 + ((shL P ts).map (·.2)).sum) (psh (vars 0 (1 + ((shL P ts).map (·.2)).sum)) []) with | some up => some (shL P ts, up) | none => none)
      | none => none) else none
  | _, _ => none
/-- A CONTRACT OUT OF A PURE PROGRAM, the first argument a variable's address -/
theorem meets_upcf {ow : OwK} {hs : List Hint} {dn : List (Nat × Nat × Bool × List Nat)} {f : FuncId} {fn : Func} {t : Nat} {x : DV} {cs cs' : List DV} {rest : List (Bool × List DV)} {res : List Rs} {sh : List (Bool × Nat)} {up : UP}
    (hf : P.funcs[f]? = some fn) (hg : toUPcf P f fn ow hs dn t = some (sh, up)) (hsh : shA rest = sh) (hdp : ∀ r ∈ res, r.2.2 = true) (hw : V P (isC t res cs') up [] (psh (flatA ((false, [cvD t x cs]) :: rest)) [])) : MeetsC P f t x cs rest res cs' := by
  unfold toUPcf at hg
  split at hg
  · rename_i c T ts hc hp
    split at hg
    · rename_i hb
      rw [Bool.and_eq_true, decide_eq_true_eq] at hb
      split at hg
      · rename_i pg hp'
        split at hg
        · rename_i up' hu
          injection hg with hg; injection hg with e1 e2; subst e2
          have hlen : rest.length + 1 ≤ fn.ntmps := by
            have h1 := congrArg List.length (hsh.trans e1.symm)
            simp only [shA, shL, List.length_map] at h1
            rw [h1]; exact hb.2
          rw [e1, ← hsh] at hp' hu
          refine meetsC_awp hf hc hb.1 hlen hdp (gen_ok (L := []) drawP_ok c hp' rfl (initC_rel _ x cs rest) retKtC_ok ?_)
          rw [sum_flatA] at hu
          have hl : (flatA ((false, [cvD t x cs]) :: rest)).length = 1 + (flatA rest).length := by simp [flatA]; omega
          obtain ⟨a1, a2⟩ := Al.many (e := flatA ((false, [cvD t x cs]) :: rest)) (μ := []) (ρ := []) (ρ' := []) (fun p i h => by simp at h) (by simp)
          rw [hl] at a1 a2
          simp only [List.nil_append, List.length_nil] at a1 a2
          exact cv_ok pg hu (by rw [← hl]; rfl) a1 a2 hw
        · cases hg
      · cases hg
    · cases hg
  · cases hg

/-! ### a variable that is made -/
def dAll : List SC → Option (List Nat)
  | [] => some []
  | .d i :: r => (match dAll r with | some l => some (i :: l) | none => none)
  | _ :: _ => none
theorem dAll_ok : ∀ {cs : List SC} {xs : List Nat} {ys : List AC}, dAll cs = some xs → RCs ρ σ cs ys → ∃ ds : List DV, ys = ds.map .d ∧ gL ρ xs = some ds
  | [], xs, ys, h, hc => by
    simp only [dAll] at h; injection h with h; subst h
    cases ys with
    | nil => exact ⟨[], rfl, rfl⟩
    | cons => exact hc.elim
  | .d i :: r, xs, [], h, hc => hc.elim
  | .d i :: r, xs, y :: ys, h, hc => by
    simp only [dAll] at h
    split at h
    · rename_i l hl
      injection h with h; subst h
      obtain ⟨x, rfl, hx⟩ := rc_d hc.1
      obtain ⟨ds, rfl, hd⟩ := dAll_ok hl hc.2
      exact ⟨x :: ds, rfl, by simp only [gL, hx, hd]⟩
    · cases h
  | .nil :: r, xs, ys, h, hc => by simp [dAll] at h
  | .own _ _ :: r, xs, ys, h, hc => by simp [dAll] at h
  | .ptr _ _ _ :: r, xs, ys, h, hc => by simp [dAll] at h
  | .elt _ _ _ _ _ :: r, xs, ys, h, hc => by simp [dAll] at h
  | .rd _ :: r, xs, ys, h, hc => by simp [dAll] at h
  | .sub _ _ _ _ _ :: r, xs, ys, h, hc => by simp [dAll] at h
  | .emp :: r, xs, ys, h, hc => by simp [dAll] at h
def retKtN (P : Program) (t : TypeId) (rv : ResultVar) : Kt := fun _ e S =>
  match e with
  | .normal | .ret => (match sRv P S rv with
    | some (p, false, [.ptr i st 0], S1) => (match S1.own i st with
      | some (.var _ t' cs) => (match dAll cs with
        | some xs => if t' = t then some (nds (p.map .po) (.ret [(false, xs)])) else none
        | none => none)
      | _ => none)
    | _ => none)
  | _ => none
def isN (x : DV) (cs' : List DV) (vs : List (Bool × List DV)) : Prop := vs = [(false, x :: cs')]
theorem retKtN_ok {t : TypeId} {rv : ResultVar} {x : DV} {cs' : List DV} {L : Lbl} : KOk P (isN x cs') L ρ (retKN P rv t x cs') (retKtN P t rv) := by
  intro L' ρ1 hL hp e S pg hpg σ s hr hw
  have key : ∀ p i st S1 a t' cs xs, sRv P S rv = some (p, false, [.ptr i st 0], S1) → S1.own i st = some (.var a t' cs) → dAll cs = some xs → t' = t → pg = nds (p.map .po) (.ret [(false, xs)]) → ∃ i st, rvV P s rv = some (.p false [.ptr i st 0]) ∧ s.own? i st = some (.var st t (.d x :: cs'.map .d)) := by
    rintro p i st S1 a t' cs xs h1 h2 h3 rfl e
    subst e
    obtain ⟨ρ2, he, hw2, -⟩ := wn_po (w_nds hw)
    simp only [W] at hw2
    obtain ⟨vs, w1, rfl⟩ := hw2
    obtain ⟨ys, y1, y2, y3⟩ := sRv_ok h1 he hr
    match ys, y2 with
    | [y], y2 =>
      cases y <;> first | exact y2.1.elim | skip
      obtain ⟨⟨rfl, hst, rfl⟩, -⟩ := y2
      obtain ⟨o', k1, k2, -, -⟩ := y3.own h2 hst
      cases o' <;> first | exact k2.elim | skip
      obtain ⟨k5, rfl, k6⟩ := k2
      obtain rfl := own_stV k1 rfl
      obtain ⟨ds, rfl, hd⟩ := dAll_ok h3 k6
      simp only [gArgs, hd] at w1
      injection w1 with w1
      injection w1 with w1 _
      injection w1 with _ w1
      subst w1
      exact ⟨_, _, y1, k1⟩
  unfold retKtN at hpg
  split at hpg
  · split at hpg
    · split at hpg
      · split at hpg
        · split at hpg
          · injection hpg with hpg; exact key _ _ _ _ _ _ _ _ (by assumption) (by assumption) (by assumption) (by assumption) hpg.symm
          · cases hpg
        · cases hpg
      · cases hpg
    · cases hpg
  · split at hpg
    · split at hpg
      · split at hpg
        · split at hpg
          · injection hpg with hpg; exact key _ _ _ _ _ _ _ _ (by assumption) (by assumption) (by assumption) (by assumption) hpg.symm
          · cases hpg
        · cases hpg
      · cases hpg
    · cases hpg
  · cases hpg
def toUPnf (P : Program) (f : FuncId) (fn : Func) (ow : OwK) (hs : List Hint) (dn : List (Nat × Nat × Bool × List Nat)) (t : Nat) : Option (List (Bool × Nat) × UP) :=
  match fn.body, fn.results.toList with
  | some c, [rv] => if callable P f && decide (fn.params.toList.length ≤ fn.ntmps) then
      (match gen P fn.ntmps ow hs (drawP P fn.ntmps ow dn) c 0 (initSy (shP P fn)) (retKtN P t rv) with
      | some pg => (match cv pg (((shP P fn).map (·.2)).sum) (psh (vars 0 (((shP P fn).map (·.2)).sum)) []) with | some up => some (shP P fn, up) | none => none)
      | none => none) else none
  | _, _ => none
theorem meets_upnf {ow : OwK} {hs : List Hint} {dn : List (Nat × Nat × Bool × List Nat)} {f : FuncId} {fn : Func} {t : Nat} {x : DV} {cs' : List DV} {args : List (Bool × List DV)} {sh : List (Bool × Nat)} {up : UP}
    (hf : P.funcs[f]? = some fn) (hg : toUPnf P f fn ow hs dn t = some (sh, up)) (hsh : shA args = sh) (hfl : Flat cs') (hw : V P (isN x cs') up [] (psh (flatA args) [])) : MeetsN P f args t x cs' := by
  unfold toUPnf at hg
  split at hg
  · rename_i c rv hc hrv
    split at hg
    · rename_i hb
      rw [Bool.and_eq_true, decide_eq_true_eq] at hb
      split at hg
      · rename_i pg hp
        split at hg
        · rename_i up' hu
          injection hg with hg; injection hg with e1 e2; subst e2
          rw [e1, ← hsh] at hp hu
          have hlen : args.length ≤ fn.ntmps := by
            have h1 := congrArg List.length (hsh.trans e1.symm)
            simp only [shA, shP, List.length_map] at h1
            rw [h1]; exact hb.2
          refine meetsN_awp hf hc hb.1 hlen hrv hfl (gen_ok (L := []) drawP_ok c hp rfl (init_rel args) retKtN_ok ?_)
          rw [sum_flatA] at hu
          obtain ⟨a1, a2⟩ := Al.many (e := flatA args) (μ := []) (ρ := []) (ρ' := []) (fun p i h => by simp at h) (by simp)
          simp only [List.nil_append, List.length_nil] at a1 a2
          exact cv_ok pg hu rfl a1 a2 hw
        · cases hg
      · cases hg
    · cases hg
  · cases hg
end
end Go.Proofs.Ytgmpajfhjnojiaa
