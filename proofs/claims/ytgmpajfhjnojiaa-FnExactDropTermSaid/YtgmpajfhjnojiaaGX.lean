/- How a pure program is run by rewriting. No program here. -/
import Derived.Test.YtgmpajfhjnojiaaGW
namespace Go.Proofs.Ytgmpajfhjnojiaa
open Go.RowKit
set_option linter.unusedVariables false
set_option linter.unusedSimpArgs false

section
variable {P : Program} {R : List (Bool × List DV) → Prop} {k a b : UP} {L : Lbl} {ρ : List DV}

def Bd (P : Program) (R : List (Bool × List DV) → Prop) (k : UP) (L : Lbl) (ρ : List DV) : Option (List DV) → Prop
  | some out => V P R k L (psh out ρ)
  | none => False
def Cl (P : Program) (R : List (Bool × List DV) → Prop) (f : FuncId) (sh : Sh) (k : UP) (L : Lbl) (ρ : List DV) (x : Option (List (Bool × List DV))) : Prop :=
  ∃ ys res, x = some ys ∧ MeetsX P f ys res ∧ shOk sh res = true ∧ V P R k L (psh (flatR res) ρ)
def Br (P : Program) (R : List (Bool × List DV) → Prop) (a b : UP) (L : Lbl) (ρ : List DV) : Option DV → Prop
  | some (.sc (.bool c)) => (match c with | true => V P R a L ρ | false => V P R b L ρ)
  | _ => False
def Jp : Option (List DV → Prop) → Option (List DV) → Prop
  | some J, some vs => J vs
  | _, _ => False
def Rt (R : List (Bool × List DV) → Prop) : Option (List (Bool × List DV)) → Prop
  | some vs => R vs
  | none => False
def Sl (P : Program) (R : List (Bool × List DV) → Prop) (k : UP) (L : Lbl) : Option (List DV) → Prop
  | some vs => V P R k L vs
  | none => False
theorem v_po {o : PO} : V P R (.po o k) L ρ = Bd P R k L ρ (evalP ρ o) := by
  rw [V]; unfold Bd; split <;> simp_all
theorem bd_some {out : List DV} : Bd P R k L ρ (some out) = V P R k L (psh out ρ) := rfl
theorem v_cl {f : FuncId} {ar : List (Bool × List Nat)} {sh : Sh} : V P R (.cl f ar sh k) L ρ = Cl P R f sh k L ρ (gArgs ρ ar) := rfl
theorem v_ite {x : Nat} : V P R (.ite x a b) L ρ = Br P R a b L ρ (ρ[x]?) := by
  rw [V]; unfold Br; rfl
theorem br_true : Br P R a b L ρ (some (.sc (.bool true))) = V P R a L ρ := rfl
theorem br_false : Br P R a b L ρ (some (.sc (.bool false))) = V P R b L ρ := rfl
theorem br_dec {p : Prop} [Decidable p] : Br P R a b L ρ (some (.sc (.bool (decide p)))) = ((p → V P R a L ρ) ∧ (¬ p → V P R b L ρ)) := by
  by_cases h : p
  · simp [h, br_true]
  · simp [h, br_false]
theorem br_ndec {p : Prop} [Decidable p] : Br P R a b L ρ (some (.sc (.bool (!decide p)))) = ((p → V P R b L ρ) ∧ (¬ p → V P R a L ρ)) := by
  by_cases h : p
  · simp [h, br_false]
  · simp [h, br_true]
theorem br_bool {c : Bool} : Br P R a b L ρ (some (.sc (.bool c))) = ((c = true → V P R a L ρ) ∧ (c = false → V P R b L ρ)) := by
  cases c <;> simp [br_true, br_false]
theorem br_nbool {c : Bool} : Br P R a b L ρ (some (.sc (.bool (!c)))) = ((c = true → V P R b L ρ) ∧ (c = false → V P R a L ρ)) := by
  cases c <;> simp [br_true, br_false]
theorem br_if {p : Prop} [Decidable p] (h1 : p → V P R a L ρ) (h2 : ¬ p → V P R b L ρ) : Br P R a b L ρ (some (.sc (.bool (decide p)))) := by rw [br_dec]; exact ⟨h1, h2⟩
theorem br_ifn {p : Prop} [Decidable p] (h1 : p → V P R b L ρ) (h2 : ¬ p → V P R a L ρ) : Br P R a b L ρ (some (.sc (.bool (!decide p)))) := by rw [br_ndec]; exact ⟨h1, h2⟩
theorem br_b {c : Bool} (h1 : c = true → V P R a L ρ) (h2 : c = false → V P R b L ρ) : Br P R a b L ρ (some (.sc (.bool c))) := by rw [br_bool]; exact ⟨h1, h2⟩
theorem br_nb {c : Bool} (h1 : c = true → V P R b L ρ) (h2 : c = false → V P R a L ρ) : Br P R a b L ρ (some (.sc (.bool (!c)))) := by rw [br_nbool]; exact ⟨h1, h2⟩
theorem v_jump {l : Nat} {xs : List Nat} : V P R (.jump l xs) L ρ = Jp (L[l]?) (gL ρ xs) := by
  rw [V]
  cases h1 : L[l]? <;> cases h2 : gL ρ xs <;> simp [Jp]
theorem jp_some {J : List DV → Prop} {vs : List DV} : Jp (some J) (some vs) = J vs := rfl
theorem v_ret {xs : List (Bool × List Nat)} : V P R (.ret xs) L ρ = Rt R (gArgs ρ xs) := by
  rw [V]
  cases h : gArgs ρ xs <;> simp [Rt]
theorem rt_some {vs : List (Bool × List DV)} : Rt R (some vs) = R vs := rfl
theorem v_sel {xs : List Nat} : V P R (.sel xs k) L ρ = Sl P R k L (gL ρ xs) := by
  rw [V]; unfold Sl; split <;> simp_all
theorem sl_some {vs : List DV} : Sl P R k L (some vs) = V P R k L vs := rfl

theorem cl_ok {f : FuncId} {sh : Sh} {ys : List (Bool × List DV)} {res : List Rs} (hm : Meets P f ys res) (hs : shOk sh res = true) (hk : V P R k L (psh (flatR res) ρ)) : Cl P R f sh k L ρ (some ys) := ⟨ys, res, rfl, .n hm, hs, hk⟩
theorem cl_okC {f : FuncId} {t : TypeId} {x : DV} {cs cs' : List DV} {sh : Sh} {ys : List (Bool × List DV)} {res : List Rs} (hm : MeetsC P f t x cs ys res cs') (hs : shOk sh (res ++ [(false, [cvD t x cs'], true)]) = true) (hk : V P R k L (psh (flatR (res ++ [(false, [cvD t x cs'], true)])) ρ)) : Cl P R (f + 2000000) sh k L ρ (some ((false, [cvD t x cs]) :: ys)) := by rw [Nat.add_comm]; exact ⟨_, _, rfl, .c hm, hs, hk⟩
theorem cl_okN {f : FuncId} {t : TypeId} {x : DV} {cs' : List DV} {sh : Sh} {ys : List (Bool × List DV)} (hm : MeetsN P f ys t x cs') (hs : shOk sh [(false, [cvD t x cs'], true)] = true) (hk : V P R k L (psh [cvD t x cs'] ρ)) : Cl P R (f + 3000000) sh k L ρ (some ys) := by rw [Nat.add_comm]; exact ⟨_, _, rfl, .w hm, hs, hk⟩
theorem cl_okP {f : FuncId} {sh : Sh} {ys : List (Bool × List DV)} {res : List Rs} (hm : MeetsP P f ys res) (hs : shOk sh res = true) (hk : V P R k L (psh (flatR res) ρ)) : Cl P R (f + 1000000) sh k L ρ (some ys) := by rw [Nat.add_comm]; exact ⟨ys, res, rfl, .p hm, hs, hk⟩

def Mk (P : Program) (R : List (Bool × List DV) → Prop) (f : FuncId) (b : Bool) (xs : List (Nat × Nat)) (k : UP) (L : Lbl) (ρ : List DV) (x : Option (List DV)) (y : Option DV) : Prop :=
  ∃ ds ds' n n', x = some ds ∧ y = some (.sc (.int .i64 n)) ∧ Marks P f b ds n ds' n' ∧ mkEq xs ds ds' ∧ V P R k L (psh (ds' ++ [.sc (.int .i64 n')]) ρ)
theorem v_mk {f : FuncId} {b : Bool} {xs : List (Nat × Nat)} {j : Nat} : V P R (.mk f b xs j k) L ρ = Mk P R f b xs k L ρ (gL ρ (xs.map (·.1))) (ρ[j]?) := rfl
theorem mk_ok {f : FuncId} {b : Bool} {xs : List (Nat × Nat)} {ds ds' : List DV} {n n' : Int} (hm : Marks P f b ds n ds' n') (he : mkEq xs ds ds') (hk : V P R k L (psh (ds' ++ [.sc (.int .i64 n')]) ρ)) : Mk P R f b xs k L ρ (some ds) (some (.sc (.int .i64 n))) := ⟨ds, ds', n, n', rfl, rfl, hm, he, hk⟩
/-! ### labels -/
def LLe (L L' : Lbl) : Prop := ∀ (l : Nat) J, L[l]? = some J → ∃ J', L'[l]? = some J' ∧ ∀ vs, J vs → J' vs
theorem LLe.snoc {L L' : Lbl} {J J' : List DV → Prop} (h : LLe L L') (hl : L.length = L'.length) (hj : ∀ vs, J vs → J' vs) : LLe (L ++ [J]) (L' ++ [J']) := by
  intro l X hX
  rcases Nat.lt_or_ge l L.length with hlt | hge
  · rw [List.getElem?_append_left hlt] at hX
    obtain ⟨X', h1, h2⟩ := h l X hX
    exact ⟨X', by rw [List.getElem?_append_left (by omega)]; exact h1, h2⟩
  · have : l = L.length := by
      have := (List.getElem?_eq_some_iff.1 hX).1; simp at this; omega
    subst this
    simp at hX; subst hX
    exact ⟨J', by rw [hl]; simp, hj⟩
theorem v_mono : ∀ (up : UP) {L L' : Lbl} {ρ : List DV}, LLe L L' → L.length = L'.length → V P R up L ρ → V P R up L' ρ := by
  intro up
  induction up with
  | po o k ih => intro L L' ρ h hl hv; rw [v_po] at hv ⊢; cases he : evalP ρ o with
    | none => rw [he] at hv; exact hv
    | some out => rw [he] at hv; exact ih h hl hv
  | cl f ar sh k ih => intro L L' ρ h hl hv; obtain ⟨ys, res, h1, h2, h3, h4⟩ := hv; exact ⟨ys, res, h1, h2, h3, ih h hl h4⟩
  | mk f b xs j k ih => intro L L' ρ h hl hv; obtain ⟨ds, ds', n, n', h1, h2, h3, h4, h5⟩ := hv; exact ⟨ds, ds', n, n', h1, h2, h3, h4, ih h hl h5⟩
  | ite x a b iha ihb =>
    intro L L' ρ h hl hv
    simp only [V] at hv ⊢
    split at hv
    · rename_i c hc
      cases c with
      | true => exact iha h hl hv
      | false => exact ihb h hl hv
    · exact hv.elim
  | jump l xs => intro L L' ρ h hl hv; obtain ⟨J, vs, h1, h2, h3⟩ := hv; obtain ⟨J', h4, h5⟩ := h l J h1; exact ⟨J', vs, h4, h2, h5 vs h3⟩
  | join n rest k ihr ihk => intro L L' ρ h hl hv; obtain ⟨J, h1, h2⟩ := hv; exact ⟨J, fun vs a b => ihr h hl (h1 vs a b), ihk (h.snoc hl fun _ h => h) (by simp [hl]) h2⟩
  | loop xs body ih => intro L L' ρ h hl hv; obtain ⟨I, m, vs, h1, h2, h3⟩ := hv; exact ⟨I, m, vs, h1, h2, fun vs m a b => ih (h.snoc hl fun _ h => h) (by simp [hl]) (h3 vs m a b)⟩
  | ret xs => intro L L' ρ h hl hv; exact hv
  | sel xs k ih => intro L L' ρ h hl hv; rw [v_sel] at hv ⊢; cases he : gL ρ xs with
    | none => rw [he] at hv; exact hv
    | some out => rw [he] at hv; exact ih h hl hv

/-- A LOOP whose variables are an encoded state; 'I' holds at its head, 'm' falls -/
theorem lp {xs : List Nat} {body : UP} {α : Type} (enc : α → List DV) (I : α → Prop) (m : α → Nat) (a0 : α) (h0 : gL ρ xs = some (enc a0)) (hI : I a0)
    (hb : ∀ a, I a → V P R body (L ++ [fun vs' => ∃ a', vs' = enc a' ∧ I a' ∧ m a' < m a]) (psh (enc a) ρ)) : V P R (.loop xs body) L ρ := by
  refine ⟨fun vs n => ∃ a, vs = enc a ∧ I a ∧ n = m a, m a0, enc a0, h0, ⟨a0, rfl, hI, rfl⟩, ?_⟩
  rintro vs n _ ⟨a, rfl, hIa, rfl⟩
  have := hb a hIa
  refine v_mono body ?_ ?_ this
  · exact LLe.snoc (fun l J h => ⟨J, h, fun _ h => h⟩) rfl (fun vs' ⟨a', h1, h2, h3⟩ => ⟨m a', h3, a', h1, h2, rfl⟩)
  · simp
/-- a loop of rounds 0 .. n, the variables ahead of round i are 'st i' -/
theorem lp_n {xs : List Nat} {body : UP} (n : Nat) (st : Nat → List DV) (h0 : gL ρ xs = some (st 0))
    (hb : ∀ i, i ≤ n → V P R body (L ++ [fun vs' => vs' = st (i + 1) ∧ i < n]) (psh (st i) ρ)) : V P R (.loop xs body) L ρ := by
  refine lp st (· ≤ n) (n - ·) 0 h0 (Nat.zero_le _) fun i hi => ?_
  have := hb i hi
  refine v_mono body ?_ ?_ this
  · exact LLe.snoc (fun l J h => ⟨J, h, fun _ h => h⟩) rfl (fun vs' ⟨h1, h2⟩ => ⟨i + 1, h1, h2, by omega⟩)
  · simp
theorem jn {n : Nat} {rest : UP} (J : List DV → Prop) (hk : V P R k (L ++ [J]) ρ) (hr : ∀ vs, vs.length = n → J vs → V P R rest L (psh vs ρ)) : V P R (.join n rest k) L ρ := ⟨J, hr, hk⟩
theorem jn_eq {n : Nat} {rest : UP} (v : List DV) (hk : V P R k (L ++ [(· = v)]) ρ) (hr : V P R rest L (psh v ρ)) : V P R (.join n rest k) L ρ := ⟨(· = v), fun vs _ h => h ▸ hr, hk⟩
end

/-! ### operations -/
section
variable {ρ : List DV}
def eBin (op : BinOp) (b : Bool) : Option DV → Option DV → Option (List DV)
  | some (.sc x), some (.sc y) => sc1 (binG op b x y)
  | _, _ => none
theorem ev_k {v : Value} : evalP ρ (.k v) = if isSc v then some [.sc v] else none := rfl
theorem ev_e {t k : Nat} : evalP ρ (.e t k) = some [.sl t k []] := rfl
theorem ev_bin {op : BinOp} {b : Bool} {x y : Nat} : evalP ρ (.bin op b x y) = eBin op b ρ[x]? ρ[y]? := by
  simp only [evalP, eBin]; split <;> simp_all
variable {b : Bool} {k : IntKind} {x y : Int}
theorem e_add : eBin .add b (some (.sc (.int k x))) (some (.sc (.int k y))) = some [.sc (.int k (k.wrap (x + y)))] := by simp [eBin, binG, intF, sc1]
theorem e_sub : eBin .sub b (some (.sc (.int k x))) (some (.sc (.int k y))) = some [.sc (.int k (k.wrap (x - y)))] := by simp [eBin, binG, intF, sc1]
theorem e_mul : eBin .mul b (some (.sc (.int k x))) (some (.sc (.int k y))) = some [.sc (.int k (k.wrap (x * y)))] := by simp [eBin, binG, intF, sc1]
theorem e_quo (h : y ≠ 0) : eBin .quo b (some (.sc (.int k x))) (some (.sc (.int k y))) = some [.sc (.int k (k.wrap (x.tdiv y)))] := by simp [eBin, binG, intF, sc1, h]
theorem e_rem (h : y ≠ 0) : eBin .rem b (some (.sc (.int k x))) (some (.sc (.int k y))) = some [.sc (.int k (x.tmod y))] := by simp [eBin, binG, intF, sc1, h]
theorem e_eql : eBin .eql b (some (.sc (.int k x))) (some (.sc (.int k y))) = some [.sc (.bool (decide (x = y)))] := by simp [eBin, binG, intF, sc1]
theorem e_neq : eBin .neq b (some (.sc (.int k x))) (some (.sc (.int k y))) = some [.sc (.bool (!decide (x = y)))] := by simp [eBin, binG, intF, sc1]
theorem e_lss : eBin .lss b (some (.sc (.int k x))) (some (.sc (.int k y))) = some [.sc (.bool (decide (x < y)))] := by simp [eBin, binG, intF, sc1]
theorem e_leq : eBin .leq b (some (.sc (.int k x))) (some (.sc (.int k y))) = some [.sc (.bool (decide (x ≤ y)))] := by simp [eBin, binG, intF, sc1]
theorem e_gtr : eBin .gtr b (some (.sc (.int k x))) (some (.sc (.int k y))) = some [.sc (.bool (decide (y < x)))] := by simp [eBin, binG, intF, sc1]
theorem e_geq : eBin .geq b (some (.sc (.int k x))) (some (.sc (.int k y))) = some [.sc (.bool (decide (y ≤ x)))] := by simp [eBin, binG, intF, sc1]
variable {s t : ByteArray}
theorem e_cat (h : s.size + t.size ≤ maxLen) : eBin .add b (some (.sc (.string s))) (some (.sc (.string t))) = some [.sc (.string (s ++ t))] := by simp [eBin, binG, strF, sc1, h]
theorem e_seq : eBin .eql b (some (.sc (.string s))) (some (.sc (.string t))) = some [.sc (.bool (decide (s = t)))] := by simp [eBin, binG, strF, sc1]
theorem e_sne : eBin .neq b (some (.sc (.string s))) (some (.sc (.string t))) = some [.sc (.bool (!decide (s = t)))] := by simp [eBin, binG, strF, sc1]
theorem e_slt : eBin .lss b (some (.sc (.string s))) (some (.sc (.string t))) = some [.sc (.bool (Op.bytesLess s.toList t.toList))] := by simp [eBin, binG, strF, sc1]
theorem e_sgt : eBin .gtr b (some (.sc (.string s))) (some (.sc (.string t))) = some [.sc (.bool (!(Op.bytesLess s.toList t.toList || decide (s = t))))] := by simp [eBin, binG, strF, sc1]
variable {c d : Bool}
theorem e_beq : eBin .eql true (some (.sc (.bool c))) (some (.sc (.bool d))) = some [.sc (.bool (c == d))] := by simp [eBin, binG, sc1]
theorem e_bne : eBin .neq true (some (.sc (.bool c))) (some (.sc (.bool d))) = some [.sc (.bool (!(c == d)))] := by simp [eBin, binG, sc1]

def eUn (op : UnOp) : Option DV → Option (List DV)
  | some (.sc x) => sc1 (unF op x)
  | _ => none
theorem ev_un {op : UnOp} {x : Nat} : evalP ρ (.un op x) = eUn op ρ[x]? := by
  simp only [evalP, eUn]; split <;> simp_all
theorem e_neg : eUn .neg (some (.sc (.int k x))) = some [.sc (.int k (k.wrap (0 - x)))] := by simp [eUn, unF, sc1]
theorem e_not : eUn .not (some (.sc (.bool c))) = some [.sc (.bool (!c))] := by simp [eUn, unF, sc1]
theorem wrap_id {z : Int} (h : -9223372036854775808 ≤ z) (h2 : z ≤ 9223372036854775807) : IntKind.i64.wrap z = z := by
  simp only [IntKind.wrap, IntKind.bits, IntKind.signed]
  have e : z.bmod (2 ^ 64) = z := Int.bmod_eq_of_le (by omega) (by omega)
  first
    | simpa using e
    | (simp; omega)
end
end Go.Proofs.Ytgmpajfhjnojiaa

/- Operations on slices and strings, by rewriting; contracts. No program here. -/
namespace Go.Proofs.Ytgmpajfhjnojiaa
open Go.RowKit
set_option linter.unusedVariables false
set_option linter.unusedSimpArgs false

section
variable {ρ : List DV} {k t : Nat} {kd : IntKind} {z : Int} {es fs : List (List DV)}
def eIsI : Option DV → Option (List DV)
  | some (.sc (.int _ _)) => some []
  | _ => none
theorem ev_isI {x : Nat} : evalP ρ (.isI x) = eIsI ρ[x]? := by simp only [evalP, eIsI]; split <;> simp_all <;> rfl
theorem e_isI : eIsI (some (.sc (.int kd z))) = some [] := rfl
def eSc : Option DV → Option (List DV)
  | some d => if isScD d then some [] else none
  | none => none
theorem ev_sc {x : Nat} : evalP ρ (.sc x) = eSc ρ[x]? := by simp only [evalP, eSc]; split <;> simp_all <;> rfl
theorem e_scI : eSc (some (.sc (.int kd z))) = some [] := rfl
theorem e_scS {s : ByteArray} : eSc (some (.sc (.string s))) = some [] := rfl
theorem e_scB {b : Bool} : eSc (some (.sc (.bool b))) = some [] := rfl
theorem k_int {n : Int} : isSc (.int kd n) = true := rfl
theorem k_str {s : ByteArray} : isSc (.string s) = true := rfl
theorem k_bool {b : Bool} : isSc (.bool b) = true := rfl
def eFlat : Option DV → Option (List DV)
  | some (.sl _ _ es) => if es.flatten.all isScD then some [] else none
  | _ => none
theorem ev_flat {x : Nat} : evalP ρ (.flat x) = eFlat ρ[x]? := by simp only [evalP, eFlat]; split <;> simp_all <;> rfl
theorem e_flat (h : es.flatten.all isScD = true) : eFlat (some (.sl t k es)) = some [] := by simp only [eFlat, h, if_true]
theorem e_flat0 : eFlat (some (.sl t k [])) = some [] := rfl
theorem e_flat_map {α : Type} {e : α → List DV} {l : List α} (h : ∀ x, (e x).all isScD = true) : eFlat (some (.sl t k (l.map e))) = some [] := by
  refine e_flat (List.all_eq_true.2 fun d hd => ?_)
  obtain ⟨c, hc, hd⟩ := List.mem_flatten.1 hd
  obtain ⟨x, _, rfl⟩ := List.mem_map.1 hc
  exact List.all_eq_true.1 (h x) d hd
def eCvI (k : IntKind) : Option DV → Option (List DV)
  | some (.sc (.int _ n)) => some [.sc (.int k (k.wrap n))]
  | _ => none
theorem ev_cvI {k : IntKind} {x : Nat} : evalP ρ (.cvI k x) = eCvI k ρ[x]? := by simp only [evalP, eCvI]; split <;> simp_all <;> rfl
theorem e_cvI {k : IntKind} : eCvI k (some (.sc (.int kd z))) = some [.sc (.int k (k.wrap z))] := rfl
def eCvS : Option DV → Option (List DV)
  | some (.sc (.string s)) => some [.sc (.string s)]
  | _ => none
theorem ev_cvS {x : Nat} : evalP ρ (.cvS x) = eCvS ρ[x]? := by simp only [evalP, eCvS]; split <;> simp_all <;> rfl
theorem e_cvS {s : ByteArray} : eCvS (some (.sc (.string s))) = some [.sc (.string s)] := rfl
def eCvB : Option DV → Option (List DV)
  | some (.sl _ 1 es) => (match numsOf es with | some xs => some [.sc (.string (strOfNums xs))] | none => none)
  | _ => none
theorem ev_cvB {x : Nat} : evalP ρ (.cvB x) = eCvB ρ[x]? := by unfold evalP eCvB; rfl
theorem e_cvB {xs : List Int} (h : numsOf es = some xs) : eCvB (some (.sl t 1 es)) = some [.sc (.string (strOfNums xs))] := by simp only [eCvB, h]
def eLenS : Option DV → Option (List DV)
  | some (.sc (.string s)) => some [.sc (.int .i64 s.size)]
  | _ => none
theorem ev_lenS {x : Nat} : evalP ρ (.lenS x) = eLenS ρ[x]? := by simp only [evalP, eLenS]; split <;> simp_all <;> rfl
theorem e_lenS {s : ByteArray} : eLenS (some (.sc (.string s))) = some [.sc (.int .i64 s.size)] := rfl
def eLenL : Option DV → Option (List DV)
  | some (.sl _ _ es) => some [.sc (.int .i64 es.length)]
  | _ => none
theorem ev_lenL {x : Nat} : evalP ρ (.lenL x) = eLenL ρ[x]? := by simp only [evalP, eLenL]; split <;> simp_all <;> rfl
theorem e_lenL : eLenL (some (.sl t k es)) = some [.sc (.int .i64 es.length)] := rfl
def eChr : Option DV → Option DV → Option (List DV)
  | some (.sc (.string s)), some (.sc (.int _ z)) => if 0 ≤ z then (match s[z.toNat]? with | some u => some [.sc (.int .u8 u.toNat)] | none => none) else none
  | _, _ => none
theorem ev_chr {x i : Nat} : evalP ρ (.chr x i) = eChr ρ[x]? ρ[i]? := by simp only [evalP, eChr]; split <;> simp_all <;> rfl
theorem e_chr {s : ByteArray} {u : UInt8} (h : 0 ≤ z) (hu : s[z.toNat]? = some u) : eChr (some (.sc (.string s))) (some (.sc (.int kd z))) = some [.sc (.int .u8 u.toNat)] := by simp only [eChr, if_pos h, hu]
def byteAt (s : ByteArray) (i : Nat) : Nat := ((s[i]?).map UInt8.toNat).getD 0
theorem e_chr' {s : ByteArray} (h : 0 ≤ z) (hu : z < s.size) : eChr (some (.sc (.string s))) (some (.sc (.int kd z))) = some [.sc (.int .u8 (byteAt s z.toNat))] := by
  have hz : z.toNat < s.size := by omega
  rw [e_chr h (getElem?_pos s z.toNat hz)]
  unfold byteAt
  rw [getElem?_pos s z.toNat hz]; rfl
def eIdx (k : Nat) : Option DV → Option DV → Option (List DV)
  | some (.sl _ k' es), some (.sc (.int _ z)) => if k' = k ∧ 0 ≤ z then (match es[z.toNat]? with | some e => if e.length = k then some e else none | none => none) else none
  | _, _ => none
theorem ev_idx {x i : Nat} : evalP ρ (.idx k x i) = eIdx k ρ[x]? ρ[i]? := by simp only [evalP, eIdx]; split <;> simp_all <;> rfl
theorem e_idx {e : List DV} (h : 0 ≤ z) (he : es[z.toNat]? = some e) (hk : e.length = k) : eIdx k (some (.sl t k es)) (some (.sc (.int kd z))) = some e := by
  simp [eIdx, h, he, hk]
theorem e_idx_map {α : Type} [Inhabited α] {e : α → List DV} {l : List α} (hk : ∀ x, (e x).length = k) (h : 0 ≤ z) (h1 : z < l.length) : eIdx k (some (.sl t k (l.map e))) (some (.sc (.int kd z))) = some (e (l.getD z.toNat default)) := by
  have hz : z.toNat < l.length := by omega
  refine e_idx h ?_ (hk _)
  rw [List.getElem?_map, List.getElem?_eq_getElem hz, List.getD_eq_getElem?_getD, List.getElem?_eq_getElem hz]; rfl
def eChk (k : Nat) : Option DV → Option DV → Option (List DV)
  | some (.sl _ k' es), some (.sc (.int _ z)) => if k' = k ∧ 0 ≤ z ∧ z.toNat < es.length then some [] else none
  | _, _ => none
theorem ev_chk {x i : Nat} : evalP ρ (.chk k x i) = eChk k ρ[x]? ρ[i]? := by simp only [evalP, eChk]; split <;> simp_all <;> rfl
theorem e_chk (h : 0 ≤ z) (h1 : z < es.length) : eChk k (some (.sl t k es)) (some (.sc (.int kd z))) = some [] := by
  have : z.toNat < es.length := by omega
  simp [eChk, h, this]
theorem e_chk_map {α : Type} {e : α → List DV} {l : List α} (h : 0 ≤ z) (h1 : z < l.length) : eChk k (some (.sl t k (l.map e))) (some (.sc (.int kd z))) = some [] := e_chk h (by simpa using h1)
def eCutS : Option DV → Option (Option Int) → Option (Option Int) → Option (List DV)
  | some (.sc (.string s)), some l, some h => (match cutF l h s.size with | some (a, b) => some [.sc (.string (s.extract a b))] | none => none)
  | _, _, _ => none
theorem ev_cutS {x : Nat} {lo hi : Option Nat} : evalP ρ (.cutS x lo hi) = eCutS ρ[x]? (gIo ρ lo) (gIo ρ hi) := by simp only [evalP, eCutS]; split <;> simp_all <;> rfl
theorem e_cutS {s : ByteArray} {lo hi : Option Int} (h1 : 0 ≤ lo.getD 0) (h2 : lo.getD 0 ≤ hi.getD s.size) (h3 : hi.getD s.size ≤ s.size) : eCutS (some (.sc (.string s))) (some lo) (some hi) = some [.sc (.string (s.extract (lo.getD 0).toNat (hi.getD s.size).toNat))] := by
  simp [eCutS, cutF, h1, h2, h3]
def eCutL (k : Nat) : Option DV → Option (Option Int) → Option (Option Int) → Option (List DV)
  | some (.sl t k' es), some l, some h => if k' = k then (match cutF l h es.length with | some (a, b) => some [.sl t k ((es.drop a).take (b - a))] | none => none) else none
  | _, _, _ => none
theorem ev_cutL {x : Nat} {lo hi : Option Nat} : evalP ρ (.cutL k x lo hi) = eCutL k ρ[x]? (gIo ρ lo) (gIo ρ hi) := by simp only [evalP, eCutL]; split <;> simp_all <;> rfl
theorem e_cutL {lo hi : Option Int} (h1 : 0 ≤ lo.getD 0) (h2 : lo.getD 0 ≤ hi.getD es.length) (h3 : hi.getD es.length ≤ es.length) : eCutL k (some (.sl t k es)) (some lo) (some hi) = some [.sl t k ((es.drop (lo.getD 0).toNat).take ((hi.getD es.length).toNat - (lo.getD 0).toNat))] := by
  simp [eCutL, cutF, h1, h2, h3]
theorem e_cutL_map {α : Type} {e : α → List DV} {l : List α} {lo hi : Option Int} (h1 : 0 ≤ lo.getD 0) (h2 : lo.getD 0 ≤ hi.getD l.length) (h3 : hi.getD l.length ≤ l.length) :
    eCutL k (some (.sl t k (l.map e))) (some lo) (some hi) = some [.sl t k (((l.drop (lo.getD 0).toNat).take ((hi.getD l.length).toNat - (lo.getD 0).toNat)).map e)] := by
  rw [e_cutL h1 (by simpa using h2) (by simpa using h3)]
  simp [List.map_take, List.map_drop]
section
variable {α : Type} {e : α → List DV} {l : List α} {a b : Int} {s : ByteArray}
theorem e_cL (h1 : 0 ≤ a) (h2 : a ≤ b) (h3 : b ≤ l.length) : eCutL k (some (.sl t k (l.map e))) (some (some a)) (some (some b)) = some [.sl t k (((l.drop a.toNat).take (b.toNat - a.toNat)).map e)] := e_cutL_map h1 h2 h3
theorem e_cL1 (h1 : 0 ≤ a) (h2 : a ≤ l.length) : eCutL k (some (.sl t k (l.map e))) (some (some a)) (some none) = some [.sl t k ((l.drop a.toNat).map e)] := by
  rw [e_cutL_map (lo := some a) (hi := none) h1 h2 (by simp)]
  simp only [Option.getD_some, Option.getD_none, Int.toNat_natCast]
  rw [List.take_of_length_le (by simp)]
theorem e_cL2 (h1 : 0 ≤ b) (h2 : b ≤ l.length) : eCutL k (some (.sl t k (l.map e))) (some none) (some (some b)) = some [.sl t k ((l.take b.toNat).map e)] := by
  rw [e_cutL_map (lo := none) (hi := some b) (by simp) h1 h2]
  simp
theorem e_cS (h1 : 0 ≤ a) (h2 : a ≤ b) (h3 : b ≤ s.size) : eCutS (some (.sc (.string s))) (some (some a)) (some (some b)) = some [.sc (.string (s.extract a.toNat b.toNat))] := e_cutS h1 h2 h3
theorem e_cS1 (h1 : 0 ≤ a) (h2 : a ≤ s.size) : eCutS (some (.sc (.string s))) (some (some a)) (some none) = some [.sc (.string (s.extract a.toNat s.size))] := by
  rw [e_cutS (lo := some a) (hi := none) h1 h2 (by simp)]; simp
theorem e_cS2 (h1 : 0 ≤ b) (h2 : b ≤ s.size) : eCutS (some (.sc (.string s))) (some none) (some (some b)) = some [.sc (.string (s.extract 0 b.toNat))] := by
  rw [e_cutS (lo := none) (hi := some b) (by simp) h1 h2]; simp
end
def gIE : Option DV → Option Int
  | some (.sc (.int _ z)) => some z
  | _ => none
theorem gI_e {i : Nat} : gI ρ i = gIE ρ[i]? := by unfold gI gIE; rfl
theorem gIE_some : gIE (some (.sc (.int kd z))) = some z := rfl
theorem gIo_none : gIo ρ none = some none := rfl
theorem gIo_some {i : Nat} : gIo ρ (some i) = (gI ρ i).map some := rfl
def eApp (el k b : Nat) : Option DV → Option DV → Option (List DV)
  | some (.sl t1 k1 es), some (.sl _ k2 fs) => if t1 = el ∧ k1 = k ∧ k2 = k ∧ es.length + fs.length ≤ 9223372036854775807 ∧ (es.length + fs.length) * b ≤ 140737488355328 then some [.sl el k (es ++ fs)] else none
  | _, _ => none
theorem ev_app {el b x y : Nat} : evalP ρ (.app el k b x y) = eApp el k b ρ[x]? ρ[y]? := by simp only [evalP, eApp]; split <;> simp_all <;> rfl
theorem e_app {el b : Nat} (h : es.length + fs.length ≤ 1000000000000) (hb : b ≤ 140) : eApp el k b (some (.sl el k es)) (some (.sl t k fs)) = some [.sl el k (es ++ fs)] := by
  have h1 : (es.length + fs.length) * b ≤ 1000000000000 * 140 := Nat.mul_le_mul h hb
  have h2 : (es.length + fs.length) * b ≤ 140737488355328 := by omega
  have h3 : es.length + fs.length ≤ 9223372036854775807 := by omega
  simp [eApp, h2, h3]
theorem e_app1 {α : Type} {e : α → List DV} {l : List α} {el b : Nat} {x : List DV} (h : l.length ≤ 100000000000) (hb : b ≤ 140) : eApp el k b (some (.sl el k (l.map e))) (some (.sl t k [x])) = some [.sl el k (l.map e ++ [x])] := e_app (by simp; omega) hb
theorem e_appm {α : Type} {e : α → List DV} {l m : List α} {el b : Nat} (h : l.length ≤ 100000000000) (h' : m.length ≤ 100000000000) (hb : b ≤ 140) : eApp el k b (some (.sl el k (l.map e))) (some (.sl t k (m.map e))) = some [.sl el k ((l ++ m).map e)] := by
  rw [e_app (by simp; omega) hb, List.map_append]
theorem e_app0 {α : Type} {e : α → List DV} {m : List α} {el b : Nat} (h' : m.length ≤ 100000000000) (hb : b ≤ 140) : eApp el k b (some (.sl el k [])) (some (.sl t k (m.map e))) = some [.sl el k (m.map e)] := by
  rw [e_app (by simp; omega) hb]; rfl
theorem e_app01 {el b : Nat} {x : List DV} (hb : b ≤ 140) : eApp el k b (some (.sl el k [])) (some (.sl t k [x])) = some [.sl el k [x]] := by
  rw [e_app (by simp) hb]; rfl
def eMk (el k : Nat) : Option (List (List DV)) → Option (List DV)
  | some es => if es.all (fun e => e.length == k) then some [.sl el k es] else none
  | none => none
theorem ev_mk {el : Nat} {rows : List (List Nat)} : evalP ρ (.mk el k rows) = eMk el k (gLL ρ rows) := by simp only [evalP, eMk]; split <;> simp_all <;> rfl
theorem e_mk {el : Nat} (h : es.all (fun e => e.length == k) = true) : eMk el k (some es) = some [.sl el k es] := by simp only [eMk, h, if_true]
def eMake (el k b : Nat) (zz : List DV) : Option DV → Option (List DV)
  | some (.sc (.int .i64 n)) => if 0 ≤ n ∧ b * n.toNat ≤ 281474976710656 ∧ n.toNat ≤ 9223372036854775807 then some [.sl el k (List.replicate n.toNat zz)] else none
  | _ => none
theorem ev_make {el b n : Nat} {zz : List DV} : evalP ρ (.make el k b zz n) = eMake el k b zz ρ[n]? := by simp only [evalP, eMake]; split <;> simp_all <;> rfl
theorem e_make {el b : Nat} {zz : List DV} (h0 : 0 ≤ z) (h1 : z ≤ 1000000000000) (hb : b ≤ 140) : eMake el k b zz (some (.sc (.int .i64 z))) = some [.sl el k (List.replicate z.toNat zz)] := by
  have h2 : b * z.toNat ≤ 140 * 1000000000000 := Nat.mul_le_mul hb (by omega)
  have h3 : b * z.toNat ≤ 281474976710656 := by omega
  have h4 : z.toNat ≤ 9223372036854775807 := by omega
  simp [eMake, h0, h3, h4]
def eSet (k off : Nat) : Option DV → Option DV → Option (List DV) → Option (List DV)
  | some (.sl t k' es), some (.sc (.int _ z)), some ds => if k' = k ∧ 0 ≤ z ∧ off + ds.length ≤ k then (match es[z.toNat]? with | some e => some [.sl t k (es.set z.toNat (plug off ds e))] | none => none) else none
  | _, _, _ => none
theorem ev_set {x j off : Nat} {vs : List Nat} : evalP ρ (.set k x j off vs) = eSet k off ρ[x]? ρ[j]? (gL ρ vs) := by simp only [evalP, eSet]; split <;> simp_all <;> rfl
theorem e_set {off : Nat} {ds e : List DV} (h0 : 0 ≤ z) (hl : off + ds.length ≤ k) (he : es[z.toNat]? = some e) : eSet k off (some (.sl t k es)) (some (.sc (.int kd z))) (some ds) = some [.sl t k (es.set z.toNat (plug off ds e))] := by
  simp [eSet, h0, hl, he]
/-- a whole element -/
theorem e_set_map {α : Type} {e : α → List DV} {l : List α} {ds : List DV} (hk : ∀ x, (e x).length = k) (h0 : 0 ≤ z) (h1 : z < l.length) (hl : ds.length = k) :
    eSet k 0 (some (.sl t k (l.map e))) (some (.sc (.int kd z))) (some ds) = some [.sl t k ((l.map e).set z.toNat ds)] := by
  have hz : z.toNat < l.length := by omega
  rw [e_set h0 (by omega) (e := e l[z.toNat]) (by rw [List.getElem?_map, List.getElem?_eq_getElem hz]; rfl)]
  have : plug 0 ds (e l[z.toNat]) = ds := by
    unfold plug
    simp only [List.take_zero, List.nil_append, Nat.zero_add]
    rw [List.drop_of_length_le (by rw [hk, hl]; exact Nat.le_refl _), List.append_nil]
  rw [this]
def eMm (mx : Bool) : Option DV → Option DV → Option (List DV)
  | some (.sc (.int k a)), some (.sc (.int k' b)) => if k = k' then some [.sc (.int k (mmF mx a b))] else none
  | _, _ => none
theorem ev_mm {mx : Bool} {x y : Nat} : evalP ρ (.mm mx x y) = eMm mx ρ[x]? ρ[y]? := by simp only [evalP, eMm]; split <;> simp_all <;> rfl
theorem e_max {a b : Int} : eMm true (some (.sc (.int kd a))) (some (.sc (.int kd b))) = some [.sc (.int kd (max a b))] := by simp [eMm, mmF]
theorem e_min {a b : Int} : eMm false (some (.sc (.int kd a))) (some (.sc (.int kd b))) = some [.sc (.int kd (min a b))] := by simp [eMm, mmF]
def eEqS (neg : Bool) (ks : List Kd) : Option (List DV) → Option (List DV) → Option (List DV)
  | some ds, some es => (match eqKD ks ds es with | some b => some [.sc (.bool (if neg then !b else b))] | none => none)
  | _, _ => none
theorem ev_eqS {neg : Bool} {ks : List Kd} {xs ys : List Nat} : evalP ρ (.eqS neg ks xs ys) = eEqS neg ks (gL ρ xs) (gL ρ ys) := by simp only [evalP, eEqS]; split <;> simp_all <;> rfl
theorem e_eqS {ks : List Kd} {ds es : List DV} {b : Bool} (h : eqKD ks ds es = some b) : eEqS false ks (some ds) (some es) = some [.sc (.bool b)] := by simp [eEqS, h]
theorem e_neS {ks : List Kd} {ds es : List DV} {b : Bool} (h : eqKD ks ds es = some b) : eEqS true ks (some ds) (some es) = some [.sc (.bool (!b))] := by simp [eEqS, h]
/-! views of rows -/
def eCutI : Option DV → Option (Option Int) → Option (Option Int) → Option (List DV)
  | some (.sl _ _ es), some l, some h => (match cutF l h es.length with | some (a, b) => some [.sc (.int .i64 a), .sc (.int .i64 ((b - a : Nat) : Int))] | none => none)
  | _, _, _ => none
theorem ev_cutI {x : Nat} {lo hi : Option Nat} : evalP ρ (.cutI x lo hi) = eCutI ρ[x]? (gIo ρ lo) (gIo ρ hi) := by simp only [evalP, eCutI]; split <;> simp_all <;> rfl
theorem e_cI {a b : Int} (h1 : 0 ≤ a) (h2 : a ≤ b) (h3 : b ≤ es.length) : eCutI (some (.sl t k es)) (some (some a)) (some (some b)) = some [.sc (.int .i64 a), .sc (.int .i64 (b - a))] := by
  simp only [eCutI, cutF, Option.getD_some]
  rw [if_pos ⟨h1, h2, h3⟩]
  simp only [Option.some.injEq, List.cons.injEq, DV.sc.injEq, Value.int.injEq, true_and, and_true]
  omega
theorem e_cI1 {a : Int} (h1 : 0 ≤ a) (h2 : a ≤ es.length) : eCutI (some (.sl t k es)) (some (some a)) (some none) = some [.sc (.int .i64 a), .sc (.int .i64 (es.length - a))] := by
  simp only [eCutI, cutF, Option.getD_some, Option.getD_none]
  rw [if_pos ⟨h1, h2, Int.le_refl _⟩]
  simp only [Option.some.injEq, List.cons.injEq, DV.sc.injEq, Value.int.injEq, true_and, and_true]
  omega
theorem e_cI2 {b : Int} (h1 : 0 ≤ b) (h2 : b ≤ es.length) : eCutI (some (.sl t k es)) (some none) (some (some b)) = some [.sc (.int .i64 0), .sc (.int .i64 b)] := by
  simp only [eCutI, cutF, Option.getD_some, Option.getD_none]
  rw [if_pos ⟨Int.le_refl _, h1, h2⟩]
  simp only [Option.some.injEq, List.cons.injEq, DV.sc.injEq, Value.int.injEq, true_and, and_true]
  omega
def eCutJ : Option DV → Option DV → Option (Option Int) → Option (Option Int) → Option (List DV)
  | some (.sc (.int .i64 u)), some (.sc (.int .i64 v)), some l, some h => if 0 ≤ u ∧ 0 ≤ v then (match cutF l h v.toNat with | some (a, b) => some [.sc (.int .i64 ((u.toNat + a : Nat) : Int)), .sc (.int .i64 ((b - a : Nat) : Int))] | none => none) else none
  | _, _, _, _ => none
theorem ev_cutJ {x y : Nat} {lo hi : Option Nat} : evalP ρ (.cutJ x y lo hi) = eCutJ ρ[x]? ρ[y]? (gIo ρ lo) (gIo ρ hi) := by simp only [evalP, eCutJ]; split <;> simp_all <;> rfl
def eAtJ : Option DV → Option DV → Option DV → Option (List DV)
  | some (.sc (.int .i64 u)), some (.sc (.int .i64 v)), some (.sc (.int _ j)) => if 0 ≤ u ∧ 0 ≤ j ∧ j < v then some [.sc (.int .i64 (u + j))] else none
  | _, _, _ => none
theorem ev_atJ {x y i : Nat} : evalP ρ (.atJ x y i) = eAtJ ρ[x]? ρ[y]? ρ[i]? := by simp only [evalP, eAtJ]; split <;> simp_all <;> rfl
theorem e_atJ {u v j : Int} (h1 : 0 ≤ u) (h2 : 0 ≤ j) (h3 : j < v) : eAtJ (some (.sc (.int .i64 u))) (some (.sc (.int .i64 v))) (some (.sc (.int kd j))) = some [.sc (.int .i64 (u + j))] := by simp [eAtJ, h1, h2, h3]
def eViewD : Option DV → Option DV → Option DV → Option (List DV)
  | some (.sl t k es), some (.sc (.int .i64 u)), some (.sc (.int .i64 v)) => some [.sl t k ((es.drop u.toNat).take v.toNat)]
  | _, _, _ => none
theorem ev_viewD {x y i : Nat} : evalP ρ (.viewD x y i) = eViewD ρ[x]? ρ[y]? ρ[i]? := by simp only [evalP, eViewD]; split <;> simp_all <;> rfl
theorem e_viewD {u v : Int} : eViewD (some (.sl t k es)) (some (.sc (.int .i64 u))) (some (.sc (.int .i64 v))) = some [.sl t k ((es.drop u.toNat).take v.toNat)] := rfl
theorem e_viewM {α : Type} {e : α → List DV} {l : List α} {u v : Int} : eViewD (some (.sl t k (l.map e))) (some (.sc (.int .i64 u))) (some (.sc (.int .i64 v))) = some [.sl t k (((l.drop u.toNat).take v.toNat).map e)] := by
  rw [e_viewD, List.map_take, List.map_drop]
def eCutP : Option DV → Option DV → Option DV → Option (List DV)
  | some (.sl t k es), some (.sc (.int .i64 u)), some (.sc (.int .i64 v)) => if u = 0 ∧ v.toNat ≤ es.length then some [.sl t k (es.take v.toNat)] else none
  | _, _, _ => none
theorem ev_cutP {x y i : Nat} : evalP ρ (.cutP x y i) = eCutP ρ[x]? ρ[y]? ρ[i]? := by simp only [evalP, eCutP]; split <;> simp_all <;> rfl
theorem e_cutP {α : Type} {e : α → List DV} {l : List α} {v : Int} (h : v ≤ l.length) : eCutP (some (.sl t k (l.map e))) (some (.sc (.int .i64 0))) (some (.sc (.int .i64 v))) = some [.sl t k ((l.take v.toNat).map e)] := by
  have : v.toNat ≤ (l.map e).length := by rw [List.length_map]; omega
  simp only [eCutP, this, true_and, if_true, List.map_take]
def eEmpD : Option DV → Option (List DV)
  | some (.sl _ _ es) => some [.sc (.bool es.isEmpty)]
  | _ => none
theorem ev_emp {x : Nat} : evalP ρ (.emp x) = eEmpD ρ[x]? := by simp only [evalP, eEmpD]; split <;> simp_all <;> rfl
theorem e_emp {α : Type} {e : α → List DV} {l : List α} : eEmpD (some (.sl t k (l.map e))) = some [.sc (.bool l.isEmpty)] := by simp [eEmpD]
theorem e_emp' : eEmpD (some (.sl t k es)) = some [.sc (.bool es.isEmpty)] := rfl
def eUnc (n : Nat) : Option DV → Option (List DV)
  | some (.sl _ 0 [[x], cs]) => if cs.length + 1 = n then some (x :: cs) else none
  | _ => none
theorem ev_unc {z n : Nat} : evalP ρ (.unc z n) = eUnc n ρ[z]? := by simp only [evalP, eUnc]; split <;> simp_all <;> rfl
theorem e_unc {ty : Nat} {x : DV} {cs : List DV} : eUnc (cs.length + 1) (some (cvD ty x cs)) = some (x :: cs) := by simp [eUnc, cvD]
def eCuS (off : Nat) : Option DV → Option DV → Option (List DV)
  | some (.sl t 0 [[x], cs]), some (.sc u) => if isSc u = true ∧ 0 < off ∧ off - 1 < cs.length then some [.sl t 0 [[x], cs.set (off - 1) (.sc u)]] else none
  | _, _ => none
theorem ev_cuS {z off v : Nat} : evalP ρ (.cuS z off v) = eCuS off ρ[z]? ρ[v]? := by simp only [evalP, eCuS]; split <;> simp_all <;> rfl
theorem e_cuS {ty off : Nat} {x : DV} {cs : List DV} {u : Value} (h : isSc u = true) (ho : off < cs.length) : eCuS (off + 1) (some (cvD ty x cs)) (some (.sc u)) = some [cvD ty x (cs.set off (.sc u))] := by simp [eCuS, cvD, h, ho]
def eCpy (k : Nat) : Option DV → Option DV → Option DV → Option DV → Option DV → Option (List DV)
  | some (.sl t k' es), some (.sc (.int .i64 a)), some (.sc (.int .i64 m)), some (.sc (.int .i64 b)), some (.sc (.int .i64 m')) =>
    if k' = k ∧ es.flatten.all isScD = true then some [.sl t k (cpyL es a.toNat m.toNat b.toNat m'.toNat), .sc (.int .i64 ((min m'.toNat m.toNat : Nat) : Int))] else none
  | _, _, _, _, _ => none
theorem ev_cpy {k x lo n lo' n' : Nat} : evalP ρ (.cpy k x lo n lo' n') = eCpy k ρ[x]? ρ[lo]? ρ[n]? ρ[lo']? ρ[n']? := by simp only [evalP, eCpy]; split <;> simp_all <;> rfl
theorem cpyL_map {α β : Type} (e : α → β) (l : List α) (a m b m' : Nat) : (cpyL l a m b m').map e = cpyL (l.map e) a m b m' := by simp [cpyL, plug, List.map_take, List.map_drop]
theorem e_cpy {α : Type} {e : α → List DV} {l : List α} {a m b m' : Int} (hf : (l.map e).flatten.all isScD = true) : eCpy k (some (.sl t k (l.map e))) (some (.sc (.int .i64 a))) (some (.sc (.int .i64 m))) (some (.sc (.int .i64 b))) (some (.sc (.int .i64 m'))) = some [.sl t k ((cpyL l a.toNat m.toNat b.toNat m'.toNat).map e), .sc (.int .i64 ((min m'.toNat m.toNat : Nat) : Int))] := by
  rw [cpyL_map]; unfold eCpy; exact if_pos ⟨rfl, hf⟩
/-- an element moves in: the room behind the last one is taken -/
theorem cpyL_ins {α : Type} (l : List α) (x : α) {at_ : Nat} (h : at_ ≤ l.length) : (cpyL (l ++ [x]) (at_ + 1) (l.length - at_) at_ (l.length + 1 - at_)) = l.take at_ ++ ((l ++ [x]).getD at_ x :: l.drop at_) := by
  unfold cpyL plug
  have e1 : min (l.length + 1 - at_) (l.length - at_) = l.length - at_ := by omega
  rw [e1]
  have e2 : ((l ++ [x]).drop at_).take (l.length - at_) = l.drop at_ := by
    rw [List.drop_append_of_le_length h, List.take_append_of_le_length (by rw [List.length_drop]; omega), List.take_of_length_le (by rw [List.length_drop]; omega)]
  rw [e2]
  have e3 : (l ++ [x]).drop (at_ + 1 + (l.drop at_).length) = [] := List.drop_eq_nil_of_le (by rw [List.length_append, List.length_drop, List.length_singleton]; omega)
  rw [e3, List.append_nil]
  have e4 : (l ++ [x]).take (at_ + 1) = l.take at_ ++ [(l ++ [x]).getD at_ x] := by
    rw [List.take_add_one, List.take_append_of_le_length h, List.getD_eq_getElem?_getD, List.getElem?_eq_getElem (by rw [List.length_append, List.length_singleton]; omega)]
    rfl
  rw [e4, List.append_assoc]; rfl
theorem nat1 {n : Nat} : (n : Int) + 1 = ((n + 1 : Nat) : Int) := rfl
end

attribute [go_sem] v_po bd_some v_cl v_mk v_ite br_true br_false v_jump jp_some v_ret rt_some v_sel sl_some ev_k ev_e ev_bin
attribute [go_sem] e_add e_sub e_mul e_eql e_neq e_lss e_leq e_gtr e_geq e_seq e_sne e_slt e_sgt e_beq e_bne ev_un
attribute [go_sem] e_neg e_not wrap_id ev_isI e_isI ev_sc e_scI e_scS e_scB k_int k_str k_bool ev_flat e_flat0 ev_cvI e_cvI
attribute [go_sem] ev_cvS e_cvS ev_cvB ev_lenS e_lenS ev_lenL e_lenL ev_chr e_chr' ev_idx ev_chk e_chk_map ev_cutS e_cS e_cS1 e_cS2
attribute [go_sem] ev_cutL e_cL e_cL1 e_cL2 gI_e gIE_some gIo_none gIo_some ev_app e_app1 e_appm e_app0 e_app01 ev_mk eMk ev_make
attribute [go_sem] ev_cutI e_cI e_cI1 e_cI2 ev_atJ e_atJ ev_viewD e_viewM ev_cutP e_cutP ev_emp e_emp ev_unc ev_cuS ev_cpy
attribute [go_sem] e_make ev_set ev_eqS ev_mm e_max e_min e_cat e_quo e_rem psh flatA flatR gL gLL gArgs List.getElem?_cons_zero
attribute [go_sem] List.getElem?_cons_succ List.getElem?_nil List.map_cons List.map_nil List.length_map List.length_cons List.length_nil List.nil_append List.cons_append Option.map_some Option.getD_some Option.getD_none Int.toNat_natCast Int.natCast_zero if_true Bool.not_true
attribute [go_sem] Bool.not_false not_false_eq_true not_true_eq_false true_implies false_implies implies_true and_true true_and Nat.add_sub_cancel_left decide_true decide_false List.all_cons List.all_nil Bool.and_true beq_self_eq_true Bool.and_self
end Go.Proofs.Ytgmpajfhjnojiaa

