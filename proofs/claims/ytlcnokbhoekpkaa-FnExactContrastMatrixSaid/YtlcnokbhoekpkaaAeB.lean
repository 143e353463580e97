/- Codes and functions: a calculus over abstract states. No program here. -/
import Derived.Test.YtlcnokbhoekpkaaAeA
namespace Go.Proofs.Ytlcnokbhoekpkaa
open Go.RowKit
set_option linter.unusedVariables false
set_option linter.unusedSimpArgs false

def AQ (w0 : Cx) (N : Nat) (Q : Exit → AS → Prop) : Exit → Act → World → Prop := fun e a w => ∃ s E, Q e s ∧ RepE w0 N s a w E
/-- from every frame and world that the state speaks of, the code comes to an exit that Q takes -/
def AWp (P : Program) (N : Nat) (c : Code) (Q : Exit → AS → Prop) (s : AS) : Prop := ∀ w0 a w E, RepE w0 N s a w E → c.wp P (AQ w0 N Q) a w
def AOps (P : Program) (N : Nat) (ops : Array Oper) (l : List Oper) (Q : Exit → AS → Prop) (s : AS) : Prop := ∀ w0 a w E, RepE w0 N s a w E → wpList P ops (AQ w0 N Q) l a w

section
variable {P : Program} {N : Nat} {Q : Exit → AS → Prop} {s : AS} {o : Oper}

theorem Oper.wp_mono2 {a : Act} {w : World} {K K' : Act → World → Prop} {Q' : Exit → Act → World → Prop} (h : ∀ a w, K a w → K' a w) (hh : o.wp P a w K (fun _ _ _ => False)) : o.wp P a w K' Q' := by
  unfold Oper.wp at *
  generalize (execOp a.eval o).run P w = r at *
  cases r with
  | ok x w' =>
    cases x <;> simp only [Oper.upon] at hh ⊢
    case value v => exact h _ _ hh
    case skip => exact h _ _ hh
    case defer d => exact h _ _ hh
    case enter f args =>
      refine Calls.mono hh fun e w'' he => ?_
      cases e with
      | returned v => exact h _ _ he
      | panicked c => exact he.elim
      | outgrown => obtain ⟨_, _, h⟩ := he; exact h.elim
    case row row args => exact Rows.mono hh fun v w'' he => h _ _ he
  | halt x w' =>
    cases x <;> simp only [Oper.upon] at hh ⊢

theorem aops_nil {ops : Array Oper} (h : Q .normal s) : AOps P N ops [] Q s := fun w0 a w E hr => ⟨s, E, h, hr⟩
theorem aops_cons {ops : Array Oper} {rest : List Oper} {s' : AS} (hg : o.guard = none) (h : OStep P N o s s') (hk : AOps P N ops rest Q s') : AOps P N ops (o :: rest) Q s := by
  intro w0 a w E hr
  refine wpList_plain hg fun K hK => ?_
  exact Oper.wp_mono2 (fun a' w' ⟨E', h'⟩ => hK _ _ (hk w0 a' w' E' h')) (h w0 a w E hr)

/-- a guard: the slot of the operation that it looks at -/
def gslot (ops : Array Oper) (g : Nat) : Option Nat := (ops[g]?).bind (·.dst)
theorem yielded_ok {ops : Array Oper} {w0 : Cx} {w : World} {a : Act} {E : En} (h : RepE w0 N s a w E) {g t : Nat} {b : Bool} (hg : gslot ops g = some t) (hs : s.sl t = .p false [.d (.sc (.bool b))]) (ht : t < N) : yielded ops a.tmps g = some b := by
  have := h.slot t
  rw [hs] at this
  have := slot_sc this
  unfold yielded
  unfold gslot at hg
  rw [hg]
  have hz : t < a.tmps.size := by rw [h.size]; exact ht
  simp [hz] at this
  simp [hz, this]

theorem aops_guard_run {ops : Array Oper} {rest : List Oper} {s' : AS} {g t : Nat} {want : Bool} (hg : o.guard = some (g, want)) (hs : gslot ops g = some t) (hb : s.sl t = .p false [.d (.sc (.bool want))]) (ht : t < N) (h : OStep P N o s s') (hk : AOps P N ops rest Q s') : AOps P N ops (o :: rest) Q s := by
  intro w0 a w E hr
  unfold wpList
  have hy := yielded_ok hr hs hb ht
  rw [if_pos (by simp [Region.wanted, hg, hy])]
  exact .inl (Oper.wp_mono2 (fun a' w' ⟨E', h'⟩ => hk w0 a' w' E' h') (h w0 a w E hr))
theorem aops_guard_skip {ops : Array Oper} {rest : List Oper} {g t : Nat} {want b : Bool} (hg : o.guard = some (g, want)) (hs : gslot ops g = some t) (hb : s.sl t = .p false [.d (.sc (.bool b))]) (ht : t < N) (hne : b ≠ want) (hd : ∀ k, o.dst = some k → k < N) (hk : AOps P N ops rest Q (s.put o.dst (.tup []))) : AOps P N ops (o :: rest) Q s := by
  intro w0 a w E hr
  unfold wpList
  have hy := yielded_ok hr hs hb ht
  rw [if_neg (by simp [Region.wanted, hg, hy, hne])]
  exact hk w0 _ w E (hr.put ⟨[], rfl, rfl, fun j b cs u h _ => by simp at h⟩ hd)
/-- a guard that looks at an operation which was itself passed over -/
theorem aops_guard_skip2 {ops : Array Oper} {rest : List Oper} {g t : Nat} {want : Bool} (hg : o.guard = some (g, want)) (hs : gslot ops g = some t) (hb : s.sl t = .tup []) (ht : t < N) (hd : ∀ k, o.dst = some k → k < N) (hk : AOps P N ops rest Q (s.put o.dst (.tup []))) : AOps P N ops (o :: rest) Q s := by
  intro w0 a w E hr
  unfold wpList
  have hy : yielded ops a.tmps g = none := by
    have := hr.slot t
    rw [hb] at this
    obtain ⟨vs, h1, h2, -⟩ := this
    obtain rfl : vs = [] := List.length_eq_zero_iff.1 h2.symm
    unfold yielded
    unfold gslot at hs
    rw [hs]
    have hz : t < a.tmps.size := by rw [hr.size]; exact ht
    simp [hz] at h1
    simp [hz, h1]
  rw [if_neg (by simp [Region.wanted, hg, hy])]
  exact hk w0 _ w E (hr.put ⟨[], rfl, rfl, fun j b cs u h _ => by simp at h⟩ hd)

/-! ### codes -/
theorem awp_mono {c : Code} {Q' : Exit → AS → Prop} (h : AWp P N c Q s) (hq : ∀ e s, Q e s → Q' e s) : AWp P N c Q' s := fun w0 a w E hr => Code.wp_mono (fun e a w ⟨s, E, h1, h2⟩ => ⟨s, E, hq e s h1, h2⟩) (h w0 a w E hr)
end

def seqK (k : AS → Prop) (Q : Exit → AS → Prop) : Exit → AS → Prop
  | .normal, s => k s
  | e, s => Q e s
def blkK (id : Nat) (Q : Exit → AS → Prop) : Exit → AS → Prop
  | .exit id', s => if id' = id then Q .normal s else Q (.exit id') s
  | e, s => Q e s
def loopK (I : AS → Nat → Prop) (m : Nat) (Q : Exit → AS → Prop) : Exit → AS → Prop
  | .normal, s => ∃ k m', k ≤ s.n ∧ m' < m ∧ I { s with n := k } m'
  | e, s => Q e s

/-! ### the walk as a proposition -/
def kV (K : AS → Prop) (d : Option Nat) (s : AS) : Option AV → Prop
  | some x => K (s.put d x)
  | none => False
def kVar (K : AS → Prop) (d : Option Nat) (s : AS) (t : TypeId) : Option (List AC) → Prop
  | some cs => K ((s.push (.var s.c t cs)).put d (.p false [.ptr s.n s.c 0]))
  | none => False
def kAgg (K : AS → Prop) (d : Option Nat) (s : AS) : Option (List AC) → Prop
  | some cs => K (s.put d (.p true cs))
  | none => False
def kFill (P : Program) (K : AS → Prop) (d : Option Nat) (s : AS) (t : TypeId) (parts : List (Nat × Operand)) : Bool → Option (List AC) → Prop
  | true, some z => kAgg K d s (fillA P s t parts z)
  | _, _ => False
def kArr (K : AS → Prop) (d : Option Nat) (s : AS) (el k : Nat) : Option (List (List AC)) → Prop
  | some es => K ((s.push (.arr s.c el k es)).put d (.p false [.own s.n s.c]))
  | none => False
def kBs (P : Program) (K : AS → Prop) (d : Option Nat) (s : AS) (len : Nat) (parts : List (Nat × Operand)) : Option (TypeId × Nat) → Prop
  | some (el, k) => ((tzero P el).isSome = true ∧ 0 < k ∧ parts.length = len ∧ len * k ≤ 16777216) ∧ kArr K d s el k (bsF s k parts 0)
  | none => False
def kStV (P : Program) (K : AS → Prop) (s : AS) (t : TypeId) (i st off : Nat) : Option Ob → Option (List AC) → Prop
  | some (.var _ t' cs), some xs => (tsz P t = some xs.length ∧ off + xs.length ≤ cs.length) ∧ K { s with ob := upd s.ob i (.var st t' (plug off xs cs)) }
  | _, _ => False
/-- some operation's step (left to a lemma) -/
def AStep (P : Program) (N : Nat) (o : Oper) (K : AS → Prop) (s : AS) : Prop := ∃ s', OStep P N o s s' ∧ K s'
def kSt (P : Program) (N : Nat) (o : Oper) (K : AS → Prop) (s : AS) (t : TypeId) (y : Operand) : AV → Prop
  | .p false [.ptr i st off] => o.dst = none ∧ kStV P K s t i st off (s.own? i st) (cellsOk s (s.ev y))
  | _ => AStep P N o K s
def kCl (P : Program) (N : Nat) (o : Oper) (K : AS → Prop) (s : AS) (args : List Operand) (ts : List TypeId) : Callee → Prop
  | .builtin .len => kV K o.dst s (lenC P s (.builtin .len) args ts)
  | _ => AStep P N o K s
def awO (P : Program) (N : Nat) (o : Oper) (K : AS → Prop) (s : AS) : Op → Prop
  | .alloc t => kVar K o.dst s t (zeroAC P t)
  | .box t x => kVar K o.dst s t (cellsOk s (s.ev x))
  | .build t parts => kFill P K o.dst s t parts.toList (tpl P t) (zeroAC P t)
  | .buildSlice t len parts => kBs P K o.dst s len parts.toList (tel P t)
  | .store t x y => kSt P N o K s t y (s.ev x)
  | .call c => kCl P N o K s c.args.toList c.argTypes.toList c.callee
  | .makeSlice _ _ _ => AStep P N o K s
  | op => kV K o.dst s (hV P s op)
def dB (N : Nat) : Option Nat → Bool
  | some k => decide (k < N)
  | none => true
def kG (P : Program) (N : Nat) (o : Oper) (K : AS → Prop) (s : AS) (want : Bool) : AV → Prop
  | .p false [.d (.sc (.bool b))] => if b = want then awO P N o K s o.op else K (s.put o.dst (.tup []))
  | .tup [] => K (s.put o.dst (.tup []))
  | _ => False
def kGs (P : Program) (N : Nat) (o : Oper) (K : AS → Prop) (s : AS) (want : Bool) : Option Nat → Prop
  | some t => t < N ∧ kG P N o K s want (s.sl t)
  | none => False
def awG (P : Program) (N : Nat) (ops : Array Oper) (o : Oper) (K : AS → Prop) (s : AS) : Option (Nat × Bool) → Prop
  | none => awO P N o K s o.op
  | some (g, want) => kGs P N o K s want (gslot ops g)
def awL (P : Program) (N : Nat) (ops : Array Oper) : List Oper → (Exit → AS → Prop) → AS → Prop
  | [], Q, s => Q .normal s
  | o :: r, Q, s => dB N o.dst = true ∧ awG P N ops o (awL P N ops r Q) s o.guard
def kC (x y : AS → Prop) (s : AS) : AV → Prop
  | .p false [.d (.sc (.bool b))] => if b then x s else y s
  | _ => False
def aw (P : Program) (N : Nat) : Code → (Exit → AS → Prop) → AS → Prop
  | .skip, Q, s => Q .normal s
  | .exit id, Q, s => Q (.exit id) s
  | .ret, Q, s => Q .ret s
  | .seq x y, Q, s => aw P N x (seqK (aw P N y Q) Q) s
  | .block id x, Q, s => aw P N x (blkK id Q) s
  | .cond c x y, Q, s => kC (aw P N x Q) (aw P N y Q) s (s.ev c)
  | .region _ ops false, Q, s => awL P N ops ops.toList Q s
  | c, Q, s => AWp P N c Q s

section
variable {P : Program} {N : Nat} {Q : Exit → AS → Prop} {s : AS} {o : Oper}

theorem dB_ok {d : Option Nat} (h : dB N d = true) : ∀ k, d = some k → k < N := by
  rintro k rfl; simpa [dB] using h
theorem kV_ok {K : AS → Prop} {x : Option AV} (hd : dB N o.dst = true) (hx : ∀ y, x = some y → HStep P o s y []) (h : kV K o.dst s x) : AStep P N o K s := by
  cases x with
  | none => exact h.elim
  | some y => exact ⟨_, (hx y rfl).toO (dB_ok hd), h⟩

theorem awO_ok {K : AS → Prop} (hd : dB N o.dst = true) {op : Op} (ho : o.op = op) (h : awO P N o K s op) : AStep P N o K s := by
  unfold awO at h
  split at h
  · rename_i t
    unfold kVar at h
    split at h
    · rename_i cs hz; exact ⟨_, (h_alloc ho hz).toO (dB_ok hd), h⟩
    · exact h.elim
  · rename_i t x
    unfold kVar at h
    split at h
    · rename_i cs hz; exact ⟨_, (h_box ho hz).toO (dB_ok hd), h⟩
    · exact h.elim
  · rename_i t parts
    unfold kFill at h
    split at h
    · rename_i z h1 h2
      unfold kAgg at h
      split at h
      · rename_i cs h3; exact ⟨_, (h_build ho h1 h2 h3).toO (dB_ok hd), h⟩
      · exact h.elim
    · exact h.elim
  · rename_i t len parts
    unfold kBs at h
    split at h
    · rename_i el k ht
      obtain ⟨⟨h1, h2, h3, h4⟩, h⟩ := h
      unfold kArr at h
      split at h
      · rename_i es h5; exact ⟨_, (h_buildSlice ho ht h1 h2 h3 h4 h5).toO (dB_ok hd), h⟩
      · exact h.elim
    · exact h.elim
  · rename_i t x y
    unfold kSt at h
    split at h
    · rename_i i st off he
      obtain ⟨hdn, h⟩ := h
      unfold kStV at h
      split at h
      · rename_i st' t' cs xs h1 h2
        obtain ⟨⟨h3, h4⟩, h⟩ := h
        have hst : st' = st := by
          have := (own?_some h1).2
          have h5 := this.2
          unfold AS.lv at h5
          rw [if_pos (own?_some h1).1, this.1] at h5
          simpa [Ob.st] using h5
        subst hst
        exact ⟨_, st_var ho hdn he h1 h2 h3 h4, h⟩
      · exact h.elim
    · exact h
  · rename_i c
    unfold kCl at h
    split at h
    · rename_i hc
      refine kV_ok hd (fun y hy => hV_ok ?_) h
      rw [ho]
      show lenC P s c.callee c.args.toList c.argTypes.toList = some y
      rw [hc]; exact hy
    · exact h
  · exact h
  · exact kV_ok hd (fun y hy => hV_ok (by rw [ho]; exact hy)) h

theorem awL_ok {ops : Array Oper} : ∀ {l : List Oper} {s : AS}, awL P N ops l Q s → AOps P N ops l Q s
  | [], s, h => aops_nil h
  | o :: r, s, h => by
    obtain ⟨hd, h⟩ := h
    cases hg : o.guard with
    | none =>
      rw [hg] at h
      obtain ⟨s', h1, h2⟩ := awO_ok hd rfl h
      exact aops_cons hg h1 (awL_ok h2)
    | some gw =>
      obtain ⟨g, want⟩ := gw
      rw [hg] at h
      simp only [awG] at h
      unfold kGs at h
      split at h
      · rename_i t ht
        obtain ⟨htN, h⟩ := h
        unfold kG at h
        split at h
        · rename_i b hb
          split at h
          · rename_i hw; subst hw
            obtain ⟨s', h1, h2⟩ := awO_ok hd rfl h
            exact aops_guard_run hg ht hb htN h1 (awL_ok h2)
          · rename_i hw
            exact aops_guard_skip hg ht hb htN hw (dB_ok hd) (awL_ok h)
        · rename_i hb
          exact aops_guard_skip2 hg ht hb htN (dB_ok hd) (awL_ok h)
        · exact h.elim
      · exact h.elim

theorem aw_ok : ∀ {c : Code} {Q : Exit → AS → Prop} {s : AS}, aw P N c Q s → AWp P N c Q s := by
  intro c
  induction c with
  | skip => intro Q s h w0 a w E hr; exact wp_skip ⟨s, E, h, hr⟩
  | exit id => intro Q s h w0 a w E hr; exact wp_exit ⟨s, E, h, hr⟩
  | ret => intro Q s h w0 a w E hr; exact wp_ret ⟨s, E, h, hr⟩
  | seq x y ih1 ih2 =>
    intro Q s h w0 a w E hr
    refine wp_seq (Code.wp_mono (fun e a w he => ?_) (ih1 (show aw P N x (seqK (aw P N y Q) Q) s from h) w0 a w E hr))
    obtain ⟨s', E', h1, h2⟩ := he
    cases e with
    | normal => exact ih2 h1 w0 a w E' h2
    | _ => exact ⟨s', E', h1, h2⟩
  | block id x ih =>
    intro Q s h w0 a w E hr
    refine wp_block (Code.wp_mono (fun e a w he => ?_) (ih (show aw P N x (blkK id Q) s from h) w0 a w E hr))
    obtain ⟨s', E', h1, h2⟩ := he
    cases e with
    | exit id' =>
      simp only [blkK] at h1
      show (if id' = id then AQ w0 N Q .normal _ _ else AQ w0 N Q (.exit id') _ _)
      split
      · rename_i he; rw [if_pos he] at h1; exact ⟨s', E', h1, h2⟩
      · rename_i he; rw [if_neg he] at h1; exact ⟨s', E', h1, h2⟩
    | _ => exact ⟨s', E', h1, h2⟩
  | cond c x y ih1 ih2 =>
    intro Q s h w0 a w E hr
    have h : kC (aw P N x Q) (aw P N y Q) s (s.ev c) := h
    unfold kC at h
    split at h
    · rename_i b hb
      have := ev_ok hr c
      rw [hb] at this
      refine wp_cond_split (slot_sc this) (fun hb => ?_) (fun hb => ?_)
      · subst hb; exact ih1 h w0 a w E hr
      · subst hb; exact ih2 h w0 a w E hr
    · exact h.elim
  | region id ops draw =>
    intro Q s h
    cases draw with
    | false =>
      intro w0 a w E hr
      refine wp_region_list ?_
      exact awL_ok (show awL P N ops ops.toList Q s from h) w0 a w E hr
    | true => exact h
  | loop x ih => intro Q s h; exact h
  | rangeFunc => intro Q s h; exact h
  | scope => intro Q s h; exact h
  | label => intro Q s h; exact h
  | goto => intro Q s h; exact h
  | refuse => intro Q s h; exact h

/-- a loop: a relation with a number that falls -/
theorem awp_loop {c : Code} (I : AS → Nat → Prop) (m : Nat) (h0 : I s m) (round : ∀ s m, I s m → aw P N c (loopK I m Q) s) : AWp P N (.loop c) Q s := by
  intro w0 a w E hrep b k cs
  have key : ∀ m s a w E, I s m → RepE w0 N s a w E → ∃ e a' w', AQ w0 N Q e a' w' ∧ Arrives P (lone (b.at a (.code c :: .inLoop c :: k)) cs w) b k cs e a' w' := by
    intro m
    induction m using Nat.strongRecOn with
    | _ m ih =>
      intro s a w E hI hr
      obtain ⟨e, a₁, w₁, ⟨s1, E1, hq, hr1⟩, harr⟩ := aw_ok (round s m hI) w0 a w E hr b (.inLoop c :: k) cs
      cases e with
      | normal =>
        obtain ⟨kk, m', hk, hlt, hI'⟩ := hq
        obtain ⟨e₂, a₂, w₂, hq₂, harr₂⟩ := ih m' hlt _ a₁ w₁ E1 hI' (hr1.weaken (s' := { s1 with n := kk }) hk (Nat.le_refl _) (fun _ _ => .inl rfl) (fun _ => .inl rfl))
        exact ⟨e₂, a₂, w₂, hq₂, .of_steps (Steps.trans harr (.one step_inLoop)) harr₂⟩
      | exit id => exact ⟨_, a₁, w₁, ⟨s1, E1, hq, hr1⟩, .pass (x := .inLoop c) rfl (fun _ _ => .inl (by simp)) harr⟩
      | goto l => exact ⟨_, a₁, w₁, ⟨s1, E1, hq, hr1⟩, .pass (x := .inLoop c) rfl (fun _ _ => .inl (by simp)) harr⟩
      | ret => exact ⟨_, a₁, w₁, ⟨s1, E1, hq, hr1⟩, .pass (x := .inLoop c) rfl (fun _ _ => .inl (by simp)) harr⟩
      | panic ch => exact ⟨_, a₁, w₁, ⟨s1, E1, hq, hr1⟩, .pass (x := .inLoop c) rfl (fun _ _ => .inl (by simp)) harr⟩
      | outgrown => exact ⟨_, a₁, w₁, ⟨s1, E1, hq, hr1⟩, .pass (x := .inLoop c) rfl (fun _ _ => .inl (by simp)) harr⟩
  obtain ⟨e, a', w', hq, harr⟩ := key m s a w E h0 hrep
  exact ⟨e, a', w', hq, .of_steps (.one step_loop) harr⟩

/-! ### functions -/
def rvV (P : Program) (s : AS) : ResultVar → Option AV
  | .tmp t => some (s.sl t)
  | .cell t ty => ldA P s ty (s.sl t)
def rvP (f : List AC → Prop) (b : Bool) : Option AV → Prop
  | some (.p b' cs) => b' = b ∧ f cs
  | _ => False
/-- the results are owned by the caller -/
def RetDeep (P : Program) (s0 : AS) : List ResultVar → List Rs → AS → Prop
  | [], [], _ => True
  | rv :: rvs, (b, ds, dp) :: rs, s => dp = true ∧ rvP (fun cs => ∃ s', Gives s s' cs ds ∧ RetDeep P s0 rvs rs s') b (rvV P s0 rv)
  | _, _, _ => False
def RetRd (P : Program) (s : AS) : List ResultVar → List Rs → Prop
  | [], [] => True
  | rv :: rvs, (b, ds, dp) :: rs => dp = false ∧ rvP (fun cs => rdL s cs ds) b (rvV P s rv) ∧ RetRd P s rvs rs
  | _, _ => False
def retK (P : Program) (rvs : List ResultVar) (rs : List Rs) : Exit → AS → Prop
  | .normal, s => RetDeep P s rvs rs s ∨ RetRd P s rvs rs
  | .ret, s => RetDeep P s rvs rs s ∨ RetRd P s rvs rs
  | _, _ => False

def initS (args : List (Bool × List DV)) : AS := { sl := fun t => match args[t]? with | some (b, ds) => .p b (ds.map .d) | none => .und, ob := fun _ => .dead, n := 0, c := 0 }
end
end Go.Proofs.Ytlcnokbhoekpkaa
