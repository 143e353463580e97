/- Lemmas for walks. No program here. -/
import Derived.Test.YtlcnokbhoekpkaaAeC
namespace Go.Proofs.Ytlcnokbhoekpkaa
open Go.RowKit
set_option linter.unusedVariables false
set_option linter.unusedSimpArgs false

theorem wrapN (n : Nat) (h : n ≤ 4611686018427387904) : IntKind.i64.wrap (n : Int) = n := by
  simp [IntKind.wrap, IntKind.bits, IntKind.signed]; omega
theorem wrapI (n : Int) (h : -9223372036854775808 ≤ n ∧ n ≤ 9223372036854775807) : IntKind.i64.wrap n = n := by
  simp [IntKind.wrap, IntKind.bits, IntKind.signed]; omega

section
variable {P : Program} {N : Nat} {s : AS} {o : Oper} {K : AS → Prop}

/-! ### indices -/
def ixE (k : Nat) : Option (TypeId × Nat) → Option (List DV) → Option AV
  | some (_, k'), some e => if k' = k then some (.p false [.rd e]) else none
  | _, _ => none
def ixO (id st j : Nat) : Option (TypeId × Nat) → Option Ob → Option AV
  | some (_, k'), some (.row _ _ k es _) => if k' = k ∧ j < es.length then some (.p false [.elt id st k j 0]) else none
  | some (_, k'), some (.arr _ _ k es) => if k' = k ∧ j < es.length then some (.p false [.elt id st k j 0]) else none
  | some (el, k'), some (.frz _ (.sl _ k es)) => ixE k (some (el, k')) es[j]?
  | _, _ => none
theorem idx_d {t t' k : Nat} {es : List (List DV)} {i : Int} (h0 : 0 ≤ i) : idxV P s t (.d (.sl t' k es)) i = ixE k (tel P t) es[i.toNat]? := by
  unfold idxV
  rw [if_pos h0]
  cases h1 : tel P t with
  | none => rfl
  | some p => cases h2 : es[i.toNat]? <;> simp [ixE, h2]
theorem idx_o {t id st : Nat} {i : Int} (h0 : 0 ≤ i) : idxV P s t (.own id st) i = ixO id st i.toNat (tel P t) (s.own? id st) := by
  unfold idxV
  rw [if_pos h0]
  cases h1 : tel P t with
  | none => rfl
  | some p =>
    cases h2 : s.own? id st with
    | none => simp [ixO, h2]
    | some ob =>
      cases ob with
      | frz st' x =>
        cases x with
        | sc v => simp [ixO, h2]
        | sl t' k es => cases h3 : es[i.toNat]? <;> simp [ixO, ixE, h2, h3]
      | _ => simp [ixO, h2]

/-! ### steps -/
theorem astep_call {f : FuncId} {args : Array Operand} {ts : Array TypeId} {ys : List (Bool × List DV)} {res : List Rs} (ho : o.op = .call ⟨.value (.func f), args, ts⟩) (hm : Meets P f ys res) (hr : res.all (·.2.2) = true) (hd : dB N o.dst = true) (har : argsRd s args.toList ys)
    (hk : K ((s.pushL (resO false res s.c)).put o.dst (resAV res s.n s.c))) : AStep P N o K s :=
  ⟨_, (h_call false ho hm (.inl ⟨har, fun r hx => by simpa using List.all_eq_true.1 hr r hx⟩)).toO (dB_ok hd), hk⟩
/-- .. the results as wholes -/
theorem astep_callX {f : FuncId} {args : Array Operand} {ts : Array TypeId} {ys : List (Bool × List DV)} {res : List Rs} (ho : o.op = .call ⟨.value (.func f), args, ts⟩) (hm : Meets P f ys res) (hr : res.all (·.2.2) = true) (hd : dB N o.dst = true) (har : argsRd s args.toList ys)
    (hk : K ((s.pushL (resO true res s.c)).put o.dst (resAV res s.n s.c))) : AStep P N o K s :=
  ⟨_, (h_call true ho hm (.inl ⟨har, fun r hx => by simpa using List.all_eq_true.1 hr r hx⟩)).toO (dB_ok hd), hk⟩
theorem astep_callA {f : FuncId} {args : Array Operand} {ts : Array TypeId} {ys : List (Bool × List DV)} {res : List Rs} (ho : o.op = .call ⟨.value (.func f), args, ts⟩) (hm : Meets P f ys res) (hd : dB N o.dst = true) (har : argsRdF s args.toList ys)
    (hk : K ((s.pushL (resO false res s.c)).put o.dst (resAV res s.n s.c))) : AStep P N o K s :=
  ⟨_, (h_call false ho hm (.inr har)).toO (dB_ok hd), hk⟩
theorem astep_make {t el : TypeId} {k n by_ : Nat} {x y : Operand} {zs : List Value} {ds : List DV} (ho : o.op = .makeSlice t x y) (hx : s.ev x = scAV (.int .i64 n)) (hy : s.ev y = scAV (.int .i64 n)) (ht : tel P t = some (el, k)) (hk : 0 < k)
    (hz : tzero P el = some zs) (hzl : zs.length = k) (hd : zDV zs = some ds) (hby : tby P el = some by_) (hn : by_ * n ≤ 281474976710656) (h63 : n ≤ 9223372036854775807) (hdst : dB N o.dst = true)
    (hK : K ((s.push (.row s.c el k (List.replicate n ds) true)).put o.dst (.p false [.own s.n s.c]))) : AStep P N o K s :=
  ⟨_, (h_make ho hx hy ht hk hz hzl hd hby hn h63).toO (dB_ok hdst), hK⟩
theorem astep_app {s' : AS} {X Y : Operand} {t el : TypeId} {k i st by_ : Nat} {es news : List (List DV)} {zs : List Value} {c : AC}
    (ho : o.op = .call ⟨.builtin .append, #[X, Y], #[t, t]⟩) (hd : dB N o.dst = true) (ht : tel P t = some (el, k)) (hz : tzero P el = some zs) (hzl : zs.length = k) (hby : tby P el = some by_)
    (hX : s.ev X = .p false [.own i st]) (hY : s.ev Y = .p false [c]) (hsrc : Src s s' k c news) (hi' : s'.own? i st = some (.row st el k es true))
    (h63 : es.length + news.length ≤ 9223372036854775807) (hbytes : (es.length + news.length) * by_ ≤ 140737488355328)
    (hk : K ({ s' with ob := upd s'.ob i (.row s'.c el k (es ++ news) true), c := s'.c + 1 }.put o.dst (.p false [.own i s'.c]))) : AStep P N o K s :=
  ⟨_, st_append ho (dB_ok hd) ht hz hzl hby hX hY hsrc hi' h63 hbytes, hk⟩
theorem astep_app_nil {s' : AS} {X Y : Operand} {t el : TypeId} {k by_ : Nat} {news : List (List DV)} {zs : List Value} {c : AC}
    (ho : o.op = .call ⟨.builtin .append, #[X, Y], #[t, t]⟩) (hd : dB N o.dst = true) (ht : tel P t = some (el, k)) (hz : tzero P el = some zs) (hzl : zs.length = k) (h0 : 0 < k) (hby : tby P el = some by_)
    (hX : s.ev X = .p false [.nil]) (hY : s.ev Y = .p false [c]) (hsrc : Src (s.push (.row s.c el k [] true)) s' k c news) (hi' : s'.own? s.n s.c = some (.row s.c el k [] true))
    (h63 : news.length ≤ 9223372036854775807) (hbytes : news.length * by_ ≤ 140737488355328)
    (hk : K ({ s' with ob := upd s'.ob s.n (.row s'.c el k news true), c := s'.c + 1 }.put o.dst (.p false [.own s.n s'.c]))) : AStep P N o K s :=
  ⟨_, st_append_nil ho (dB_ok hd) ht hz hzl h0 hby hX hY hsrc hi' h63 hbytes, hk⟩
theorem astep_row {t t' : TypeId} {x y : Operand} {i st k j off : Nat} {es : List (List DV)} {e ds : List DV} {xs : List AC} {s' : AS} (ho : o.op = .store t x y) (hd : o.dst = none) (hx : s.ev x = .p false [.elt i st k j off])
    (hi : s.own? i st = some (.row st t' k es true)) (he : es[j]? = some e) (hy : cellsOk s (s.ev y) = some xs) (hsz : tsz P t = some xs.length) (hl : off + xs.length ≤ k) (hgv : Gives s s' xs ds) (hi' : s'.own? i st = some (.row st t' k es true))
    (hk : K { s' with ob := upd s'.ob i (.row st t' k (es.set j (plug off ds e)) true) }) : AStep P N o K s :=
  ⟨_, st_row ho hd hx hi he hy hsz hl hgv hi', hk⟩

/-- the nil slice in a slot or a variable is an empty row of its own: a state in which the cell at slot t says so -/
theorem awp_nilrow {c : Code} {Q : Exit → AS → Prop} {el k t : Nat} (hk : 0 < k) (ht : s.sl t = .p false [.nil]) (h : AWp P N c Q { s.push (.row s.c el k [] true) with sl := upd s.sl t (.p false [.own s.n s.c]) }) : AWp P N c Q s := by
  intro w0 a w E hr
  have h1 := push_nil (el := el) hr hk
  refine h w0 a w _ ⟨h1.size, h1.defers, h1.bel, h1.obj, fun q => ?_, h1.A_lt, h1.A_m, h1.A_o, h1.mm, h1.oo, h1.m_lt, h1.anc⟩
  by_cases e : q = t
  · subst e
    simp only [upd_same]
    refine slot_one_mk ⟨by simp [AS.push], fun _ => ?_⟩
    have := hr.slot q
    rw [ht] at this
    obtain h2 : a.tmps.getD q undef = .slice none 0 0 := slot_one this
    simp only [upd_same]; exact h2
  · simp only [upd_ne _ _ e]; exact h1.slot q
/-- .. the cell number j of variable number i -/
theorem awp_nilcell {c : Code} {Q : Exit → AS → Prop} {el k i j st t : Nat} {cs : List AC} (hk : 0 < k) (hi : s.own? i st = some (.var st t cs)) (hj : cs[j]? = some .nil) (h : AWp P N c Q { s.push (.row s.c el k [] true) with ob := upd (upd s.ob s.n (.row s.c el k [] true)) i (.var st t (cs.set j (.own s.n s.c))) }) : AWp P N c Q s := by
  intro w0 a w E hr
  have h1 := push_nil (el := el) hr hk
  obtain ⟨hin, hob, hlv⟩ := own?_some hi
  have hne : i ≠ s.n := by omega
  have hlt : i < (s.push (.row s.c el k [] true)).n := by simp [AS.push]; omega
  have hO := h1.obj i hlt
  have hob' : (s.push (.row s.c el k [] true)).ob i = .var st t cs := by simp only [AS.push, upd_ne _ _ hne]; exact hob
  rw [hob'] at hO
  obtain ⟨g, vals, q0, q1, q2, q3, q4, q5, q6⟩ := hO
  have hlvs : AS.lv { s.push (.row s.c el k [] true) with ob := upd (upd s.ob s.n (.row s.c el k [] true)) i (.var st t (cs.set j (.own s.n s.c))) } = (s.push (.row s.c el k [] true)).lv := by
    funext q
    unfold AS.lv
    by_cases e : q = i
    · subst e; simp only [AS.push, upd_same, upd_ne _ _ hne, hob, Ob.st]
    · simp only [AS.push, upd_ne _ _ e]; rfl
  refine h w0 a w _ ⟨h1.size, h1.defers, h1.bel, fun q hq => ?_, fun q => ?_, h1.A_lt, h1.A_m, h1.A_o, h1.mm, h1.oo, h1.m_lt, h1.anc⟩
  · rw [hlvs]
    by_cases e : q = i
    · subst e
      simp only [upd_same]
      refine ⟨g, vals, q0, q1, q2, q3, q4, q5, by rw [List.length_set]; exact q6.1, fun m x u hx hu => ?_⟩
      rw [List.getElem?_set] at hx
      split at hx
      · rename_i hjm
        subst hjm
        split at hx
        · injection hx with hx; subst hx
          refine ⟨by simp [AS.push], fun _ => ?_⟩
          obtain h2 : u = .slice none 0 0 := q6.2 j _ u hj hu
          simp only [upd_same]; exact h2
        · cases hx
      · exact q6.2 m x u hx hu
    · simp only [upd_ne _ _ e]; exact h1.obj q hq
  · rw [hlvs]; exact h1.slot q
end
end Go.Proofs.Ytlcnokbhoekpkaa
