/- Regions that draw their order: the walk. No program here. -/
import Derived.Test.YtlcnokbhoekpkaaAeI
namespace Go.Proofs.Ytlcnokbhoekpkaa
open Go.RowKit
set_option linter.unusedVariables false
set_option linter.unusedSimpArgs false

theorem finV_p (b : Bool) (cs : List AC) : finV false (.p b cs) = if cs.all solidC then .p b cs else .und := rfl
theorem finV_t (xs : List (Bool × List AC)) : finV false (.tup xs) = .und := rfl
theorem finV_u : finV false .und = .und := rfl
theorem finV_true (x : AV) : finV true x = x := rfl

theorem mkOb_f (c t k : Nat) (es : List (List DV)) : mkOb false c t k es = .row c t k es true := rfl
theorem mkOb_t (c t k : Nat) (es : List (List DV)) : mkOb true c t k es = .dx c (.sl t k es) := rfl
def dS (N : Nat) : Option Nat → Bool
  | some d => decide (d < N)
  | none => false
def hkV (K : AS → AS → Prop) (pr : Bool) (d : Option Nat) (h q : AS) : Option AV → Prop
  | some y => K (h.put d y) (q.put d (finV pr y))
  | none => False
/-- an operation of the head that is left to a lemma -/
def HC (P : Program) (pr : Bool) (o : Oper) (K : AS → AS → Prop) (h q : AS) : Prop := ∃ kd x q', HRun P pr h q o kd x q' ∧ K (h.put o.dst x) q'
def hkArr (K : AS → AS → Prop) (d : Option Nat) (h q : AS) (el k : Nat) : Option (List (List AC)) → Option (List (List AC)) → Prop
  | some es, some esq => K (h.put d (bView el k es)) ((q.push (.arr q.c el k esq)).put d (.p false [.own q.n q.c]))
  | _, _ => False
def hkBs (P : Program) (K : AS → AS → Prop) (pr : Bool) (d : Option Nat) (h q : AS) (len : Nat) (parts : List (Nat × Operand)) : Option (TypeId × Nat) → Prop
  | some (el, k) => (pr = false ∧ (tzero P el).isSome = true ∧ 0 < k ∧ parts.length = len ∧ len * k ≤ 16777216) ∧ hkArr K d h q el k (bsF h k parts 0) (bsF q k parts 0)
  | none => False
def hkCl (P : Program) (pr : Bool) (o : Oper) (K : AS → AS → Prop) (h q : AS) (args : List Operand) (ts : List TypeId) : Callee → Prop
  | .builtin .len => hkV K pr o.dst h q (lenC P h (.builtin .len) args ts)
  | _ => HC P pr o K h q
def hdO (P : Program) (pr : Bool) (o : Oper) (K : AS → AS → Prop) (h q : AS) : Op → Prop
  | .call c => hkCl P pr o K h q c.args.toList c.argTypes.toList c.callee
  | .buildSlice t len parts => hkBs P K pr o.dst h q len parts.toList (tel P t)
  | .build t parts => hkV K pr o.dst h q (hVb P h (.build t parts))
  | op => hkV K pr o.dst h q (hV P h op)
def hkG (P : Program) (pr : Bool) (o : Oper) (K : AS → AS → Prop) (h q : AS) (want : Bool) : AV → Prop
  | .p false [.d (.sc (.bool b))] => if b = want then hdO P pr o K h q o.op else K (h.put o.dst .und) (q.put o.dst .und)
  | _ => False
def hkGs (P : Program) (N : Nat) (pr : Bool) (o : Oper) (K : AS → AS → Prop) (h q : AS) (want : Bool) : Option Nat → Prop
  | some t => t < N ∧ hkG P pr o K h q want (h.sl t)
  | none => False
def hdG (P : Program) (N : Nat) (pr : Bool) (ops : Array Oper) (o : Oper) (K : AS → AS → Prop) (h q : AS) : Option (Nat × Bool) → Prop
  | none => hdO P pr o K h q o.op
  | some (g, want) => hkGs P N pr o K h q want (gslot ops g)
def hdL (P : Program) (N : Nat) (pr : Bool) (ops : Array Oper) : List Oper → (AS → Prop) → AS → AS → Prop
  | [], K, h, q => K q
  | o :: r, K, h, q => dS N o.dst = true ∧ hdG P N pr ops o (hdL P N pr ops r K) h q o.guard

section
variable {P : Program} {N : Nat} {pr : Bool} {s h q : AS} {o : Oper} {K : AS → AS → Prop} {ops : Array Oper}

theorem hkV_ok {x : Option AV} (hx : ∀ y, x = some y → hVb P h o.op = some y) (hk : hkV K pr o.dst h q x) : HC P pr o K h q := by
  cases x with
  | none => exact hk.elim
  | some y => exact ⟨_, _, _, .inl ⟨y, hx y rfl, rfl, rfl, rfl⟩, hk⟩
theorem hdO_ok {op : Op} (ho : o.op = op) (hk : hdO P pr o K h q op) : HC P pr o K h q := by
  unfold hdO at hk
  split at hk
  · rename_i c
    unfold hkCl at hk
    split at hk
    · rename_i hc
      refine hkV_ok (fun y hy => ?_) hk
      rw [ho]
      show lenC P h c.callee c.args.toList c.argTypes.toList = some y
      rw [hc]; exact hy
    · exact hk
  · rename_i t len parts
    unfold hkBs at hk
    split at hk
    · rename_i el k ht
      obtain ⟨⟨h0, h1, h2, h3, h4⟩, hk⟩ := hk
      unfold hkArr at hk
      split at hk
      · rename_i es esq h5 h6
        exact ⟨_, _, _, .inr (.inr ⟨t, len, parts, el, k, es, esq, ho, h0, ht, h1, h2, h3, h4, h5, h6, rfl, rfl, rfl⟩), hk⟩
      · exact hk.elim
    · exact hk.elim
  · exact hkV_ok (fun y hy => by rw [ho]; exact hy) hk
  · rename_i h1 h2 h3
    refine hkV_ok (fun y hy => ?_) hk
    rw [ho]
    unfold hVb
    split
    · rename_i t parts; exact absurd rfl (h3 t parts)
    · exact hy

theorem hdL_ok : ∀ {l : List Oper} {K : AS → Prop} {h q : AS}, hdL P N pr ops l K h q → ∃ kds xs qF, Heads P N pr ops l h q kds xs qF ∧ K qF
  | [], K, h, q, hk => ⟨[], [], q, rfl, hk⟩
  | o :: r, K, h, q, hk => by
    obtain ⟨hd, hk⟩ := hk
    have hd' : ∃ d, o.dst = some d ∧ d < N := by
      cases hdd : o.dst with
      | none => rw [hdd] at hd; simp [dS] at hd
      | some d => rw [hdd] at hd; exact ⟨d, rfl, by simpa [dS] using hd⟩
    cases hg : o.guard with
    | none =>
      rw [hg] at hk
      obtain ⟨kd, x, q1, h1, h2⟩ := hdO_ok rfl hk
      obtain ⟨kds, xs, qF, h3, h4⟩ := hdL_ok h2
      exact ⟨kd :: kds, x :: xs, qF, ⟨hd', q1, by rw [hg]; exact h1, h3⟩, h4⟩
    | some gw =>
      obtain ⟨g, want⟩ := gw
      rw [hg] at hk
      simp only [hdG] at hk
      unfold hkGs at hk
      split at hk
      · rename_i t ht
        obtain ⟨htN, hk⟩ := hk
        unfold hkG at hk
        split at hk
        · rename_i b hb
          split at hk
          · rename_i hw
            obtain ⟨kd, x, q1, h1, h2⟩ := hdO_ok rfl hk
            obtain ⟨kds, xs, qF, h3, h4⟩ := hdL_ok h2
            exact ⟨kd :: kds, x :: xs, qF, ⟨hd', q1, by rw [hg]; exact ⟨t, b, ht, htN, hb, by rw [if_pos hw]; exact h1⟩, h3⟩, h4⟩
          · rename_i hw
            obtain ⟨kds, xs, qF, h3, h4⟩ := hdL_ok hk
            exact ⟨.v .und :: kds, .und :: xs, qF, ⟨hd', _, by rw [hg]; exact ⟨t, b, ht, htN, hb, by rw [if_neg hw]; exact ⟨rfl, rfl, rfl⟩⟩, h3⟩, h4⟩
        · exact hk.elim
      · exact hk.elim

theorem hcall {f : FuncId} {args : Array Operand} {ts : Array TypeId} {ys : List (Bool × List DV)} {res : List Rs} (ho : o.op = .call ⟨.value (.func f), args, ts⟩) (hm : Meets P f ys res) (hr : res.all (·.2.2) = true) (har : argsRd h args.toList ys) (hpr : pr = true → resO false res 0 = [])
    (hk : K (h.put o.dst (hvRes res)) ((q.pushL (resO false res q.c)).put o.dst (resAV res q.n q.c))) : HC P pr o K h q :=
  ⟨_, _, _, .inr (.inl ⟨f, args, ts, ys, res, ho, hm, har, hr, hpr, rfl, rfl, rfl⟩), hk⟩

theorem awp_drawn {id n : Nat} {l : List Oper} {Q : Exit → AS → Prop} (pr : Bool) (hm : P.follows .mixedOrders = true) (hB : drawB l n = true) (hk : hdL P N pr l.toArray (l.take n) (awL P N l.toArray (l.drop n) Q) s s) : AWp P N (.region id l.toArray true) Q s := by
  obtain ⟨kds, xs, qF, h1, h2⟩ := hdL_ok hk
  exact awp_draw n pr hm hB h1 (awL_ok h2)
end
attribute [go_sem] aw.eq_1 aw.eq_2 aw.eq_3 aw.eq_4 aw.eq_5 aw.eq_6 aw.eq_7 aw.eq_8 awL.eq_1 awL.eq_2 awG.eq_1 awG.eq_2
attribute [go_sem] awO.eq_1 awO.eq_2 awO.eq_3 awO.eq_4 awO.eq_5 awO.eq_6 awO.eq_7 awO.eq_8 kV.eq_1 kV.eq_2 kVar.eq_1 kVar.eq_2
attribute [go_sem] kAgg.eq_1 kAgg.eq_2 kFill.eq_1 kFill.eq_2 kArr.eq_1 kArr.eq_2 kBs.eq_1 kBs.eq_2 kStV.eq_1 kStV.eq_2 kSt.eq_1 kSt.eq_2
attribute [go_sem] kCl.eq_1 kCl.eq_2 kG.eq_1 kG.eq_2 kGs.eq_1 kGs.eq_2 kC.eq_1 kC.eq_2 seqK.eq_1 seqK.eq_2 blkK.eq_1 blkK.eq_2
attribute [go_sem] dB.eq_1 dB.eq_2 hV.eq_1 hV.eq_2 hV.eq_3 hV.eq_4 hV.eq_5 hV.eq_6 hV.eq_7 hV.eq_8 hV.eq_9 hV.eq_10
attribute [go_sem] hV.eq_11 hV.eq_12 hV.eq_13 hV.eq_14 hV.eq_15 pkV.eq_1 pkV.eq_2 ldA.eq_1 ldA.eq_2 ldA.eq_3 ldA.eq_4 ldV.eq_1 ldV.eq_2 faV.eq_1 fvV.eq_1
attribute [go_sem] fvV.eq_2 fvV.eq_3 binV.eq_1 binV.eq_2 binF.eq_1 binF.eq_2 binF.eq_3 binF.eq_4 binF.eq_5 binF.eq_6 intF.eq_1 intF.eq_2
attribute [go_sem] intF.eq_3 intF.eq_4 intF.eq_5 intF.eq_6 intF.eq_7 intF.eq_8 intF.eq_9 intF.eq_10 intF.eq_11 intF.eq_12 intF.eq_13 intF.eq_14
attribute [go_sem] intF.eq_15 intF.eq_16 intF.eq_17 strF.eq_1 strF.eq_2 strF.eq_3 strF.eq_4 strF.eq_5 strF.eq_6 strF.eq_7 strF.eq_8 unV.eq_1
attribute [go_sem] unV.eq_2 unF.eq_1 unF.eq_2 unF.eq_3 cvV.eq_1 cvV.eq_2 cvF.eq_1 cvF.eq_2 cvF.eq_3 chV.eq_1 chV.eq_2 xtV.eq_1
attribute [go_sem] xtV.eq_2 lenC.eq_1 lenC.eq_2 lenV.eq_1 lenV.eq_2 lenV.eq_3 lenV.eq_4 lenV.eq_5 slcV.eq_1 slcV.eq_2 slcV.eq_3 cutF.eq_1
attribute [go_sem] AS.evI.eq_1 AS.evI.eq_2 AS.ev.eq_1 AS.ev.eq_2 AS.ev.eq_3 cAV.eq_1 cAC.eq_1 cAC.eq_2 cAC.eq_3 cAC.eq_4 cAC.eq_5 AS.own?.eq_1
attribute [go_sem] AS.put.eq_1 AS.put.eq_2 AS.pushL.eq_1 AS.pushL.eq_2 cellsOk.eq_1 cellsOk.eq_2 cellsOk.eq_3 okC.eq_1 okC.eq_2 okC.eq_3 okC.eq_4 okC.eq_5
attribute [go_sem] okC.eq_6 fillA.eq_1 fillA.eq_2 bsF.eq_1 bsF.eq_2 Ob.st.eq_1 Ob.st.eq_2 Ob.st.eq_3 Ob.st.eq_4 Ob.st.eq_5 Ob.st.eq_6 rvV.eq_1 rvV.eq_2
attribute [go_sem] rvP.eq_1 rvP.eq_2 RetDeep.eq_1 RetDeep.eq_2 RetDeep.eq_3 RetRd.eq_1 RetRd.eq_2 RetRd.eq_3 retK.eq_1 retK.eq_2 retK.eq_3 loopK.eq_1
attribute [go_sem] loopK.eq_2 gslot scAV AS.push upd_at plug initS finV_p finV_t finV_u finV_true solidC.eq_1
attribute [go_sem] solidC.eq_2 solidC.eq_3 solidC.eq_4 solidC.eq_5 solidC.eq_6 hdL.eq_1 hdL.eq_2 hdG.eq_1 hdG.eq_2 hkGs.eq_1 hkGs.eq_2 hkG.eq_1
attribute [go_sem] hkG.eq_2 hdO.eq_1 hdO.eq_2 hdO.eq_3 hdO.eq_4 hkCl.eq_1 hkCl.eq_2 hkBs.eq_1 hkBs.eq_2 hkArr.eq_1 hkArr.eq_2 hkV.eq_1
attribute [go_sem] hkV.eq_2 dS.eq_1 dS.eq_2 hVb.eq_1 hVb.eq_2 bView dLL.eq_1 dLL.eq_2 dL.eq_1 dL.eq_2 dL.eq_3 hvRes
attribute [go_sem] idx_d idx_o ixE.eq_1 ixO.eq_1 ixO.eq_2 ixO.eq_3 argsRd.eq_1 argsRd.eq_2 argsRd.eq_3 rdL.eq_1 rdL.eq_2 rdL.eq_3 rdC.eq_1 rdC.eq_2
attribute [go_sem] rdC.eq_3 rdC.eq_4 rdLL0.eq_1 rdLL0.eq_2 rdLL0.eq_3 rdL0.eq_1 rdL0.eq_2 rdL0.eq_3 rdC0.eq_1 rdC0.eq_2 rdC0.eq_3 rdC0.eq_4
attribute [go_sem] resC.eq_1 resC.eq_2 resC.eq_3 resO.eq_1 resO.eq_2 resO.eq_3 adC.eq_1 adC.eq_2 adC.eq_3 adO.eq_1 adO.eq_2 adO.eq_3 mkOb_f mkOb_t
attribute [go_sem] resAV AS.kill AS.frz
attribute [go_sem] decide_eq_true_eq List.getElem?_cons_zero List.getElem?_cons_succ List.getElem?_nil List.drop_succ_cons List.drop_zero List.take_succ_cons List.take_zero List.length_cons List.length_nil List.map_cons List.map_nil
attribute [go_sem] List.all_cons List.all_nil Bool.and_true Option.bind_some Option.isSome_some true_and and_true ne_eq List.nil_append List.cons_append List.append_nil Option.some.injEq
attribute [go_sem] List.getElem?_toArray Int.toNat_natCast Int.natCast_nonneg Nat.zero_add Bool.false_eq_true Bool.not_true Bool.not_false not_false_eq_true not_true_eq_false and_self List.drop_nil decide_true
attribute [go_sem] decide_false Bool.and_self Bool.true_and Nat.lt_add_one false_implies implies_true Nat.add_zero DV.sl.injEq exists_eq_left exists_eq_left' exists_eq Prod.mk.injEq
end Go.Proofs.Ytlcnokbhoekpkaa
