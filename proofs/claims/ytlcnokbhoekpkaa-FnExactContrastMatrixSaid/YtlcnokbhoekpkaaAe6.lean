/- New objects: what a call returns. No program here. -/
import Derived.Test.YtlcnokbhoekpkaaAe5
namespace Go.Proofs.Ytlcnokbhoekpkaa
open Go.RowKit
set_option linter.unusedVariables false
set_option linter.unusedSimpArgs false

/-- what joins the witness when objects come: the elder part is as it was; all that is new is in F -/
structure ExtF (n n' : Nat) (F : Nat → Prop) (E E' : En) : Prop where
  same : ∀ i, i < n → E'.v i = E.v i ∧ E'.m i = E.m i ∧ E'.o i = E.o i
  A : ∀ b, E.A b → E'.A b
  A' : ∀ b, E'.A b → E.A b ∨ F b
  new : ∀ i, n ≤ i → i < n' → ∀ b, b ∈ E'.m i ∨ b ∈ E'.o i → F b
theorem ExtF.refl {n : Nat} {F : Nat → Prop} {E : En} : ExtF n n F E E := ⟨fun _ _ => ⟨rfl, rfl, rfl⟩, fun _ h => h, fun _ h => .inl h, fun i h1 h2 => by omega⟩
theorem ExtF.trans {n n' n'' : Nat} {F G H : Nat → Prop} {E E' E'' : En} (h : ExtF n n' F E E') (k : ExtF n' n'' G E' E'') (hn : n ≤ n') (hF : ∀ b, F b → H b) (hG : ∀ b, G b → H b) : ExtF n n'' H E E'' := by
  refine ⟨fun i hi => ?_, fun b hb => k.A b (h.A b hb), fun b hb => ?_, fun i h1 h2 b hb => ?_⟩
  · obtain ⟨a1, a2, a3⟩ := h.same i hi
    obtain ⟨b1, b2, b3⟩ := k.same i (by omega)
    exact ⟨b1.trans a1, b2.trans a2, b3.trans a3⟩
  · rcases k.A' b hb with h1 | h1
    · rcases h.A' b h1 with h2 | h2
      · exact .inl h2
      · exact .inr (hF b h2)
    · exact .inr (hG b h1)
  · by_cases hi : i < n'
    · obtain ⟨b1, b2, b3⟩ := k.same i hi
      rw [b2, b3] at hb
      exact hF b (h.new i h1 hi b hb)
    · exact hG b (k.new i (by omega) h2 b hb)

section
variable {P : Program} {w0 : Cx} {w w' : World} {N : Nat} {s : AS} {a : Act} {E : En}

theorem RepE.pushOb (h : RepE w0 N s a w E) {X : Ob} {v' : Value} {m' o' : List Nat} (hst : X.st = some s.c)
    (hb : Below w.heap.size w w')
    (hm : ∀ b ∈ m', b < w'.heap.size ∧ ¬ E.A b ∧ ∀ j, j < s.n → b ∉ E.m j) (ho3 : ∀ b ∈ o', w0.heap.size ≤ b) (ho : ∀ b ∈ o', b < w'.heap.size ∧ b ∉ m' ∧ ∀ j, j < s.n → b ∉ E.m j ∧ b ∉ E.o j)
    (hX : ∀ E' : En, E' = ⟨upd E.v s.n v', upd E.m s.n m', upd E.o s.n o', fun b => E.A b ∨ b ∈ o'⟩ → Stay w E s.lv s.c w' E' (s.push X).lv (s.c + 1) → ObR w' w0.heap.size E' (s.push X).lv (s.c + 1) s.n X) :
    RepE w0 N (s.push X) a w' ⟨upd E.v s.n v', upd E.m s.n m', upd E.o s.n o', fun b => E.A b ∨ b ∈ o'⟩ := by
  refine h.change (i := s.n) (n' := s.n + 1) (X := X) (v' := v') (m' := m') (o' := o') (A' := fun b => E.A b ∨ b ∈ o') (c' := s.c + 1) (by omega) (fun j h1 h2 => by omega) (by omega)
    (h.bel.trans (hb.mono h.bel.size)) hb.size (fun k hk _ => hb.block k hk) (by omega) (.inr fun st he => ?_) (fun b hb => .inl hb) (fun b hb => hb.imp id (ho3 b)) ?_ ?_ ?_ ?_
  · rw [hst] at he; injection he with he; omega
  · intro b hbA
    rcases hbA with hbA | hbo
    · exact ⟨Nat.lt_of_lt_of_le (h.A_lt b hbA) hb.size, fun hm' => (hm b hm').2.1 hbA, fun j hj _ => h.A_m b hbA j hj⟩
    · exact ⟨(ho b hbo).1, (ho b hbo).2.1, fun j hj _ => ((ho b hbo).2.2 j hj).1⟩
  · intro b hbm; exact ⟨(hm b hbm).1, fun j hj _ => (hm b hbm).2.2 j hj⟩
  · intro b hbo; exact ⟨.inr hbo, fun j hj _ => ((ho b hbo).2.2 j hj).2⟩
  · rintro s' rfl E' rfl hstay
    exact hX _ rfl hstay

theorem ext_push {X : Ob} {v' : Value} {m' o' : List Nat} {F : Nat → Prop} (hm : ∀ b ∈ m', F b) (ho : ∀ b ∈ o', F b) :
    ExtF s.n (s.n + 1) F E ⟨upd E.v s.n v', upd E.m s.n m', upd E.o s.n o', fun b => E.A b ∨ b ∈ o'⟩ := by
  refine ⟨fun i hi => ?_, fun b hb => .inl hb, fun b hb => ?_, fun i h1 h2 b hb => ?_⟩
  · have : i ≠ s.n := by omega
    exact ⟨upd_ne _ _ this, upd_ne _ _ this, upd_ne _ _ this⟩
  · rcases hb with hb | hb
    · exact .inl hb
    · exact .inr (ho b hb)
  · obtain rfl : i = s.n := by omega
    simp only [upd_same] at hb
    rcases hb with hb | hb
    · exact hm b hb
    · exact ho b hb

/-- the object of a slice that is owned deeply: a row, or (X) the whole of it -/
def mkOb (X : Bool) (c t k : Nat) (es : List (List DV)) : Ob := if X then .dx c (.sl t k es) else .row c t k es true
theorem mkOb_st (X : Bool) (c t k : Nat) (es : List (List DV)) : (mkOb X c t k es).st = some c := by cases X <;> rfl
def adO (X : Bool) : List DV → Nat → List Ob
  | [], _ => []
  | .sc _ :: r, c => adO X r c
  | .sl t k es :: r, c => mkOb X c t k es :: adO X r (c + 1)
def adC : List DV → Nat → Nat → List AC
  | [], _, _ => []
  | .sc v :: r, n, c => .d (.sc v) :: adC r n c
  | .sl t k es :: r, n, c => .own n c :: adC r (n + 1) (c + 1)

theorem pushL_n (l : List Ob) : ∀ s : AS, (s.pushL l).n = s.n + l.length ∧ (s.pushL l).c = s.c + l.length ∧ (s.pushL l).sl = s.sl ∧ ∀ i, i < s.n → (s.pushL l).ob i = s.ob i := by
  induction l with
  | nil => intro s; exact ⟨rfl, rfl, rfl, fun _ _ => rfl⟩
  | cons x l ih =>
    intro s
    obtain ⟨h1, h2, h3, h4⟩ := ih (s.push x)
    refine ⟨by rw [AS.pushL, h1]; simp [AS.push]; omega, by rw [AS.pushL, h2]; simp [AS.push]; omega, by rw [AS.pushL, h3]; rfl, fun i hi => ?_⟩
    rw [AS.pushL, h4 i (by simp [AS.push]; omega)]
    exact upd_ne _ _ (by omega)
theorem pushL_app (l k : List Ob) : ∀ s : AS, s.pushL (l ++ k) = (s.pushL l).pushL k := by
  induction l with
  | nil => intro s; rfl
  | cons x l ih => intro s; exact ih (s.push x)

/-- what is owned deeply becomes objects -/
theorem adopt {X : Bool} {b0 : Nat} {vals : List Value} {ds : List DV} {f : List Nat} (ho : OwnL w b0 vals ds f) (hb0 : w0.heap.size ≤ b0) : ∀ {s : AS} {E : En}, RepE w0 N s a w E → (∀ b ∈ f, ¬ E.A b ∧ ∀ j, j < s.n → b ∉ E.m j ∧ b ∉ E.o j) →
    ∃ E', RepE w0 N (s.pushL (adO X ds s.c)) a w E' ∧ CellsR w E' (s.pushL (adO X ds s.c)).lv (s.pushL (adO X ds s.c)).c (adC ds s.n s.c) vals ∧ ExtF s.n (s.pushL (adO X ds s.c)).n (· ∈ f) E E' := by
  induction ho with
  | nil => intro s E h _; exact ⟨E, h, CellsR.nil, ExtF.refl⟩
  | sc h1 _ ih =>
    intro s E h hf
    obtain ⟨E', k1, k2, k3⟩ := ih h hf
    exact ⟨E', k1, CellsR.cons (RepL.sc h1 .nil) k2, k3⟩
  | @sl v t k es cells g vs ds f h1 h2 h3 h4 h5 h6 _ ih =>
    intro s E h hf
    have hnd := List.nodup_append.1 h6
    have hnd2 := List.nodup_append.1 hnd.2.1
    have hrep : ∃ m' o', (∀ b ∈ m' ++ o', b ∈ v.ownBlock.toList ++ g) ∧ RepE w0 N (s.push (mkOb X s.c t k es)) a w ⟨upd E.v s.n v, upd E.m s.n m', upd E.o s.n o', fun b => E.A b ∨ b ∈ o'⟩ := by
      cases X with
      | false =>
        refine ⟨v.ownBlock.toList, g, fun b hb => hb, ?_⟩
        refine h.pushOb (mkOb_st ..) (Below.refl _ _) (fun b hb => ?_) (fun b hb => Nat.le_trans hb0 (h4.blocks b hb).1) (fun b hb => ?_) ?_
        · have := own_blk h1 (by simpa using hb)
          obtain ⟨k1, k2⟩ := hf b (by simp only [List.mem_append]; exact .inl hb)
          exact ⟨this.2, k1, fun j hj => (k2 j hj).1⟩
        · obtain ⟨k1, k2⟩ := hf b (by simp only [List.mem_append]; exact .inr (.inl hb))
          exact ⟨(h4.blocks b hb).2, fun hm => hnd.2.2 b hm b (by simp only [List.mem_append]; exact .inl hb) rfl, k2⟩
        · rintro E' rfl hstay
          refine ⟨cells, by omega, by simp only [upd_same]; exact own_mono h1 hb0, h2, h3, by simp only [upd_same], ?_⟩
          simp only [if_pos, upd_same]
          exact h4.lo hb0
      | true =>
        have hown : OwnL w w0.heap.size [v] [.sl t k es] (v.ownBlock.toList ++ g) := by
          have := OwnL.sl (vs := []) (ds := []) (f := []) (own_mono h1 hb0) h2 h3 (h4.lo hb0) .nil (by
            rw [List.append_nil]
            have h7 := h6
            rw [← List.append_assoc] at h7
            exact (List.nodup_append.1 h7).1)
          rwa [List.append_nil] at this
        refine ⟨v.ownBlock.toList ++ g, [], fun b hb => by simpa using hb, ?_⟩
        refine h.pushOb (mkOb_st ..) (Below.refl _ _) (fun b hb => ?_) (by simp) (by simp) ?_
        · have hb' : b ∈ v.ownBlock.toList ++ (g ++ f) := by
            rw [← List.append_assoc]; exact List.mem_append_left _ hb
          obtain ⟨k1, k2⟩ := hf b hb'
          exact ⟨(hown.blocks b hb).2, k1, fun j hj => (k2 j hj).1⟩
        · rintro E' rfl hstay
          refine ⟨by omega, by simp only [upd_same], ?_⟩
          simp only [upd_same]; exact hown
    obtain ⟨m', o', hmo, hrep⟩ := hrep
    have hmf : ∀ b ∈ m', b ∈ v.ownBlock.toList ++ g := fun b hb => hmo b (List.mem_append_left _ hb)
    have hof : ∀ b ∈ o', b ∈ v.ownBlock.toList ++ g := fun b hb => hmo b (List.mem_append_right _ hb)
    have hdis : ∀ b ∈ f, b ∉ v.ownBlock.toList ++ g := by
      intro b hb hbb
      rcases List.mem_append.1 hbb with h7 | h7
      · exact hnd.2.2 b h7 b (List.mem_append_right _ hb) rfl
      · exact hnd2.2.2 b h7 b hb rfl
    obtain ⟨E', k1, k2, k3⟩ := ih hrep (by
      intro b hb
      obtain ⟨q1, q2⟩ := hf b (by simp only [List.mem_append]; exact .inr (.inr hb))
      refine ⟨fun hA => ?_, fun j hj => ?_⟩
      · rcases hA with hA | hA
        · exact q1 hA
        · exact hdis b hb (hof b hA)
      · by_cases e : j = s.n
        · subst e
          simp only [upd_same]
          exact ⟨fun hm => hdis b hb (hmf b hm), fun hm => hdis b hb (hof b hm)⟩
        · simp only [upd_ne _ _ e]
          exact q2 j (by simp [AS.push] at hj; omega))
    refine ⟨E', k1, CellsR.cons ?_ k2, ?_⟩
    · refine ⟨?_, fun _ => ?_⟩
      · have := (pushL_n (adO X ds (s.c + 1)) (s.push (mkOb X s.c t k es))).2.1
        show s.c < ((s.push (mkOb X s.c t k es)).pushL (adO X ds (s.c + 1))).c
        rw [this]; simp [AS.push]; omega
      · have := (k3.same s.n (by simp [AS.push])).1
        rw [this]; simp only [upd_same]
    · have hsub : ∀ b, b ∈ v.ownBlock.toList ++ g → b ∈ v.ownBlock.toList ++ (g ++ f) := fun b hb => by rw [← List.append_assoc]; exact List.mem_append_left _ hb
      refine (ext_push (s := s) (E := E) (X := mkOb X s.c t k es) (F := fun b => b ∈ v.ownBlock.toList ++ (g ++ f)) ?_ ?_).trans k3 (by omega) (fun _ h => h) (fun b hb => ?_)
      · intro b hb; exact hsub b (hmf b hb)
      · intro b hb; exact hsub b (hof b hb)
      · simp only [List.mem_append]; exact .inr (.inr hb)

/-- the stamps of objects that are pushed: c, c + 1, .. -/
def Stamped : List Ob → Nat → Prop
  | [], _ => True
  | x :: r, c => x.st = some c ∧ Stamped r (c + 1)
theorem adO_st (X : Bool) : ∀ (ds : List DV) (c : Nat), Stamped (adO X ds c) c
  | [], _ => trivial
  | .sc _ :: r, c => adO_st X r c
  | .sl _ _ _ :: r, c => ⟨mkOb_st .., adO_st X r (c + 1)⟩
theorem Stamped.app {l k : List Ob} : ∀ {c : Nat}, Stamped l c → Stamped k (c + l.length) → Stamped (l ++ k) c := by
  induction l with
  | nil => intro c _ h; exact h
  | cons x l ih => intro c h1 h2; exact ⟨h1.1, ih h1.2 (by rw [List.length_cons] at h2; rwa [show c + 1 + l.length = c + (l.length + 1) from by omega])⟩
theorem pushL_new (l : List Ob) : ∀ (s : AS) (i : Nat), s.n ≤ i → i < (s.pushL l).n → Stamped l s.c → ∃ st, ((s.pushL l).ob i).st = some st ∧ s.c ≤ st := by
  induction l with
  | nil => intro s i h1 h2; simp [AS.pushL] at h2; omega
  | cons x l ih =>
    intro s i h1 h2 hs
    by_cases e : i = s.n
    · subst e
      refine ⟨s.c, ?_, Nat.le_refl _⟩
      rw [AS.pushL, (pushL_n l (s.push x)).2.2.2 s.n (by simp [AS.push])]
      simp only [AS.push, upd_same]; exact hs.1
    · obtain ⟨st, h3, h4⟩ := ih (s.push x) i (by simp [AS.push]; omega) h2 hs.2
      exact ⟨st, h3, by simp [AS.push] at h4; omega⟩

/-! ### results -/
def resO (X : Bool) : List Rs → Nat → List Ob
  | [], _ => []
  | (_, ds, true) :: r, c => adO X ds c ++ resO X r (c + (adO X ds c).length)
  | (_, _, false) :: r, c => resO X r c
def resC : List Rs → Nat → Nat → List (Bool × List AC)
  | [], _, _ => []
  | (b, ds, true) :: r, n, c => (b, adC ds n c) :: resC r (n + (adO false ds c).length) (c + (adO false ds c).length)
  | (b, ds, false) :: r, n, c => (b, ds.map .d) :: resC r n c
theorem adO_len (X : Bool) : ∀ (ds : List DV) (c : Nat), (adO X ds c).length = (adO false ds c).length
  | [], _ => rfl
  | .sc _ :: r, c => adO_len X r c
  | .sl _ _ _ :: r, c => by simp [adO, adO_len X r (c + 1)]
theorem resO_st (X : Bool) : ∀ (rs : List Rs) (c : Nat), Stamped (resO X rs c) c
  | [], _ => trivial
  | (_, ds, true) :: r, c => (adO_st X ds c).app (resO_st X r _)
  | (_, _, false) :: r, c => resO_st X r c
def resAV (rs : List Rs) (n c : Nat) : AV := match resC rs n c with | [(b, cs)] => .p b cs | l => .tup l

theorem resC_len : ∀ (rs : List Rs) (n c : Nat), (resC rs n c).length = rs.length
  | [], _, _ => rfl
  | (_, _, true) :: r, n, c => by simp [resC, resC_len r]
  | (_, _, false) :: r, n, c => by simp [resC, resC_len r]

theorem part_mk {L : Nat → Option Nat} {c : Nat} {b : Bool} {cs : List AC} {v : Value} {vals : List Value} (h : if b then v = .agg vals.toArray else vals = [v]) (hc : CellsR w E L c cs vals) : PartR w E L c b cs v := by
  unfold PartR
  cases b with
  | true => exact ⟨vals, h, hc⟩
  | false => have h' : vals = [v] := h; subst h'; exact hc

/-- results that are owned or read -/
def ResQ (w : World) (b0 : Nat) (A : Nat → Prop) (v : Value) (r : Rs) (f : List Nat) : Prop :=
  ∃ vals : List Value, (if r.1 then v = .agg vals.toArray else vals = [v]) ∧ if r.2.2 then OwnL w b0 vals r.2.1 f else f = [] ∧ RepL w A vals r.2.1
def ResQs (w : World) (b0 : Nat) (A : Nat → Prop) : List Value → List Rs → List (List Nat) → Prop
  | [], [], [] => True
  | v :: vs, r :: rs, f :: fs => ResQ w b0 A v r f ∧ ResQs w b0 A vs rs fs
  | _, _, _ => False

def PartsR (w : World) (E : En) (L : Nat → Option Nat) (c : Nat) : List (Bool × List AC) → List Value → Prop
  | [], [] => True
  | x :: xs, v :: vs => PartR w E L c x.1 x.2 v ∧ PartsR w E L c xs vs
  | _, _ => False

theorem adoptRs {X : Bool} {b0 : Nat} (hb0 : w0.heap.size ≤ b0) : ∀ (rs : List Rs) {vs : List Value} {fs : List (List Nat)} {s : AS} {E : En} {A0 : Nat → Prop}, RepE w0 N s a w E → (∀ b, A0 b → E.A b) → ResQs w b0 A0 vs rs fs → fs.flatten.Nodup → (∀ b ∈ fs.flatten, ¬ E.A b ∧ ∀ j, j < s.n → b ∉ E.m j ∧ b ∉ E.o j) →
    ∃ E', RepE w0 N (s.pushL (resO X rs s.c)) a w E' ∧ PartsR w E' (s.pushL (resO X rs s.c)).lv (s.pushL (resO X rs s.c)).c (resC rs s.n s.c) vs ∧ ExtF s.n (s.pushL (resO X rs s.c)).n (· ∈ fs.flatten) E E'
  | [], vs, fs, s, E, A0, h, hA, hq, hnd, hf => by
    cases vs with
    | cons => exact hq.elim
    | nil => cases fs with
      | cons => exact hq.elim
      | nil => exact ⟨E, h, trivial, ExtF.refl⟩
  | (b, ds, dp) :: rs, vs, fs, s, E, A0, h, hA, hq, hnd, hf => by
    cases vs with
    | nil => exact hq.elim
    | cons v vs => cases fs with
      | nil => exact hq.elim
      | cons f fs =>
        obtain ⟨⟨vals, hv, hd⟩, hq⟩ := hq
        rw [List.flatten_cons] at hnd hf
        have hnd' := List.nodup_append.1 hnd
        cases dp with
        | true =>
          have hd : OwnL w b0 vals ds f := hd
          obtain ⟨E1, k1, k2, k3⟩ := adopt hd hb0 h (fun b hb => hf b (List.mem_append_left _ hb))
          obtain ⟨p1, p2, p3, p4⟩ := pushL_n (adO X ds s.c) s
          have hfs : ∀ b ∈ fs.flatten, ¬ E1.A b ∧ ∀ j, j < (s.pushL (adO X ds s.c)).n → b ∉ E1.m j ∧ b ∉ E1.o j := by
            intro b hb
            obtain ⟨q1, q2⟩ := hf b (List.mem_append_right _ hb)
            have hbf : b ∉ f := fun hbf => hnd'.2.2 b hbf b hb rfl
            refine ⟨fun hA1 => ?_, fun j hj => ?_⟩
            · rcases k3.A' b hA1 with h1 | h1
              · exact q1 h1
              · exact hbf h1
            · by_cases hjn : j < s.n
              · obtain ⟨_, e2, e3⟩ := k3.same j hjn
                rw [e2, e3]; exact q2 j hjn
              · exact ⟨fun hm => hbf (k3.new j (by omega) hj b (.inl hm)), fun hm => hbf (k3.new j (by omega) hj b (.inr hm))⟩
          obtain ⟨E2, m1, m2, m3⟩ := adoptRs hb0 rs k1 (fun b hb => k3.A b (hA b hb)) hq hnd'.2.1 hfs
          have e : s.pushL (resO X ((b, ds, true) :: rs) s.c) = (s.pushL (adO X ds s.c)).pushL (resO X rs (s.pushL (adO X ds s.c)).c) := by
            rw [p2, resO, pushL_app]
          rw [e]
          refine ⟨E2, m1, ?_, ?_⟩
          · simp only [resC]
            refine ⟨part_mk hv (k2.stay ⟨fun b hb => ⟨m3.A b hb, rfl⟩, fun i st hst hl => ?_, ?_⟩), ?_⟩
            · obtain ⟨q1, q2, q3, q4⟩ := pushL_n (resO X rs (s.pushL (adO X ds s.c)).c) (s.pushL (adO X ds s.c))
              have hin : i < (s.pushL (adO X ds s.c)).n := by
                unfold AS.lv at hl
                split at hl
                · rename_i hi
                  apply Classical.byContradiction
                  intro hge
                  have ho := m1.obj i hi
                  have : ∃ st', (((s.pushL (adO X ds s.c)).pushL (resO X rs (s.pushL (adO X ds s.c)).c)).ob i).st = some st' ∧ (s.pushL (adO X ds s.c)).c ≤ st' := pushL_new _ _ i (by omega) hi (resO_st X rs _) 
                  obtain ⟨st', h1, h2⟩ := this
                  rw [hl] at h1; injection h1 with h1; omega
                · cases hl
              refine ⟨?_, (m3.same i hin).1⟩
              unfold AS.lv at hl ⊢
              rw [if_pos (by omega), q4 i hin] at hl
              rw [if_pos hin]; exact hl
            · have := (pushL_n (resO X rs (s.pushL (adO X ds s.c)).c) (s.pushL (adO X ds s.c))).2.1
              rw [this]; omega
            · rw [← adO_len X, ← p1, ← p2]; exact m2
          · refine (k3.trans (H := (· ∈ (f :: fs).flatten)) m3 (by omega) (fun b hb => ?_) (fun b hb => ?_))
            · rw [List.flatten_cons]; exact List.mem_append_left _ hb
            · rw [List.flatten_cons]; exact List.mem_append_right _ hb
        | false =>
          have hd : f = [] ∧ RepL w A0 vals ds := hd
          obtain ⟨rfl, hr⟩ := hd
          obtain ⟨E2, m1, m2, m3⟩ := adoptRs hb0 rs h hA hq hnd'.2.1 (fun b hb => hf b (List.mem_append_right _ hb))
          refine ⟨E2, m1, ⟨part_mk hv (CellsR.ofRep (hr.mono fun b hb => m3.A b (hA b hb))), m2⟩, ?_⟩
          rw [List.flatten_cons, List.nil_append]; exact m3
end
end Go.Proofs.Ytlcnokbhoekpkaa
