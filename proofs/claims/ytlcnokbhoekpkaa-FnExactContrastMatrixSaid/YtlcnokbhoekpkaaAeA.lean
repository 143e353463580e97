/- append. No program here. -/
import Derived.Test.YtlcnokbhoekpkaaAe9
namespace Go.Proofs.Ytlcnokbhoekpkaa
open Go.RowKit
set_option linter.unusedVariables false
set_option linter.unusedSimpArgs false

section
variable {P : Program} {w0 : Cx} {w w' : World} {N : Nat} {s : AS} {a : Act} {E : En} {o : Oper}

/-- the source of an append: its cells, and who owns what they lead to -/
structure SrcP (w0 : Cx) (N : Nat) (s s' : AS) (a : Act) (w : World) (E : En) (k : Nat) (v : Value) (news : List (List DV)) (E' : En) (f : List Nat) : Prop where
  lies : ∃ (A : Option Addr) (cp : Nat) (us : List Value) (S : Nat → Prop), v = .slice A news.length cp ∧ Rd w S k A news.length cp us ∧ GiveP w0 N s s' a w E us news.flatten E' f
  uni : ∀ e ∈ news, e.length = k
def Src (s s' : AS) (k : Nat) (c : AC) (news : List (List DV)) : Prop :=
  s'.n = s.n ∧ s'.c = s.c ∧ s'.sl = s.sl ∧ (∀ i st, s'.lv i = some st → s.lv i = some st) ∧
    ∀ w0 N a w E v, RepE w0 N s a w E → CellR w E s.lv s.c c v → ∃ E' f, SrcP w0 N s s' a w E k v news E' f

theorem giveP_refl (h : RepE w0 N s a w E) {us : List Value} {ds : List DV} (ho : OwnL w w0.heap.size us ds []) : GiveP w0 N s s a w E us ds E [] :=
  ⟨h, ho, by simp, by simp, by simp, rfl, fun _ _ h => h, fun _ _ h => h, fun _ h => h⟩

theorem rep_rd {A : Nat → Prop} {v : Value} {t k : Nat} {es : List (List DV)} (h : RepL w A [v] [.sl t k es]) : ∃ Ad cp us, v = .slice Ad es.length cp ∧ Rd w A k Ad es.length cp us ∧ RepL w A us es.flatten ∧ ∀ e ∈ es, e.length = k := by
  generalize hd : DV.sl t k es = d at h
  generalize hv : [v] = vs at h
  generalize hx : [d] = ds at h
  cases h with
  | nil => cases hv
  | sc => subst hd; simp at hx
  | @sl0 a c t' k' _ _ h1 _ =>
    subst hd; simp at hx hv
    obtain ⟨⟨rfl, rfl, rfl⟩, _⟩ := hx
    obtain ⟨rfl, _⟩ := hv
    exact ⟨a, c, [], rfl, ⟨by simp, Nat.zero_le _, h1, fun h => absurd h (by simp)⟩, .nil, by simp⟩
  | @sl b off n c t' k' es' cells _ _ h1 h2 h3 h4 h5 h6 h7 h8 h9 _ =>
    subst hd; simp at hx hv
    obtain ⟨⟨rfl, rfl, rfl⟩, _⟩ := hx
    obtain ⟨rfl, _⟩ := hv
    subst h2
    refine ⟨_, c, cells, rfl, ⟨by rw [h8.len, flat_length h7], h4, h5, fun _ => ⟨_, rfl, h1, fun j u hu => ?_⟩⟩, h8, h7⟩
    have hadd : (⟨b, off, none⟩ : Addr).add j = ⟨b, off + j, none⟩ := by unfold Addr.add; split <;> simp_all
    rw [hadd]; exact h9 j u hu

theorem src_flat {t k : Nat} {c : AC} {es : List (List DV)} (hr : rdC s c (.sl t k es)) (hf : Flat es.flatten) : Src s s k c es := by
  refine ⟨rfl, rfl, rfl, fun _ _ h => h, fun w0 N a w E v h hc => ?_⟩
  obtain ⟨A, cp, us, e1, e2, e3, e4⟩ := rep_rd (rdC_ok h hc hr)
  exact ⟨E, [], ⟨A, cp, us, _, e1, e2, giveP_refl h (OwnL.flat e3 hf)⟩, e4⟩

def AS.kill (s : AS) (j : Nat) : AS := { s with ob := upd s.ob j .dead }
theorem kill_lv {j : Nat} : ∀ i st, (s.kill j).lv i = some st → s.lv i = some st := by
  intro i st h
  unfold AS.lv AS.kill at h
  unfold AS.lv
  by_cases e : i = j
  · subst e; simp only [upd_same, Ob.st] at h; split at h <;> cases h
  · simpa only [upd_ne _ _ e] using h
theorem kill_ok (h : RepE w0 N s a w E) {j : Nat} (hj : j < s.n) : RepE w0 N (s.kill j) a w ⟨upd E.v j (E.v j), upd E.m j [], upd E.o j [], E.A⟩ :=
  h.change (i := j) (n' := s.n) (X := .dead) (v' := E.v j) (m' := []) (o' := []) (A' := E.A) (c' := s.c) (Nat.le_refl _) (fun j hj _ => hj) hj h.bel (Nat.le_refl _) (fun _ _ _ => rfl) (Nat.le_refl _) (.inr fun st he => by cases he) (fun _ hb => hb) (fun _ hb => .inl hb)
    (fun b hb => ⟨h.A_lt b hb, by simp, fun i hi _ => h.A_m b hb i hi⟩) (by simp) (by simp) (fun _ _ _ _ _ => trivial)

theorem src_row {j st t k : Nat} {es : List (List DV)} (hj : s.own? j st = some (.row st t k es true)) : Src s (s.kill j) k (.own j st) es := by
  obtain ⟨hin, hob, hlv⟩ := own?_some hj
  refine ⟨rfl, rfl, rfl, kill_lv, fun w0 N a w E v h hc => ?_⟩
  have hv : v = E.v j := hc.2 hlv
  subst hv
  have hO := h.obj j hin
  rw [hob] at hO
  obtain ⟨cells, hst, h1, h2, h3, h4, h5⟩ := hO
  simp only [if_pos] at h5
  have hrd : ∃ A cp, E.v j = .slice A es.length cp ∧ Rd w (fun _ => True) k A es.length cp cells := by
    obtain ⟨A, cp, e1, _, _⟩ := own_shape h1
    rw [e1] at h1
    exact ⟨A, cp, e1, (Rd.of_own h1).mono fun _ _ => trivial⟩
  obtain ⟨A, cp, e1, e2⟩ := hrd
  refine ⟨⟨upd E.v j (E.v j), upd E.m j [], upd E.o j [], E.A⟩, E.o j, ⟨A, cp, cells, _, e1, e2, kill_ok h hin, h5, h.A_o j hin, ?_, fun b hb => ⟨j, hin, .inr hb⟩, ?_, ?_, ?_, fun _ h => h⟩, h3⟩
  · intro b hb i hi hbo
    by_cases e : i = j
    · subst e; simp [upd_same] at hbo
    · simp only [upd_ne _ _ e] at hbo; exact h.oo i j hi hin e b hbo hb
  · funext i; by_cases e : i = j
    · subst e; simp only [upd_same]
    · simp only [upd_ne _ _ e]
  · intro i b hb; by_cases e : i = j
    · subst e; simp [upd_same] at hb
    · simpa only [upd_ne _ _ e] using hb
  · intro i b hb; by_cases e : i = j
    · subst e; simp [upd_same] at hb
    · simpa only [upd_ne _ _ e] using hb

theorem Gives.len {s' : AS} {xs : List AC} {ds : List DV} (h : Gives s s' xs ds) (hr : RepE w0 N s a w E) {us : List Value} (hc : CellsR w E s.lv s.c xs us) : xs.length = ds.length := by
  obtain ⟨_, _, _, _, h5⟩ := h
  obtain ⟨E', f, hg⟩ := h5 w0 N a w E us hr hc
  have := hg.own.rep.len
  rw [hc.1]; exact this

theorem src_arr {s' : AS} {j st t k : Nat} {es : List (List AC)} {news : List (List DV)} (hj : s.own? j st = some (.arr st t k es)) (hg : Gives s s' es.flatten news.flatten) (hl : es.length = news.length) (hu : ∀ e ∈ news, e.length = k) : Src s s' k (.own j st) news := by
  obtain ⟨hin, hob, hlv⟩ := own?_some hj
  obtain ⟨g1, g2, g3, g4, g5⟩ := hg
  refine ⟨g1, g2, g3, g4, fun w0 N a w E v h hc => ?_⟩
  have hv : v = E.v j := hc.2 hlv
  subst hv
  have hO := h.obj j hin
  rw [hob] at hO
  obtain ⟨g, vals, _, e1, em, eo, hge, hmx, hB, hk, hun, hcs⟩ := hO
  obtain ⟨E', f, hgp⟩ := g5 w0 N a w E vals h hcs
  refine ⟨E', f, ⟨some ⟨g, 0, none⟩, es.length, vals, fun _ => True, by rw [e1, hl], ?_, hgp⟩, hu⟩
  refine ⟨by rw [← hcs.1, flat_length hun, hl], by omega, hmx, fun _ => ⟨_, rfl, trivial, fun q u hq => ?_⟩⟩
  rw [add_head, hB.cell]; simpa using hq

/-- the run of an append onto a row of its own -/
theorem app_core (h0 : RepE w0 N s a w E) {s' : AS} {X Y : Operand} {t el : TypeId} {k i st by_ : Nat} {es news : List (List DV)} {zs : List Value} {f : List Nat} {E1 : En}
    (ho : o.op = .call ⟨.builtin .append, #[X, Y], #[t, t]⟩) (hd : ∀ q, o.dst = some q → q < N) (ht : tel P t = some (el, k)) (hz : tzero P el = some zs) (hzl : zs.length = k) (hby : tby P el = some by_)
    (hi' : s'.own? i st = some (.row st el k es true)) (hX : a.eval X = E.v i) (hsrc : SrcP w0 N s s' a w E k (a.eval Y) news E1 f)
    (h63 : es.length + news.length ≤ maxLen) (hbytes : (es.length + news.length) * by_ ≤ 140737488355328) :
    o.wp P a w (fun a' w' => ∃ E', RepE w0 N ({ s' with ob := upd s'.ob i (.row s'.c el k (es ++ news) true), c := s'.c + 1 }.put o.dst (.p false [.own i s'.c])) a' w' E') (fun _ _ _ => False) := by
  obtain ⟨⟨A, cp, us, S, eY, hrd, hg⟩, hun⟩ := hsrc
  have h := hg.rep
  obtain ⟨hin, hob, hlv⟩ := own?_some hi'
  have hO := h.obj i hin
  rw [hob] at hO
  obtain ⟨cells, hst, h1, h2, h3, h4, h5⟩ := hO
  simp only [if_pos] at h5
  obtain ⟨hu, hsz⟩ := tel_u ht
  unfold tzero at hz
  unfold tsz at hsz
  unfold tby at hby
  cases hi : P.info? el with
  | none => simp [hi] at hsz
  | some ie =>
    simp [hi] at hsz hby
    cases hzz : ie.zero with
    | none => simp [hi, hzz] at hz
    | some z =>
      simp [hi, hzz] at hz
      have hzc : z.cells.size = k := by rw [← hzl, ← hz]; simp
      have hEv : a.eval X = E1.v i := by rw [hg.v]; exact hX
      unfold Oper.wp
      obtain ⟨v', w', hrun, hown, hgr, hblk⟩ := run_append_any (P := P) w w0.heap.size t o.type el ie z k by_ hu hi hzz hsz hby hzc h2 (E1.v i) es.length cells h1 S A news.length cp us hrd hg.own.rep.one h63 hbytes h.bel.size
      have hrun' : (execOp a.eval o).run P w = .ok (.value v') w' := by
        simp only [execOp, ho, resolve, invoke, builtin, Sem.run_bind, Sem.run_pure, Result.andThen_ok, List.map_toArray, List.map_cons, List.map_nil, hEv, eY, hrun]
      rw [hrun', Oper.upon_value]
      have hmge : ∀ b, (E1.v i).ownBlock = some b → w0.heap.size ≤ b := fun b hb => (own_blk h1 hb).1
      have hbel : Below w0.heap.size w0.toWorld w' := by
        refine h.bel.grown hgr h.bel.size ?_
        intro b hb; exact hmge b hb
      have hm' : ∀ b ∈ v'.ownBlock.toList, b ∈ E1.m i ∨ b = w.heap.size := by
        intro b hb
        rcases hblk with e | e
        · left; rw [h4, ← e]; exact hb
        · right; rw [e] at hb; simpa using hb
      have hAm : ∀ b, E1.A b → b ∉ v'.ownBlock.toList := by
        intro b hbA hbm
        rcases hm' b hbm with h6 | h6
        · exact h.A_m b hbA i hin h6
        · have := h.A_lt b hbA; omega
      have hfo : ∀ b ∈ f, b ∉ E1.o i := fun b hb => hg.o b hb i hin
      have hsame : ∀ b, E1.A b → w'.heap[b]? = w.heap[b]? := fun b hb => hgr.block b (h.A_lt b hb) (fun e => h.A_m b hb i hin (by rw [h4, ← e]; simp))
      have hch := h.change (i := i) (n' := s'.n) (X := .row s'.c el k (es ++ news) true) (v' := v') (m' := v'.ownBlock.toList) (o' := E1.o i ++ f) (A' := E1.A) (c' := s'.c + 1) (w' := w') (Nat.le_refl _) (fun j hj _ => hj) hin
        hbel hgr.size (fun q hq hm => hgr.block q hq (fun e => hm hin (by rw [h4, ← e]; simp))) (by omega) (.inr fun st he => by simp only [Ob.st] at he; injection he with he; omega) (fun _ hb => hb) (fun _ hb => .inl hb)
        (fun b hb => ⟨Nat.lt_of_lt_of_le (h.A_lt b hb) hgr.size, hAm b hb, fun j hj _ => h.A_m b hb j hj⟩)
        (fun b hb => ⟨(own_blk hown (by simpa using hb)).2, fun j hj hne hbj => by
          rcases hm' b hb with h6 | h6
          · exact h.mm i j hin hj (Ne.symm hne) b h6 hbj
          · have := h.m_lt j hj b hbj; omega⟩)
        (fun b hb => by
          rcases List.mem_append.1 hb with hb | hb
          · exact ⟨h.A_o i hin b hb, fun j hj hne => h.oo i j hin hj (Ne.symm hne) b hb⟩
          · exact ⟨hg.A b hb, fun j hj _ => hg.o b hb j hj⟩) (by
          rintro s'' rfl E' rfl hstay
          refine ⟨_, by omega, by simp only [upd_same, List.length_append]; exact hown, h2, ?_, by simp only [upd_same], ?_⟩
          · intro e he
            rcases List.mem_append.1 he with he | he
            · exact h3 e he
            · exact hun e he
          · simp only [if_pos, upd_same, List.flatten_append]
            refine (h5.app hg.own (fun b hb hbf => hfo b hbf hb)).keep fun b hb => hsame b ?_
            rcases List.mem_append.1 hb with hb | hb
            · exact h.A_o i hin b hb
            · exact hg.A b hb)
      refine ⟨_, hch.put (x := .p false [.own i s'.c]) ?_ hd⟩
      exact slot_one_mk ⟨by simp, fun _ => by simp only [upd_same]⟩

theorem st_append {s' : AS} {X Y : Operand} {t el : TypeId} {k i st by_ : Nat} {es news : List (List DV)} {zs : List Value} {c : AC}
    (ho : o.op = .call ⟨.builtin .append, #[X, Y], #[t, t]⟩) (hd : ∀ q, o.dst = some q → q < N) (ht : tel P t = some (el, k)) (hz : tzero P el = some zs) (hzl : zs.length = k) (hby : tby P el = some by_)
    (hX : s.ev X = .p false [.own i st]) (hY : s.ev Y = .p false [c]) (hsrc : Src s s' k c news) (hi' : s'.own? i st = some (.row st el k es true)) 
    (h63 : es.length + news.length ≤ maxLen) (hbytes : (es.length + news.length) * by_ ≤ 140737488355328) :
    OStep P N o s ({ s' with ob := upd s'.ob i (.row s'.c el k (es ++ news) true), c := s'.c + 1 }.put o.dst (.p false [.own i s'.c])) := by
  intro w0 a w E h
  have e1 := ev_ok h X; have e2 := ev_ok h Y
  rw [hX] at e1; rw [hY] at e2
  obtain ⟨_, _, _, hlv, hs⟩ := hsrc
  obtain ⟨E1, f, hp⟩ := hs w0 N a w E _ h (slot_one e2)
  exact app_core h ho hd ht hz hzl hby hi' ((slot_one e1).2 (hlv _ _ (own?_some hi').2.2)) hp h63 hbytes

/-- the nil slice as an empty row of its own -/
theorem push_nil (h : RepE w0 N s a w E) {el : TypeId} {k : Nat} (hk : 0 < k) : RepE w0 N (s.push (.row s.c el k [] true)) a w ⟨upd E.v s.n (.slice none 0 0), upd E.m s.n [], upd E.o s.n [], fun b => E.A b ∨ b ∈ ([] : List Nat)⟩ := by
  refine h.pushOb rfl (Below.refl _ _) (by simp) (by simp) (by simp) ?_
  rintro E' rfl hstay
  refine ⟨[], by omega, by simp only [upd_same]; exact World.ownsRow_nil _ _ _ _, hk, by simp, by simp only [upd_same]; rfl, ?_⟩
  simp only [if_pos, upd_same]; exact .nil

theorem st_append_nil {s' : AS} {X Y : Operand} {t el : TypeId} {k by_ : Nat} {news : List (List DV)} {zs : List Value} {c : AC}
    (ho : o.op = .call ⟨.builtin .append, #[X, Y], #[t, t]⟩) (hd : ∀ q, o.dst = some q → q < N) (ht : tel P t = some (el, k)) (hz : tzero P el = some zs) (hzl : zs.length = k) (hk : 0 < k) (hby : tby P el = some by_)
    (hX : s.ev X = .p false [.nil]) (hY : s.ev Y = .p false [c]) (hsrc : Src (s.push (.row s.c el k [] true)) s' k c news) (hi' : s'.own? s.n s.c = some (.row s.c el k [] true))
    (h63 : news.length ≤ maxLen) (hbytes : news.length * by_ ≤ 140737488355328) :
    OStep P N o s ({ s' with ob := upd s'.ob s.n (.row s'.c el k news true), c := s'.c + 1 }.put o.dst (.p false [.own s.n s'.c])) := by
  intro w0 a w E h
  have hp := push_nil (el := el) h hk
  have e1 := ev_ok h X; have e2 := ev_ok hp Y
  rw [hX] at e1
  have hY' : (s.push (.row s.c el k [] true)).ev Y = .p false [c] := by rw [← hY]; cases Y <;> rfl
  rw [hY'] at e2
  obtain ⟨_, _, _, hlv, hs⟩ := hsrc
  obtain ⟨E1, f, hq⟩ := hs w0 N a w _ _ hp (slot_one e2)
  obtain hX0 : a.eval X = .slice none 0 0 := slot_one e1
  have := app_core (es := []) hp ho hd ht hz hzl hby hi' (by simp only [upd_same]; exact hX0) hq (by simpa using h63) (by simpa using hbytes)
  simpa using this

/-- a literal of scalars as a row -/
theorem arr_row (h : RepE w0 N s a w E) {i st t k : Nat} {ds : List (List DV)} (hi : s.own? i st = some (.arr st t k (ds.map fun e => e.map .d))) (hf : Flat ds.flatten) : RepE w0 N { s with ob := upd s.ob i (.row st t k ds true) } a w ⟨upd E.v i (E.v i), upd E.m i (E.m i), upd E.o i [], E.A⟩ := by
  obtain ⟨hin, hob, hlv⟩ := own?_some hi
  have hO := h.obj i hin
  rw [hob] at hO
  obtain ⟨g, vals, hst, e1, em, eo, hge, hmx, hB, hk, hun, hcs⟩ := hO
  have hun' : ∀ e ∈ ds, e.length = k := fun e he => by have := hun (e.map .d) (List.mem_map.2 ⟨e, he, rfl⟩); simpa using this
  have hrep : RepL w E.A vals ds.flatten := by
    have hfl : (ds.map fun e => e.map AC.d).flatten = ds.flatten.map .d := by rw [List.map_flatten]
    rw [hfl] at hcs
    clear hfl e1 hob hi hun hun' hB hmx
    generalize ds.flatten = l at hcs hf
    induction l generalizing vals with
    | nil => rw [CellsR.nil' hcs]; exact .nil
    | cons d l ih =>
      obtain ⟨u, us, rfl, c1, c2⟩ := CellsR.cons' hcs
      exact RepL.cons c1 (ih us c2 (fun d hd => hf d (List.mem_cons_of_mem _ hd)))
  rw [List.length_map] at e1 hmx
  have hlen : vals.length = ds.length * k := by rw [hrep.len, flat_length hun']
  refine h.change (i := i) (n' := s.n) (X := .row st t k ds true) (v' := E.v i) (m' := E.m i) (o' := []) (A' := E.A) (c' := s.c) (Nat.le_refl _) (fun j hj _ => hj) hin h.bel (Nat.le_refl _) (fun _ _ _ => rfl) (Nat.le_refl _)
    (.inl ⟨hin, by rw [hob]; rfl, rfl⟩) (fun _ hb => hb) (fun _ hb => .inl hb) (fun b hb => ⟨h.A_lt b hb, h.A_m b hb i hin, fun j hj _ => h.A_m b hb j hj⟩) (fun b hb => ⟨h.m_lt i hin b hb, fun j hj hne => h.mm i j hin hj (Ne.symm hne) b hb⟩) (by simp) ?_
  rintro s' rfl E' rfl hstay
  refine ⟨vals, hst, ?_, hk, hun', by simp only [upd_same, e1, em]; rfl, ?_⟩
  · simp only [upd_same, e1]
    exact ⟨hlen, .inr ⟨g, ds.length, vals.toArray, rfl, hge, hB, Nat.le_refl _, hmx, by simp [hlen], by rw [← hlen]; simp⟩⟩
  · simp only [if_pos, upd_same]; exact OwnL.flat hrep hf
end
end Go.Proofs.Ytlcnokbhoekpkaa
