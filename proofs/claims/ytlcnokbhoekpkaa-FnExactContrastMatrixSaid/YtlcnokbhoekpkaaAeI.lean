/- Regions that draw their order: every order. No program here. -/
import Derived.Test.YtlcnokbhoekpkaaAeH
namespace Go.Proofs.Ytlcnokbhoekpkaa
open Go.RowKit
set_option linter.unusedVariables false
set_option linter.unusedSimpArgs false

section
variable {P : Program} {w0 : Cx} {w w' : World} {N m n : Nat} {s h H q q' qF : AS} {a : Act} {E : En} {o : Oper} {pr : Bool} {l : List Oper} {kds : List HK} {xs : List AV} {Q : Exit → AS → Prop}

def lds (l : List Oper) (n : Nat) (listed : Array Bool) : List Nat := (List.range n).filterMap fun j => if listed.getD j false then (l[j]?).bind (·.dst) else none
theorem mem_lds {listed : Array Bool} {t : Nat} : t ∈ lds l n listed ↔ ∃ j o, j < n ∧ listed.getD j false = true ∧ l[j]? = some o ∧ o.dst = some t := by
  unfold lds
  rw [List.mem_filterMap]
  constructor
  · rintro ⟨j, hj, h⟩
    split at h
    · rename_i hl
      cases ho : l[j]? with
      | none => simp [ho] at h
      | some o => simp [ho] at h; exact ⟨j, o, List.mem_range.1 hj, hl, ho, h⟩
    · cases h
  · rintro ⟨j, o, hj, hl, ho, hd⟩
    exact ⟨j, List.mem_range.2 hj, by rw [if_pos hl]; simp [ho, hd]⟩

structure HInv (w0 : Cx) (N m n : Nat) (s : AS) (E : En) (l : List Oper) (kds : List HK) (xs : List AV) (listed : Array Bool) (a : Act) (w : World) (fs : Nat → List Nat) : Prop where
  rep : RepE w0 N (undL s (lds l n listed)) a w E
  le : m ≤ w.heap.size
  fact : ∀ j o d kd x, j < n → listed.getD j false = true → l[j]? = some o → o.dst = some d → kds[j]? = some kd → xs[j]? = some x → Fact m E s.lv s.c a w (a.tmps.getD d undef) (fs j) kd ∧ SlotR w (E.plus m w.heap.size) s.lv s.c x (a.tmps.getD d undef)
  blk : ∀ j, j < n → listed.getD j false = true → ∀ b ∈ fs j, m ≤ b ∧ b < w.heap.size
  dis : ∀ i j, i < n → j < n → listed.getD i false = true → listed.getD j false = true → i ≠ j → ∀ b ∈ fs i, b ∉ fs j

theorem growA (h : RepE w0 N s a w E) (hw : w0.heap.size ≤ m) (hm : ∀ i, i < s.n → ∀ b ∈ E.m i, b < m) : RepE w0 N s a w (E.plus m w.heap.size) := by
  have hst : Stay w E s.lv s.c w (E.plus m w.heap.size) s.lv s.c := ⟨fun b hb => ⟨.inl hb, rfl⟩, fun i st _ h => ⟨h, rfl⟩, Nat.le_refl _⟩
  refine ⟨h.size, h.defers, h.bel, fun i hi => (h.obj i hi).stay hst rfl rfl rfl (fun _ _ => rfl) (fun b hb => h.A_o i hi b hb), fun t => (h.slot t).stay hst, fun b hb => ?_, fun b hb i hi hbm => ?_, fun i hi b hb => .inl (h.A_o i hi b hb), h.mm, h.oo, h.m_lt, fun b hb => ?_⟩
  · rcases hb with hb | hb
    · exact h.A_lt b hb
    · exact hb.2
  · rcases hb with hb | hb
    · exact h.A_m b hb i hi hbm
    · have := hm i hi b hbm; omega
  · rcases hb with hb | hb
    · exact h.anc b hb
    · exact .inr (by omega)

theorem nodup_flat : ∀ {ls : List (List Nat)}, (∀ f ∈ ls, f.Nodup) → ls.Pairwise (fun x y => ∀ b ∈ x, b ∉ y) → ls.flatten.Nodup
  | [], _, _ => by simp
  | f :: ls, h1, h2 => by
    rw [List.flatten_cons]
    rw [List.pairwise_cons] at h2
    refine List.nodup_append.2 ⟨h1 f (List.mem_cons_self ..), nodup_flat (fun g hg => h1 g (List.mem_cons_of_mem _ hg)) h2.2, fun x hx y hy e => ?_⟩
    subst e
    obtain ⟨g, hg, hxg⟩ := List.mem_flatten.1 hy
    exact h2.1 g hg x hx hxg
theorem fact_nodup {L : Nat → Option Nat} {c : Nat} {v : Value} {f : List Nat} {kd : HK} (h : Fact m E L c a w v f kd) : f.Nodup := by
  cases kd with
  | v x => obtain rfl : f = [] := h; exact List.nodup_nil
  | c res => obtain ⟨vs, fs, _, _, rfl, hn, _⟩ := h; exact hn
  | b el k parts => obtain ⟨g, _, rfl, _⟩ := h; simp

theorem put_getD_ne {d t : Nat} {v : Value} (h : t ≠ d) : (a.put (some d) v).tmps.getD t undef = a.tmps.getD t undef := by
  simp [Act.put, Array.getElem?_setIfInBounds_ne (Ne.symm h)]
theorem put_getD {d : Nat} {v : Value} (h : d < a.tmps.size) : (a.put (some d) v).tmps.getD d undef = v := by
  simp [Act.put, h]
theorem put_eval_ne {d : Nat} {v : Value} {x : Operand} (h : x ≠ .tmp d) : (a.put (some d) v).eval x = a.eval x := by
  cases x with
  | tmp t => exact put_getD_ne (fun e => h (by rw [e]))
  | _ => rfl
theorem catV_put {d : Nat} {v : Value} {parts : List (Nat × Operand)} (h : ∀ x ∈ parts, x.2 ≠ .tmp d) : catV (a.put (some d) v) parts = catV a parts := by
  unfold catV
  rw [List.flatMap_def, List.flatMap_def]
  congr 1
  exact List.map_congr_left fun x hx => by rw [put_eval_ne (h x hx)]

theorem fact_keep {L : Nat → Option Nat} {c : Nat} {v u : Value} {f : List Nat} {kd : HK} {d : Nat} (h : Fact m E L c a w v f kd) (hb : Below w.heap.size w w') (hp : ∀ el k parts, kd = .b el k parts → ∀ x ∈ parts, x.2 ≠ .tmp d) : Fact m E L c (a.put (some d) u) w' v f kd := by
  cases kd with
  | v x => exact h
  | c res => obtain ⟨vs, fs, h1, h2, h3, h4, h5⟩ := h; exact ⟨vs, fs, h1, ResQs.keep (fun b hbb => hb.block b hbb) h5 h2, h3, h4, h5⟩
  | b el k parts => obtain ⟨g, h1, h2, h3, h4⟩ := h; exact ⟨g, h1, h2, h3, by rw [catV_put (hp el k parts rfl)]; exact h4.keep hb⟩

def drawB (l : List Oper) (n : Nat) : Bool := fixB .any l n && decide ((dsts (l.take n)).Nodup)

/-- an operation's operands are ahead of it -/
theorem looks_lt (hB : fixB .any l n = true) {i j : Nat} {oi oj : Oper} {t : Nat} (hi : i < n) (hoi : l[i]? = some oi) (hj : j < n) (hoj : l[j]? = some oj) (hd : oj.dst = some t) (ht : t ∈ oi.looksAt l.toArray) : j < i ∧ Region.waitsFor .any l.toArray i j = true := by
  obtain ⟨_, _, _, _, h5⟩ := fixB_parts hB
  obtain ⟨h6, h7⟩ := h5 i oi hi hoi
  have hw := h7 j oj hj hoj t hd ht
  obtain ⟨oi', hoi', e, he, hb, hon⟩ := Region.waitsFor_spec hw
  have : oi' = oi := Option.some.inj (hoi'.symm.trans (by simpa using hoi))
  subst this
  refine ⟨?_, hw⟩
  rw [← hon]; exact h6 e he hb

theorem nofwd_of : ∀ {l : List Oper} {ops : Array Oper}, (∀ (i j : Nat) oi oj t, l[i]? = some oi → l[j]? = some oj → oj.dst = some t → t ∈ oi.looksAt ops → j < i) → NoFwd ops l
  | [], _, _ => trivial
  | o :: l, ops, h => by
    refine ⟨fun t ht hm => ?_, nofwd_of fun i j oi oj t h1 h2 h3 h4 => ?_⟩
    · unfold dsts at hm
      obtain ⟨oj, hoj, hd⟩ := List.mem_filterMap.1 hm
      obtain ⟨j, hj, rfl⟩ := List.mem_iff_getElem.1 hoj
      have := h 0 j o _ t rfl (List.getElem?_eq_getElem hj) hd ht
      omega
    · have := h (i + 1) (j + 1) oi oj t (by simpa using h1) (by simpa using h2) h3 h4
      omega

theorem factsL_of {L : Nat → Option Nat} {c : Nat} : ∀ {l : List Oper} {kds : List HK} {xs : List AV} {fs : List (List Nat)}, kds.length = l.length → xs.length = l.length → fs.length = l.length →
    (∀ (j : Nat) o d kd x f, l[j]? = some o → o.dst = some d → kds[j]? = some kd → xs[j]? = some x → fs[j]? = some f → Fact m E L c a w (a.tmps.getD d undef) f kd ∧ SlotR w (E.plus m w.heap.size) L c x (a.tmps.getD d undef)) → FactsL m E L c a w l kds xs fs
  | [], [], [], [], _, _, _, _ => trivial
  | o :: l, kd :: kds, x :: xs, f :: fs, h1, h2, h3, h => by
    refine ⟨fun d hd => h 0 o d kd x f rfl hd rfl rfl rfl, factsL_of (by simpa using h1) (by simpa using h2) (by simpa using h3) fun j o d kd x f a1 a2 a3 a4 a5 => h (j + 1) o d kd x f (by simpa using a1) a2 (by simpa using a3) (by simpa using a4) (by simpa using a5)⟩
  | [], _ :: _, _, _, h1, _, _, _ => by simp at h1
  | [], _, _ :: _, _, _, h2, _, _ => by simp at h2
  | [], _, _, _ :: _, _, _, h3, _ => by simp at h3
  | _ :: _, [], _, _, h1, _, _, _ => by simp at h1
  | _ :: _, _, [], _, _, h2, _, _ => by simp at h2
  | _ :: _, _, _, [], _, _, h3, _ => by simp at h3
theorem heads_len : ∀ {l : List Oper} {ops : Array Oper} {h q q' : AS} {kds : List HK} {xs : List AV}, Heads P N pr ops l h q kds xs q' → kds.length = l.length ∧ xs.length = l.length
  | [], _, _, _, _, [], [], _ => ⟨rfl, rfl⟩
  | o :: l, _, _, _, _, kd :: kds, x :: xs, h => by obtain ⟨_, q1, _, h⟩ := h; obtain ⟨h1, h2⟩ := heads_len h; exact ⟨by simp [h1], by simp [h2]⟩
  | [], _, _, _, _, _ :: _, _, h => h.elim
  | [], _, _, _, _, [], _ :: _, h => h.elim
  | _ :: _, _, _, _, _, [], _, h => h.elim
  | _ :: _, _, _, _, _, _ :: _, [], h => h.elim

theorem undL_more {d1 : List Nat} (h : RepE w0 N (undL s d1) a w E) {d2 : List Nat} (hs : ∀ t ∈ d1, t ∈ d2) : RepE w0 N (undL s d2) a w E := by
  refine h.weaken (s' := undL s d2) (Nat.le_refl _) (Nat.le_refl _) (fun _ _ => .inl rfl) (fun t => ?_)
  simp only [undL]
  by_cases h2 : t ∈ d2
  · right; rw [if_pos (by simpa using h2)]
  · left; rw [if_neg (by simpa using h2), if_neg (by simpa using fun h1 => h2 (hs t h1))]

theorem wpAny_heads (hB : fixB .any l n = true) (hnd : (dsts (l.take n)).Nodup) (hh : Heads P N pr l.toArray (l.take n) s s kds xs qF) (hw : w0.heap.size ≤ m) (hEm : ∀ i, i < s.n → ∀ b ∈ E.m i, b < m) (hEA : ∀ b, E.A b → b < m)
    (htail : AOps P N l.toArray (l.drop n) Q qF) :
    ∀ (f : Nat) (listed : Array Bool) (a : Act) (w : World) (fs : Nat → List Nat), unl n listed = f → HeadInv .any l.toArray n listed → HInv w0 N m n s E l kds xs listed a w fs → wpAny P .any l.toArray (AQ w0 N Q) (f + (l.length - n)) listed a w := by
  obtain ⟨hsel, hnl, hsink, hseq, hdep⟩ := fixB_parts hB
  obtain ⟨hkl, hxl⟩ := heads_len hh
  have htl : (l.take n).length = n := by rw [List.length_take]; omega
  rw [htl] at hkl hxl
  intro f
  induction f with
  | zero =>
    intro listed a w fs hu inv hI
    obtain rfl := listed_all inv hnl hu
    have hall : ∀ j, j < n → (headAll n (l.length - n)).getD j false = true := by
      intro j hj; simp [headAll, Array.getElem?_append, hj]
    rw [Nat.zero_add, show l.length - n = (l.drop n).length from by simp]
    refine wpAny_of_seq (l.drop n) n _ _ w (fun j => by simp [List.getElem?_drop]) (by simpa using hseq) ?_
    have hrep : RepE w0 N (undL s (dsts (l.take n))) a w E := by
      refine undL_more hI.rep fun t ht => ?_
      obtain ⟨j, o, hj, _, ho, hd⟩ := mem_lds.1 ht
      exact List.mem_filterMap.2 ⟨o, List.mem_of_getElem? (i := j) (by rw [List.getElem?_take, if_pos hj]; exact ho), hd⟩
    have hfl : ∀ b, b ∈ ((List.range n).map fs).flatten ↔ ∃ j, j < n ∧ b ∈ fs j := by
      intro b
      simp only [List.mem_flatten, List.mem_map, List.mem_range]
      exact ⟨fun ⟨_, ⟨j, hj, e⟩, hb⟩ => ⟨j, hj, by rw [e]; exact hb⟩, fun ⟨j, hj, hb⟩ => ⟨_, ⟨j, hj, rfl⟩, hb⟩⟩
    have hfin := heads_fin (E := E) (a := a) (w := w) (s0 := s) (fs := (List.range n).map fs) (Eq := if pr then E.plus m w.heap.size else E) hw hh hnd ?_ ?_ ?_ ?_ (Nat.le_refl _) ?_ ?_ ?_ ?_
    · obtain ⟨E', hr'⟩ := hfin
      exact htail w0 a w E' hr'
    · refine nofwd_of fun i j oi oj t h1 h2 h3 h4 => ?_
      rw [List.getElem?_take] at h1 h2
      split at h1
      · rename_i hi
        split at h2
        · rename_i hj; exact (looks_lt hB hi h1 hj h2 h3 h4).1
        · cases h2
      · cases h1
    · refine factsL_of (by rw [hkl, htl]) (by rw [hxl, htl]) (by simp [htl]) fun j o d kd x f h1 h2 h3 h4 h5 => ?_
      rw [List.getElem?_take] at h1
      split at h1
      · rename_i hj
        have : f = fs j := by simp [hj] at h5; exact h5.symm
        subst this
        exact hI.fact j o d kd x hj (hall j hj) h1 h2 h3 h4
      · cases h1
    · cases pr with
      | true => exact growA hrep hw hEm
      | false => exact hrep
    · intro i st _ hl
      refine ⟨hl, ?_⟩
      cases pr <;> rfl
    · intro hp b hb; subst hp; exact hb
    · refine nodup_flat (fun f hf => ?_) ?_
      · obtain ⟨j, hj, rfl⟩ := List.mem_map.1 hf
        have hj := List.mem_range.1 hj
        obtain ⟨kd, x, _, _, h1, h2, ⟨d, hd, _⟩, _⟩ := heads_at hh j l[j] (by rw [List.getElem?_take, if_pos hj]; exact List.getElem?_eq_getElem (by omega))
        exact fact_nodup (hI.fact j _ d kd x hj (hall j hj) (List.getElem?_eq_getElem (by omega)) hd h1 h2).1
      · rw [List.pairwise_map]
        have hpw : (List.range n).Pairwise (· ≠ ·) := List.nodup_range
        refine List.Pairwise.imp_of_mem (fun {i j} hi hj hne => ?_) hpw
        intro b hb1 hb2
        exact hI.dis i j (List.mem_range.1 hi) (List.mem_range.1 hj) (hall i (List.mem_range.1 hi)) (hall j (List.mem_range.1 hj)) hne b hb1 hb2
    · cases pr with
      | true => exact .inl rfl
      | false =>
        right
        intro b hb hbA
        obtain ⟨j, hj, hbj⟩ := (hfl b).1 hb
        have h1 := hI.blk j hj (hall j hj) b hbj
        have h2 := hEA b hbA
        omega
    · intro b hb
      obtain ⟨j, hj, hbj⟩ := (hfl b).1 hb
      have h1 := hI.blk j hj (hall j hj) b hbj
      refine ⟨h1.2, fun i hi => ⟨fun hm => ?_, fun hm => ?_⟩⟩
      · have : b ∈ E.m i := by cases pr <;> exact hm
        have := hEm i hi b this; omega
      · have : b ∈ E.o i := by cases pr <;> exact hm
        have := hEA b (hI.rep.A_o i hi b this); omega
  | succ f ih =>
    intro listed a w fs hu inv hI
    have hex : ∃ i, i < n ∧ listed.getD i false = false := by
      apply Classical.byContradiction
      intro hn
      have : (List.range n).filter (fun i => !listed.getD i false) = [] := by
        rw [List.filter_eq_nil_iff]
        intro i hi hh
        exact hn ⟨i, List.mem_range.1 hi, by simpa using hh⟩
      unfold unl at hu
      rw [this] at hu
      cases hu
    have hsz : listed.size = l.length := by rw [inv.size]; simp
    obtain ⟨i0, hi0, hun0⟩ := hex
    have hready : Region.ready .any l.toArray listed ≠ [] := by
      have : ∀ k i, i ≤ k → i < n → listed.getD i false = false → ∃ j, j ∈ Region.ready .any l.toArray listed := by
        intro k
        induction k with
        | zero =>
          intro i hik hin hun
          obtain rfl : i = 0 := by omega
          have hlt : 0 < l.length := by omega
          refine ⟨0, mem_ready.2 ⟨getD_in (by omega) hun, l[0], by simp [hlt], fun e he hb => ?_⟩⟩
          have := (hdep 0 l[0] hin (List.getElem?_eq_getElem hlt)).1 e he hb
          omega
        | succ k ihk =>
          intro i hik hin hun
          have hlt : i < l.length := by omega
          by_cases hall : ∀ j, j < i → listed.getD j false = true
          · exact ⟨i, mem_ready.2 ⟨getD_in (by omega) hun, l[i], by simp [hlt], fun e he hb => hall _ ((hdep i l[i] hin (List.getElem?_eq_getElem hlt)).1 e he hb)⟩⟩
          · have : ∃ j, j < i ∧ listed.getD j false = false := by
              apply Classical.byContradiction
              intro hn
              exact hall fun j hj => by
                cases h : listed.getD j false with
                | true => rfl
                | false => exact absurd ⟨j, hj, h⟩ hn
            obtain ⟨j, hj, hju⟩ := this
            exact ihk j (by omega) (by omega) hju
      obtain ⟨j, hj⟩ := this i0 i0 (Nat.le_refl _) hi0 hun0
      intro e
      rw [e] at hj; cases hj
    rw [show f + 1 + (l.length - n) = (f + (l.length - n)) + 1 from by omega]
    refine ⟨fun h => absurd h hready, fun i hi => ?_⟩
    have hin : i < n := by
      obtain ⟨_, oi, hoi, _⟩ := mem_ready.1 hi
      have hil : i < l.length := by
        have := (Array.getElem?_eq_some_iff.1 hoi).1; simpa using this
      rcases hsink with rfl | ⟨hlt, hs, hc⟩
      · exact hil
      · rcases Nat.lt_or_ge i n with h | h
        · exact h
        · exact absurd hi (tail_waits hs hc (by simpa using hlt) inv _ i0 rfl hi0 (getD_in (by omega) hun0) i h)
    obtain ⟨hun, oi, hoi, hall⟩ := mem_ready.1 hi
    have hoil : l[i]? = some oi := by simpa using hoi
    have hilt : i < l.length := (List.getElem?_eq_some_iff.1 hoil).1
    obtain ⟨kd, x, qi, qi', hkd, hx, ⟨d, hd, hdN⟩, hstp⟩ := heads_at hh i oi (by rw [List.getElem?_take, if_pos hin]; exact hoil)
    have htt : (l.take n).take i = l.take i := by rw [List.take_take, Nat.min_eq_left (by omega)]
    rw [htt] at hstp
    -- the slots it looks at
    have hlook : ∀ t ∈ oi.looksAt l.toArray, SlotR w (E.plus m w.heap.size) s.lv s.c ((hAt s (l.take i) xs).sl t) (a.tmps.getD t undef) := by
      intro t ht
      by_cases hex : ∃ j oj, j < n ∧ l[j]? = some oj ∧ oj.dst = some t
      · obtain ⟨j, oj, hj, hoj, hdj⟩ := hex
        obtain ⟨hji, hwt⟩ := looks_lt hB hin hoil hj hoj hdj ht
        have hlj : listed.getD j false = true := by
          obtain ⟨oi', hoi', e, he, hb, hon⟩ := Region.waitsFor_spec hwt
          have : oi' = oi := Option.some.inj (hoi'.symm.trans hoi)
          subst this
          rw [← hon]; exact hall e he hb
        have hjx : j < xs.length := by omega
        have hjk : j < kds.length := by omega
        have hs := (hI.fact j oj t _ _ hj hlj hoj hdj (List.getElem?_eq_getElem hjk) (List.getElem?_eq_getElem hjx)).2
        have hnd' : (dsts (l.take i)).Nodup := by
          have : l.take n = l.take i ++ (l.take n).drop i := by rw [← htt, List.take_append_drop]
          rw [this] at hnd
          unfold dsts at hnd
          rw [List.filterMap_append] at hnd
          exact (List.nodup_append.1 hnd).1
        rw [hAt_in hnd' (by rw [List.getElem?_take, if_pos hji]; exact hoj) (List.getElem?_eq_getElem hjx) hdj]
        exact hs
      · have hout : (hAt s (l.take i) xs).sl t = s.sl t := by
          refine hAt_out fun o ho hdo => ?_
          obtain ⟨j, hj, rfl⟩ := List.mem_iff_getElem.1 ho
          have hji : j < i := by simp at hj; omega
          exact hex ⟨j, _, by omega, by rw [List.getElem?_eq_getElem (by omega)], by rw [List.getElem_take] at hdo; exact hdo⟩
        rw [hout]
        have := hI.rep.slot t
        simp only [undL] at this
        rw [if_neg (by
          simp only [List.contains_iff_mem]
          intro hm
          obtain ⟨j, o, hj, _, ho, hdo⟩ := mem_lds.1 hm
          exact hex ⟨j, o, hj, ho, hdo⟩)] at this
        exact this.stay ⟨fun b hb => ⟨.inl hb, rfl⟩, fun i st _ h => ⟨h, rfl⟩, Nat.le_refl _⟩
    obtain ⟨ha1, ha2, ha3⟩ := hAt_same (l := l.take i) (xs := xs) (s := s)
    have hrepH : RepE w0 N { s with sl := fun t => if (oi.looksAt l.toArray).contains t then (hAt s (l.take i) xs).sl t else .und } a w (E.plus m w.heap.size) := by
      have hg := growA hI.rep hw hEm
      have := reslot hg (sl' := fun t => if (oi.looksAt l.toArray).contains t then (hAt s (l.take i) xs).sl t else .und) (fun t => by
        split
        · rename_i ht; exact hlook t (by simpa using ht)
        · trivial)
      exact this
    have hal : Alike (hAt s (l.take i) xs) { s with sl := fun t => if (oi.looksAt l.toArray).contains t then (hAt s (l.take i) xs).sl t else .und } oi.op.operands.toList := by
      refine ⟨ha1.symm, ha2.symm, fun t ht => ?_⟩
      have : t ∈ oi.looksAt l.toArray := List.mem_append_left _ (List.mem_filterMap.2 ⟨.tmp t, ht, rfl⟩)
      simp only
      rw [if_pos (by simpa using this)]
    have hIA : ∀ b, E.A b → b < w.heap.size := fun b hb => Nat.lt_of_lt_of_le (hEA b hb) hI.le
    -- behind it
    have hnext : ∀ v w' f', Below w.heap.size w w' → (∀ b ∈ f', w.heap.size ≤ b ∧ b < w'.heap.size) → Fact m E s.lv s.c a w' v f' kd → SlotR w' (E.plus m w'.heap.size) s.lv s.c x v →
        wpAny P .any l.toArray (AQ w0 N Q) (f + (l.length - n)) (listed.setIfInBounds i true) (a.put oi.dst v) w' := by
      intro v w' f' hb hf' hfa hsl
      have hlt : i < listed.size := by omega
      have hcount := filter_len_lt (fun k => !listed.getD k false) (fun k => !(listed.setIfInBounds i true).getD k false)
        (fun k hk => by
          by_cases e : i = k
          · subst e; simp [hlt] at hk
          · rwa [getD_set_ne false e] at hk)
        (List.range n) i (List.mem_range.2 hin) (by simp [getD_both hun]) (by simp [hlt]) List.nodup_range
        (fun k hk hne => by rw [getD_set_ne false (Ne.symm hne)]; exact hk)
      have hset : ∀ j, (listed.setIfInBounds i true).getD j false = true → j = i ∨ listed.getD j false = true := by
        intro j hj
        by_cases e : i = j
        · exact .inl e.symm
        · rw [getD_set_ne false e] at hj; exact .inr hj
      have hundne : ∀ j oj, j < n → listed.getD j false = true → l[j]? = some oj → oj.dst ≠ some d := by
        intro j oj hj hlj hoj hdj
        have hne : j ≠ i := fun e => by subst e; rw [getD_both hun] at hlj; cases hlj
        -- two operations of the head with one slot
        have key : ∀ {l' : List Oper} {p q : Nat} {op oq : Oper} {t : Nat}, (dsts l').Nodup → l'[p]? = some op → l'[q]? = some oq → op.dst = some t → oq.dst = some t → p = q := by
          intro l'
          induction l' with
          | nil => intro p q op oq t _ h1; simp at h1
          | cons z l' ih =>
            intro p q op oq t hn h1 h2 h3 h4
            have hn' : (dsts l').Nodup := by
              unfold dsts at hn ⊢
              rw [List.filterMap_cons] at hn
              split at hn
              · exact hn
              · exact (List.nodup_cons.1 hn).2
            have hz : ∀ (y : Oper), z.dst = some t → y ∈ l' → y.dst ≠ some t := by
              intro y hzt hy hyt
              unfold dsts at hn
              rw [List.filterMap_cons, hzt] at hn
              exact (List.nodup_cons.1 hn).1 (List.mem_filterMap.2 ⟨y, hy, hyt⟩)
            cases p with
            | zero => cases q with
              | zero => rfl
              | succ q => simp at h1 h2; subst h1; exact absurd h4 (hz oq h3 (List.mem_of_getElem? h2))
            | succ p => cases q with
              | zero => simp at h1 h2; subst h2; exact absurd h3 (hz op h4 (List.mem_of_getElem? h1))
              | succ q => exact congrArg (· + 1) (ih hn' (by simpa using h1) (by simpa using h2) h3 h4)
        exact hne (key hnd (by rw [List.getElem?_take, if_pos hj]; exact hoj) (by rw [List.getElem?_take, if_pos hin]; exact hoil) hdj hd)
      refine ih _ _ w' (fun j => if j = i then f' else fs j) ?_ (inv.set hi hin) ⟨?_, Nat.le_trans hI.le hb.size, ?_, ?_, ?_⟩
      · unfold unl at hu ⊢; omega
      · have h1 := (hI.rep.world' hb).put (d := oi.dst) (x := .und) (v := v) trivial (fun k hk => by have e := Option.some.inj (hd.symm.trans hk); rw [← e]; exact hdN)
        refine h1.weaken (s' := undL s (lds l n (listed.setIfInBounds i true))) (by rw [AS.put_n]; exact Nat.le_refl _) (by rw [AS.put_c]; exact Nat.le_refl _) (fun j _ => .inl (by rw [AS.put_ob]; rfl)) (fun t => ?_)
        simp only [undL]
        by_cases ht : t ∈ lds l n (listed.setIfInBounds i true)
        · right; rw [if_pos (by simpa using ht)]
        · left
          rw [if_neg (by simpa using ht)]
          have htd : oi.dst ≠ some t := fun e => ht (mem_lds.2 ⟨i, oi, hin, by simp [hlt], hoil, e⟩)
          rw [put_sl_ne htd]
          simp only [undL]
          rw [if_neg (by
            simp only [List.contains_iff_mem]
            intro hm
            obtain ⟨j, oj, hj, hlj, hoj, hdj⟩ := mem_lds.1 hm
            refine ht (mem_lds.2 ⟨j, oj, hj, ?_, hoj, hdj⟩)
            by_cases e : i = j
            · subst e; simp [hlt]
            · rw [getD_set_ne false e]; exact hlj)]
      · intro j oj dj kdj xj hj hlj hoj hdj hkdj hxj
        by_cases e : j = i
        · subst e
          have : oj = oi := Option.some.inj (hoj.symm.trans hoil)
          subst this
          rw [hd] at hdj; injection hdj with hdj; subst hdj
          rw [hkd] at hkdj; injection hkdj with hkdj; subst hkdj
          rw [hx] at hxj; injection hxj with hxj; subst hxj
          rw [hd, put_getD (by rw [hI.rep.size]; exact hdN), if_pos rfl]
          refine ⟨?_, hsl⟩
          refine fact_keep hfa (Below.refl _ _) ?_
          -- its own slot is none of its operands
          rintro el k parts rfl y hy hyt
          have hop : Operand.tmp d ∈ oj.op.operands.toList := by
            have hrun : HRun P pr (hAt s (l.take j) xs) qi oj (.b el k parts) x qi' := by
              cases hgd : oj.guard with
              | none => rw [hgd] at hstp; exact hstp
              | some gw =>
                rw [hgd] at hstp
                obtain ⟨t, b, _, _, _, hbb⟩ := hstp
                split at hbb
                · exact hbb
                · cases hbb.1
            rcases hrun with ⟨y', _, h1, _⟩ | ⟨_, _, _, _, _, _, _, _, _, _, h1, _⟩ | ⟨t, len, parts', el', k', es, esq, ho, _, _, _, _, _, _, _, _, h1, _⟩
            · cases h1
            · cases h1
            · injection h1 with h1 h2 h3
              rw [ho, ← fill_bs, ← h3]
              exact List.mem_map.2 ⟨y, hy, hyt⟩
          have hlk : d ∈ oj.looksAt l.toArray := List.mem_append_left _ (List.mem_filterMap.2 ⟨.tmp d, hop, rfl⟩)
          have := (looks_lt hB hin hoil hin hoil hd hlk).1
          omega
        · have hlj' : listed.getD j false = true := (hset j hlj).resolve_left e
          obtain ⟨g1, g2⟩ := hI.fact j oj dj kdj xj hj hlj' hoj hdj hkdj hxj
          have hne : dj ≠ d := fun e' => hundne j oj hj hlj' hoj (by rw [hdj, e'])
          rw [hd, put_getD_ne hne, if_neg e]
          refine ⟨fact_keep g1 hb ?_, g2.stay (plus_stay hb hIA)⟩
          rintro el k parts rfl y hy hyt
          -- an operation that has run looked at this slot: then that of the slot has run
          have hop : Operand.tmp d ∈ oj.op.operands.toList := by
            obtain ⟨kd', x', qj, qj', h1, h2, _, hst⟩ := heads_at hh j oj (by rw [List.getElem?_take, if_pos hj]; exact hoj)
            rw [hkdj] at h1; injection h1 with h1; subst h1
            have hrun : HRun P pr (hAt s ((l.take n).take j) xs) qj oj (.b el k parts) x' qj' := by
              cases hgd : oj.guard with
              | none => rw [hgd] at hst; exact hst
              | some gw =>
                rw [hgd] at hst
                obtain ⟨t, b, _, _, _, hbb⟩ := hst
                split at hbb
                · exact hbb
                · cases hbb.1
            rcases hrun with ⟨y', _, h1, _⟩ | ⟨_, _, _, _, _, _, _, _, _, _, h1, _⟩ | ⟨t, len, parts', el', k', es, esq, ho, _, _, _, _, _, _, _, _, h1, _⟩
            · cases h1
            · cases h1
            · injection h1 with h1 h2 h3
              rw [ho, ← fill_bs, ← h3]
              exact List.mem_map.2 ⟨y, hy, hyt⟩
          have hlk : d ∈ oj.looksAt l.toArray := List.mem_append_left _ (List.mem_filterMap.2 ⟨.tmp d, hop, rfl⟩)
          obtain ⟨_, hwt⟩ := looks_lt hB hj hoj hin hoil hd hlk
          obtain ⟨oj', hoj', ed, he, hbd, hon⟩ := Region.waitsFor_spec hwt
          have : oj' = oj := Option.some.inj (hoj'.symm.trans (by simpa using hoj))
          subst this
          have := inv.closed j oj' hoj' hlj' ed he hbd
          rw [hon, getD_both hun] at this; cases this
      · intro j hj hlj b hbj
        by_cases e : j = i
        · rw [if_pos e] at hbj
          have := hf' b hbj
          have := hI.le
          omega
        · rw [if_neg e] at hbj
          have h1 := hI.blk j hj ((hset j hlj).resolve_left e) b hbj
          have := hb.size
          omega
      · intro p q' hp hq hlp hlq hne b hbp hbq
        by_cases e1 : p = i
        · by_cases e2 : q' = i
          · omega
          · rw [if_pos e1] at hbp; rw [if_neg e2] at hbq
            have h1 := hf' b hbp
            have h2 := hI.blk q' hq ((hset q' hlq).resolve_left e2) b hbq
            omega
        · by_cases e2 : q' = i
          · rw [if_neg e1] at hbp; rw [if_pos e2] at hbq
            have h1 := hf' b hbq
            have h2 := hI.blk p hp ((hset p hlp).resolve_left e1) b hbp
            omega
          · rw [if_neg e1] at hbp; rw [if_neg e2] at hbq
            exact hI.dis p q' hp hq ((hset p hlp).resolve_left e1) ((hset q' hlq).resolve_left e2) hne b hbp hbq
    have hrun : HRun P pr (hAt s (l.take i) xs) qi oi kd x qi' → oi.wp P a w (fun a' w' => wpAny P .any l.toArray (AQ w0 N Q) (f + (l.length - n)) (listed.setIfInBounds i true) a' w') (AQ w0 N Q) := by
      intro hr
      refine Oper.wp_mono2 (fun a' w' hp => ?_) (hrun_ok hr hal hrepH hIA hI.le)
      obtain ⟨v, f', rfl, hb, hf', hfa, hsl⟩ := hp
      exact hnext v w' f' hb hf' hfa hsl
    unfold wpOp
    simp only [hoi]
    cases hgd : oi.guard with
    | none =>
      rw [hgd] at hstp
      rw [if_pos (by simp [Region.wanted, hgd])]
      exact .inl (hrun hstp)
    | some gw =>
      obtain ⟨g, want⟩ := gw
      rw [hgd] at hstp
      obtain ⟨t, b, hgs, htN, hsb, hbb⟩ := hstp
      have hlk : t ∈ oi.looksAt l.toArray := by
        unfold Oper.looksAt
        refine List.mem_append_right _ ?_
        rw [hgd]
        unfold gslot at hgs
        simp only [hgs]; simp
      have hy : yielded l.toArray a.tmps g = some b := yielded_ok (s := { s with sl := fun t => if (oi.looksAt l.toArray).contains t then (hAt s (l.take i) xs).sl t else .und }) hrepH hgs (by simp only; rw [if_pos (by simpa using hlk)]; exact hsb) htN
      split at hbb
      · rename_i hw; subst hw
        rw [if_pos (by simp [Region.wanted, hgd, hy])]
        exact .inl (hrun hbb)
      · rename_i hw
        rw [if_neg (by simp [Region.wanted, hgd, hy, hw])]
        obtain ⟨rfl, rfl, -⟩ := hbb
        exact hnext undef w [] (Below.refl _ _) (by simp) rfl trivial

/-- THE LAW -/
theorem awp_draw {id : Nat} (n : Nat) (pr : Bool) (hm : P.follows .mixedOrders = true) (hB : drawB l n = true) (hh : Heads P N pr l.toArray (l.take n) s s kds xs qF) (htail : AOps P N l.toArray (l.drop n) Q qF) : AWp P N (.region id l.toArray true) Q s := by
  intro w0 a w E hr
  unfold drawB at hB
  rw [Bool.and_eq_true, decide_eq_true_eq] at hB
  obtain ⟨hB, hnd⟩ := hB
  refine wp_region_any hm ?_
  have hnl := (fixB_parts hB).2.1
  have hu : unl n (Array.replicate l.toArray.size false) = n := by
    unfold unl
    have : (List.range n).filter (fun i => !(Array.replicate l.toArray.size false).getD i false) = List.range n := by
      rw [List.filter_eq_self]
      intro i _
      rw [getD_replicate_false]; rfl
    rw [this]; simp
  have hr' : RepE w0 N s a w.drew E := hr.world' (Below.refl _ _).drew
  have h := wpAny_heads (m := w.drew.heap.size) (E := E) hB hnd hh hr'.bel.size (fun i hi b hb => hr'.m_lt i hi b hb) hr'.A_lt htail n (Array.replicate l.toArray.size false) a w.drew (fun _ => []) hu
    ⟨by simp, fun j oj _ hl => (by rw [getD_replicate_false] at hl; cases hl), fun t _ ht => getD_in (by simpa using ht) (getD_replicate_false _ _)⟩
    ⟨by
      have : lds l n (Array.replicate l.toArray.size false) = [] := by
        rw [List.eq_nil_iff_forall_not_mem]
        intro t ht
        obtain ⟨j, o, _, hl, _⟩ := mem_lds.1 ht
        rw [getD_replicate_false] at hl; cases hl
      rw [this]
      have e : undL s [] = s := by unfold undL; simp
      rw [e]; exact hr', Nat.le_refl _, fun j o d kd x _ hl => (by rw [getD_replicate_false] at hl; cases hl), fun j _ hl => (by rw [getD_replicate_false] at hl; cases hl), fun i j _ _ hl => (by rw [getD_replicate_false] at hl; cases hl)⟩
  rw [show l.toArray.size = n + (l.length - n) from by simp; omega]
  rw [show (Array.replicate l.toArray.size false) = Array.replicate (n + (l.length - n)) false from by congr 1; simp; omega] at h
  exact h
end
end Go.Proofs.Ytlcnokbhoekpkaa
