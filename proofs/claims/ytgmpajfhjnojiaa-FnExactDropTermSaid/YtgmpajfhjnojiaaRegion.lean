/- A law for a region that draws its order: each operation of its head is run once, in the frame that all of them leave, in whatever world meets S; then the tail in its forced order. No program here. -/
import Derived.StillTail
import Derived.WalkKit
namespace Go.Proofs.Ytgmpajfhjnojiaa
open Go
set_option linter.unusedVariables false
set_option linter.unusedSimpArgs false

/-- the frame behind all operations of the head: their values in their slots -/
def putsOps : List Oper → List Value → Act → Act
  | o :: l, v :: vs, a => putsOps l vs (a.put o.dst v)
  | _, _, a => a

def headAll (n m : Nat) : Array Bool := Array.replicate n true ++ Array.replicate m false

/-- what the law asks of the region's text -/
def fixB (md : Region.Mode) (l : List Oper) (n : Nat) : Bool :=
  Region.noSelect l.toArray && (decide (n ≤ l.length) && ((decide (n = l.length) || (decide (n < l.length) && (Region.sinkB md l.toArray n && Region.chainB md l.toArray n))) &&
  (Region.seqB md l.toArray (l.length - n) n (headAll n (l.length - n)) &&
  ((List.range n).all fun i => ((l[i]?).map fun oi => (oi.after.all fun e => !Region.binds md e || decide (e.on < i)) &&
    ((List.range n).all fun j => ((l[j]?).map fun oj => match oj.dst with | some d => !(oi.looksAt l.toArray).contains d || Region.waitsFor md l.toArray i j | none => true).getD true)).getD true))))

def FixPost (aF : Act) (S : World → Prop) (e : Exit) (a : Act) (w : World) : Prop := e = .normal ∧ a = aF ∧ S w

def FixOps (P : Program) (ops : Array Oper) (aF : Act) (S : World → Prop) : List Oper → Prop
  | [] => True
  | o :: r => (∀ w, S w → wpList P ops (FixPost aF S) [o] aF w) ∧ FixOps P ops aF S r

theorem FixOps.mem {P : Program} {ops : Array Oper} {aF : Act} {S : World → Prop} : ∀ {l : List Oper}, FixOps P ops aF S l → ∀ o ∈ l, ∀ w, S w → wpList P ops (FixPost aF S) [o] aF w
  | [], _, o, ho => by cases ho
  | x :: l, h, o, ho => by
    rcases List.mem_cons.1 ho with rfl | ho
    · exact h.1
    · exact FixOps.mem h.2 o ho

section
variable {P : Program} {l : List Oper} {md : Region.Mode} {aF : Act} {S : World → Prop} {Q : Exit → Act → World → Prop} {n : Nat}

theorem no_out : ¬ LetsOut (FixPost aF S) := by rintro ⟨a, w, h, _⟩; cases h

theorem put_same_defers {a : Act} {d : Option Tmp} {v : Value} : (a.put d v).defers = a.defers := by cases d <;> rfl

/-- an operation that is run in the frame aF, carried to a frame that agrees with it where it looks -/
theorem upon_fix {o : Oper} {a : Act} {r : Result Next} (h : o.upon P aF (fun a' w' => FixPost aF S .normal a' w') (FixPost aF S) r) :
    o.upon P a (fun a' w' => ∃ v, a' = a.put o.dst v ∧ aF.put o.dst v = aF ∧ S w') Q r := by
  cases r with
  | ok x w' =>
    cases x <;> simp only [Oper.upon] at h ⊢
    case value v => exact ⟨v, rfl, h.2.1, h.2.2⟩
    case skip => exact ⟨undef, rfl, h.2.1, h.2.2⟩
    case defer d =>
      have := congrArg Act.defers h.2.1
      rw [put_same_defers] at this
      have := congrArg List.length this
      simp at this
    case enter f args =>
      refine Calls.mono h fun e w'' he => ?_
      cases e with
      | returned v => exact ⟨v, rfl, he.2.1, he.2.2⟩
      | panicked c => cases he.1
      | outgrown => exact absurd he no_out
    case row row args => exact Rows.mono h fun v w'' he => ⟨v, rfl, he.2.1, he.2.2⟩
  | halt x w' =>
    cases x <;> simp only [Oper.upon] at h ⊢
    case panic v => cases h.1

/-- the frame agrees with aF but for the slots of operations still to come -/
structure Agree (l : List Oper) (n : Nat) (aF : Act) (listed : Array Bool) (a : Act) : Prop where
  defers : a.defers = aF.defers
  size : a.tmps.size = aF.tmps.size
  slot : ∀ t, (∀ j o, j < n → l[j]? = some o → o.dst = some t → listed.getD j false = true) → a.tmps[t]? = aF.tmps[t]?

theorem Agree.same {a : Act} {listed : Array Bool} (h : Agree l n aF listed a) {o : Oper} (hs : ∀ cs b, o.op ≠ .select cs b) (hl : ∀ t ∈ o.looksAt l.toArray, a.tmps[t]? = aF.tmps[t]?) :
    execOp a.eval o = execOp aF.eval o ∧ Region.wanted o (yielded l.toArray a.tmps) = Region.wanted o (yielded l.toArray aF.tmps) := by
  constructor
  · refine execOp_congr o hs fun x hx => ?_
    cases x with
    | tmp t =>
      have := hl t (List.mem_append_left _ (List.mem_filterMap.2 ⟨.tmp t, by simpa using hx, rfl⟩))
      simp [Act.eval, this]
    | _ => rfl
  · unfold Region.wanted
    cases hg : o.guard with
    | none => rfl
    | some gw =>
      obtain ⟨g, want⟩ := gw
      have hy : yielded l.toArray a.tmps g = yielded l.toArray aF.tmps g := by
        unfold yielded
        cases ht : (l.toArray[g]?).bind (·.dst) with
        | none => rfl
        | some t =>
          have := hl t (by simp only [Oper.looksAt, hg]; rw [ht]; simp)
          simp [this]
      simp only [hy]

theorem Agree.put {a : Act} {listed : Array Bool} (h : Agree l n aF listed a) {i : Nat} {o : Oper} {v : Value} (hi : l[i]? = some o) (hin : i < n) (hli : i < listed.size) (hv : aF.put o.dst v = aF) :
    Agree l n aF (listed.setIfInBounds i true) (a.put o.dst v) := by
  refine ⟨by rw [put_same_defers]; exact h.defers, ?_, fun t ht => ?_⟩
  · have := h.size
    cases hd : o.dst with
    | none => exact this
    | some d => simpa [Act.put] using this
  · by_cases hd : o.dst = some t
    · rw [hd] at hv ⊢
      have e : aF.tmps[t]? = (aF.tmps.setIfInBounds t v)[t]? := by
        have := congrArg (fun a => a.tmps[t]?) hv
        simpa [Act.put] using this.symm
      rw [e]
      have hs := h.size
      simp only [Act.put, Array.getElem?_setIfInBounds]
      by_cases hlt : t < aF.tmps.size
      · simp [hlt, hs]
      · simp [hlt, hs]
    · have h1 : (a.put o.dst v).tmps[t]? = a.tmps[t]? := by
        cases hd' : o.dst with
        | none => rfl
        | some d =>
          have hne : d ≠ t := fun e => hd (by rw [hd', e])
          simp [Act.put, Array.getElem?_setIfInBounds_ne hne]
      rw [h1]
      refine h.slot t fun j oj hj hoj hdj => ?_
      have h2 := ht j oj hj hoj hdj
      by_cases hij : i = j
      · subst hij
        rw [hi] at hoj; injection hoj with e; subst e
        exact absurd hdj hd
      · rwa [getD_set_ne false hij] at h2

theorem puts_agree : ∀ (hd : List Oper) (vs : List Value) (a : Act) (t : Nat), (∀ o ∈ hd, o.dst ≠ some t) → (putsOps hd vs a).tmps[t]? = a.tmps[t]?
  | [], vs, a, t, _ => by cases vs <;> rfl
  | o :: hd, [], a, t, _ => rfl
  | o :: hd, v :: vs, a, t, h => by
    rw [putsOps, puts_agree hd vs _ t (fun x hx => h x (List.mem_cons_of_mem _ hx))]
    cases hd' : o.dst with
    | none => rfl
    | some d =>
      have hne : d ≠ t := fun e => h o (List.mem_cons_self ..) (by rw [hd', e])
      simp [Act.put, Array.getElem?_setIfInBounds_ne hne]
theorem puts_size : ∀ (hd : List Oper) (vs : List Value) (a : Act), (putsOps hd vs a).tmps.size = a.tmps.size ∧ (putsOps hd vs a).defers = a.defers
  | [], vs, a => by cases vs <;> exact ⟨rfl, rfl⟩
  | o :: hd, [], a => ⟨rfl, rfl⟩
  | o :: hd, v :: vs, a => by
    rw [putsOps]
    have h := puts_size hd vs (a.put o.dst v)
    rw [h.1, h.2, put_same_defers]
    refine ⟨?_, rfl⟩
    cases o.dst with
    | none => rfl
    | some d => simp [Act.put]

def unl (n : Nat) (listed : Array Bool) : Nat := ((List.range n).filter fun i => !listed.getD i false).length

theorem filter_len_lt {α : Type} (p q : α → Bool) (h : ∀ x, q x = true → p x = true) : ∀ (l : List α) (y : α), y ∈ l → p y = true → q y = false → l.Nodup → (∀ x, p x = true → x ≠ y → q x = true) → (l.filter p).length = (l.filter q).length + 1
  | [], y, hy, _, _, _, _ => by cases hy
  | x :: l, y, hy, hp, hq, hnd, hpq => by
    rw [List.nodup_cons] at hnd
    by_cases e : x = y
    · subst e
      rw [List.filter_cons_of_pos hp, List.filter_cons_of_neg (by simp [hq])]
      have : l.filter p = l.filter q := List.filter_congr fun z hz => by
        have hzx : z ≠ x := fun e => hnd.1 (e ▸ hz)
        cases hpz : p z with
        | true => rw [hpq z hpz hzx]
        | false => cases hqz : q z with
          | true => rw [h z hqz] at hpz; cases hpz
          | false => rfl
      rw [this]; rfl
    · have hy' : y ∈ l := by rcases List.mem_cons.1 hy with h | h; exact absurd h.symm e; exact h
      have ih := filter_len_lt p q h l y hy' hp hq hnd.2 hpq
      cases hpx : p x with
      | true => rw [List.filter_cons_of_pos hpx, List.filter_cons_of_pos (hpq x hpx e)]; simp [ih]
      | false =>
        have hqx : q x = false := by
          cases hqx : q x with
          | true => rw [h x hqx] at hpx; cases hpx
          | false => rfl
        rw [List.filter_cons_of_neg (by simp [hpx]), List.filter_cons_of_neg (by simp [hqx])]; exact ih

theorem fixB_parts (h : fixB md l n = true) : Region.noSelect l.toArray = true ∧ n ≤ l.length ∧ (n = l.length ∨ (n < l.length ∧ Region.sinkB md l.toArray n = true ∧ Region.chainB md l.toArray n = true)) ∧
    Region.seqB md l.toArray (l.length - n) n (headAll n (l.length - n)) = true ∧
    ∀ i oi, i < n → l[i]? = some oi → (∀ e ∈ oi.after, Region.binds md e = true → e.on < i) ∧ ∀ j oj, j < n → l[j]? = some oj → ∀ d, oj.dst = some d → d ∈ oi.looksAt l.toArray → Region.waitsFor md l.toArray i j = true := by
  simp only [fixB, Bool.and_eq_true, Bool.or_eq_true, decide_eq_true_eq] at h
  obtain ⟨h1, h2, h3, h4, h5⟩ := h
  refine ⟨h1, h2, h3, h4, fun i oi hi hoi => ?_⟩
  have h6 := List.all_eq_true.1 h5 i (List.mem_range.2 hi)
  rw [hoi] at h6
  simp only [Option.map_some, Option.getD_some, Bool.and_eq_true] at h6
  refine ⟨fun e he hb => ?_, fun j oj hj hoj d hd hmem => ?_⟩
  · have := Array.all_eq_true_iff_forall_mem.1 h6.1 e he
    simpa [hb] using this
  · have h7 := List.all_eq_true.1 h6.2 j (List.mem_range.2 hj)
    rw [hoj] at h7
    simp only [Option.map_some, Option.getD_some, hd] at h7
    simpa [hmem] using h7

theorem listed_all {listed : Array Bool} (inv : HeadInv md l.toArray n listed) (hn : n ≤ l.length) (h : unl n listed = 0) : listed = headAll n (l.length - n) := by
  have hz : ∀ i, i < n → listed.getD i false = true := by
    intro i hi
    have h0 := List.eq_nil_of_length_eq_zero h
    cases hl : listed.getD i false with
    | true => rfl
    | false =>
      have : i ∈ (List.range n).filter fun i => !listed.getD i false := List.mem_filter.2 ⟨List.mem_range.2 hi, by simp [hl]⟩
      rw [h0] at this; cases this
  have hsz : listed.size = l.length := by rw [inv.size]; simp
  apply Array.ext
  · simp [headAll, hsz]; omega
  · intro i h1 h2
    by_cases hi : i < n
    · have := hz i hi
      simp [h1] at this
      simp [headAll, Array.getElem_append, hi, this]
    · have := inv.tail i (by omega) (by simp; omega)
      simp [h1] at this
      simp [headAll, Array.getElem_append, hi, this]

theorem wpAny_fix (hB : fixB md l n = true) (hops : FixOps P l.toArray aF S (l.take n)) (htail : ∀ w, S w → wpList P l.toArray Q (l.drop n) aF w) :
    ∀ (f : Nat) (listed : Array Bool) (a : Act) (w : World), unl n listed = f → S w → HeadInv md l.toArray n listed → Agree l n aF listed a → wpAny P md l.toArray Q (f + (l.length - n)) listed a w := by
  obtain ⟨hsel, hnl, hsink, hseq, hdep⟩ := fixB_parts hB
  intro f
  induction f with
  | zero =>
    intro listed a w hu hS inv hag
    obtain rfl := listed_all inv hnl hu
    have ha : a = aF := by
      obtain ⟨t, d⟩ := a
      have h1 := hag.defers
      have h2 : t = aF.tmps := by
        apply Array.ext_getElem?
        intro i
        refine hag.slot i fun j o hj _ _ => ?_
        simp [headAll, Array.getElem?_append, hj]
      cases aF
      simp only at h1 h2
      rw [h1, h2]
    subst ha
    rw [Nat.zero_add, show l.length - n = (l.drop n).length from by simp]
    exact wpAny_of_seq (l.drop n) n _ _ w (fun j => by simp [List.getElem?_drop]) (by simpa using hseq) (htail w hS)
  | succ f ih =>
    intro listed a w hu hS inv hag
    -- an operation of the head that is not listed, the first of them
    have hex : ∃ i, i < n ∧ listed.getD i false = false := by
      apply Classical.byContradiction
      intro hn
      have : (List.range n).filter (fun i => !listed.getD i false) = [] := by
        rw [List.filter_eq_nil_iff]
        intro i hi hh
        exact hn ⟨i, List.mem_range.1 hi, by simpa using hh⟩
      unfold unl at hu
      rw [this] at hu
      cases hu
    have hsz : listed.size = l.length := by rw [inv.size]; simp
    obtain ⟨i0, hi0, hun0⟩ := hex
    have hready : Region.ready md l.toArray listed ≠ [] := by
      have : ∀ k i, i ≤ k → i < n → listed.getD i false = false → ∃ j, j ∈ Region.ready md l.toArray listed := by
        intro k
        induction k with
        | zero =>
          intro i hik hin hun
          obtain rfl : i = 0 := by omega
          have hlt : 0 < l.length := by omega
          refine ⟨0, mem_ready.2 ⟨getD_in (by omega) hun, l[0], by simp [hlt], fun e he hb => ?_⟩⟩
          have := (hdep 0 l[0] hin (List.getElem?_eq_getElem hlt)).1 e he hb
          omega
        | succ k ihk =>
          intro i hik hin hun
          have hlt : i < l.length := by omega
          by_cases hall : ∀ j, j < i → listed.getD j false = true
          · exact ⟨i, mem_ready.2 ⟨getD_in (by omega) hun, l[i], by simp [hlt], fun e he hb => hall _ ((hdep i l[i] hin (List.getElem?_eq_getElem hlt)).1 e he hb)⟩⟩
          · have : ∃ j, j < i ∧ listed.getD j false = false := by
              apply Classical.byContradiction
              intro hn
              exact hall fun j hj => by
                cases h : listed.getD j false with
                | true => rfl
                | false => exact absurd ⟨j, hj, h⟩ hn
            obtain ⟨j, hj, hju⟩ := this
            exact ihk j (by omega) (by omega) hju
      obtain ⟨j, hj⟩ := this i0 i0 (Nat.le_refl _) hi0 hun0
      intro e
      rw [e] at hj; cases hj
    rw [show f + 1 + (l.length - n) = (f + (l.length - n)) + 1 from by omega]
    refine ⟨fun h => absurd h hready, fun i hi => ?_⟩
    have hin : i < n := by
      obtain ⟨_, oi, hoi, _⟩ := mem_ready.1 hi
      have hil : i < l.length := by
        have := (Array.getElem?_eq_some_iff.1 hoi).1; simpa using this
      rcases hsink with rfl | ⟨hlt, hs, hc⟩
      · exact hil
      · rcases Nat.lt_or_ge i n with h | h
        · exact h
        · exact absurd hi (tail_waits hs hc (by simpa using hlt) inv _ i0 rfl hi0 (getD_in (by omega) hun0) i h)
    obtain ⟨hun, oi, hoi, hall⟩ := mem_ready.1 hi
    have hoil : l[i]? = some oi := by simpa using hoi
    have hilt : i < l.length := (List.getElem?_eq_some_iff.1 hoil).1
    have hmem : oi ∈ l.take n := List.mem_of_getElem? (i := i) (by rw [List.getElem?_take, if_pos hin]; exact hoil)
    have hlook : ∀ t ∈ oi.looksAt l.toArray, a.tmps[t]? = aF.tmps[t]? := by
      intro t ht
      refine hag.slot t fun j oj hj hoj hdj => ?_
      have hw := (hdep i oi hin hoil).2 j oj hj hoj t hdj ht
      obtain ⟨oi', hoi', e, he, hb, hon⟩ := Region.waitsFor_spec hw
      have : oi' = oi := Option.some.inj (hoi'.symm.trans hoi)
      subst this
      rw [← hon]
      exact hall e he hb
    obtain ⟨hex, hwant⟩ := hag.same (fun cs b => Region.noSelect_spec hsel i oi cs b hoi) hlook
    have hrun := FixOps.mem hops oi hmem w hS
    have hnext : ∀ v w', aF.put oi.dst v = aF → S w' → wpAny P md l.toArray Q (f + (l.length - n)) (listed.setIfInBounds i true) (a.put oi.dst v) w' := by
      intro v w' hv hS'
      refine ih _ _ w' ?_ hS' (inv.set hi hin) (hag.put hoil hin (by omega) hv)
      have hlt : i < listed.size := by omega
      have hcount := filter_len_lt (fun k => !listed.getD k false) (fun k => !(listed.setIfInBounds i true).getD k false)
        (fun k hk => by
          by_cases e : i = k
          · subst e; simp [hlt] at hk
          · rwa [getD_set_ne false e] at hk)
        (List.range n) i (List.mem_range.2 hin) (by simp [getD_both hun]) (by simp [hlt]) List.nodup_range
        (fun k hk hne => by rw [getD_set_ne false (Ne.symm hne)]; exact hk)
      unfold unl at hu ⊢
      omega
    unfold wpOp
    simp only [hoi]
    rw [wpList] at hrun
    rw [hwant]
    by_cases hw : Region.wanted oi (yielded l.toArray aF.tmps) = true
    · rw [if_pos hw] at hrun ⊢
      rcases hrun with hrun | ⟨_, hlets⟩
      · left
        have hrun' : oi.upon P aF (fun a' w' => FixPost aF S .normal a' w') (FixPost aF S) ((execOp aF.eval oi).run P w) := hrun
        rw [← hex] at hrun'
        exact Oper.wp_mono (fun a' w' h => by
          obtain ⟨v, rfl, hv, hS'⟩ := h
          exact hnext v w' hv hS') (upon_fix hrun')
      · exact absurd hlets no_out
    · rw [if_neg hw] at hrun ⊢
      obtain ⟨_, hv, hS'⟩ := hrun
      exact hnext undef w hv hS'

/-- THE LAW -/
theorem wp_region_fix {id : Nat} {a : Act} {w : World} (n : Nat) (S : World → Prop) (vs : List Value) (hm : P.follows .mixedOrders = true) (hB : fixB .any l n = true) (hS : S w.drew)
    (hops : FixOps P l.toArray (putsOps (l.take n) vs a) S (l.take n)) (htail : ∀ w', S w' → wpList P l.toArray Q (l.drop n) (putsOps (l.take n) vs a) w') :
    (Code.region id l.toArray true).wp P Q a w := by
  refine wp_region_any hm ?_
  have hnl := (fixB_parts hB).2.1
  have hsz : (Array.replicate l.toArray.size false).size = l.toArray.size := by simp
  have hu : unl n (Array.replicate l.toArray.size false) = n := by
    unfold unl
    have : (List.range n).filter (fun i => !(Array.replicate l.toArray.size false).getD i false) = List.range n := by
      rw [List.filter_eq_self]
      intro i _
      rw [getD_replicate_false]; rfl
    rw [this]; simp
  have h := wpAny_fix (P := P) (Q := Q) (aF := putsOps (l.take n) vs a) hB hops htail n (Array.replicate l.toArray.size false) a w.drew hu hS
    ⟨by simp, fun j oj _ hl => (by rw [getD_replicate_false] at hl; cases hl), fun t _ ht => getD_in (by simpa using ht) (getD_replicate_false _ _)⟩
    ⟨(puts_size _ _ _).2.symm, (puts_size _ _ _).1.symm, fun t ht => by
      symm
      refine puts_agree _ _ _ _ fun o ho hd => ?_
      obtain ⟨j, hj, rfl⟩ := List.mem_iff_getElem.1 ho
      have hjn : j < n := by simp at hj; omega
      have hjl : j < l.length := by simp at hj; omega
      have := ht j _ hjn (List.getElem?_eq_getElem hjl) (by rw [List.getElem_take] at hd; exact hd)
      rw [getD_replicate_false] at this; cases this⟩
  rw [show l.toArray.size = n + (l.length - n) from by simp; omega]
  rw [show (Array.replicate l.toArray.size false) = Array.replicate (n + (l.length - n)) false from by congr 1; simp; omega] at h
  exact h

/-- the same with the frame under a name, to be written out ahead -/
theorem wp_region_fixn {id : Nat} {a : Act} {w : World} (n : Nat) (S : World → Prop) (vs : List Value) (hm : P.follows .mixedOrders = true) (hB : fixB .any l n = true) (hS : S w.drew)
    (hops : ∀ aF, aF = putsOps (l.take n) vs a → FixOps P l.toArray aF S (l.take n)) (htail : ∀ aF, aF = putsOps (l.take n) vs a → ∀ w', S w' → wpList P l.toArray Q (l.drop n) aF w') :
    (Code.region id l.toArray true).wp P Q a w :=
  wp_region_fix n S vs hm hB hS (hops _ rfl) (htail _ rfl)
end
end Go.Proofs.Ytgmpajfhjnojiaa
