/- Regions that draw their order: an operation of the head runs. No program here. -/
import Derived.Test.YtlcnokbhoekpkaaAeF
namespace Go.Proofs.Ytlcnokbhoekpkaa
open Go.RowKit
set_option linter.unusedVariables false
set_option linter.unusedSimpArgs false

/-- behind an operation of the head -/
def HOut (m : Nat) (L : Nat → Option Nat) (c : Nat) (o : Oper) (a : Act) (w : World) (E : En) (kd : HK) (x : AV) (a' : Act) (w' : World) : Prop :=
  ∃ v f, a' = a.put o.dst v ∧ Below w.heap.size w w' ∧ (∀ b ∈ f, w.heap.size ≤ b ∧ b < w'.heap.size) ∧ Fact m E L c a w' v f kd ∧ SlotR w' (E.plus m w'.heap.size) L c x v

section
variable {P : Program} {w0 : Cx} {w w' : World} {N m : Nat} {s h H q q' : AS} {a : Act} {E : En} {o : Oper}

theorem plus_stay {L : Nat → Option Nat} {c : Nat} (hb : Below w.heap.size w w') (hA : ∀ b, E.A b → b < w.heap.size) : Stay w (E.plus m w.heap.size) L c w' (E.plus m w'.heap.size) L c := by
  refine ⟨fun b hb' => ?_, fun i st _ h => ⟨h, rfl⟩, Nat.le_refl _⟩
  have hs := hb.size
  rcases hb' with h1 | h1
  · exact ⟨.inl h1, hb.block b (hA b h1)⟩
  · exact ⟨.inr ⟨h1.1, by omega⟩, hb.block b h1.2⟩

theorem fill_build {t : TypeId} {parts : Array (Nat × Operand)} : (parts.toList.map (·.2)) = (Op.build t parts).operands.toList := by simp [Op.operands]
theorem fill_bs {t : TypeId} {len : Nat} {parts : Array (Nat × Operand)} : (parts.toList.map (·.2)) = (Op.buildSlice t len parts).operands.toList := by simp [Op.operands]

theorem hVb_ok {x : AV} (hx : hVb P H o.op = some x) : HStep P o H x [] := by
  unfold hVb at hx
  split at hx
  · rename_i t parts ho
    split at hx
    · rename_i h1
      split at hx
      · rename_i z h2
        split at hx
        · rename_i cs h3; injection hx with hx; subst hx; exact h_build ho h1 h2 h3
        · cases hx
      · cases hx
    · cases hx
  · exact hV_ok hx
theorem hVb_alike {op : Op} (hal : Alike h H op.operands.toList) : hVb P H op = hVb P h op := by
  cases op with
  | build t parts => simp only [hVb, fillA_alike (parts := parts.toList) (hal.sub (by rw [fill_build (t := t)]; exact fun _ h => h))]
  | _ => exact hV_alike (P := P) hal

/-- an operation of the head, in a state that is like the one it was reckoned in -/
theorem hrun_ok {pr : Bool} {kd : HK} {x : AV} (hr : HRun P pr h q o kd x q') (hal : Alike h H o.op.operands.toList) (hrep : RepE w0 N H a w (E.plus m w.heap.size)) (hA : ∀ b, E.A b → b < w.heap.size) (hm : m ≤ w.heap.size) :
    o.wp P a w (HOut m H.lv H.c o a w E kd x) (fun _ _ _ => False) := by
  rcases hr with ⟨y, h1, rfl, rfl, -⟩ | ⟨f, args, ts, ys, res, ho, hmt, har, hdp, -, rfl, rfl, -⟩ | ⟨t, len, parts, el, k, es, esq, ho, -, ht, hz, hk, hl, hs, hf, -, rfl, rfl, -⟩
  · rw [← hVb_alike hal] at h1
    refine Oper.wp_mono (fun a' w' hp => ?_) (hVb_ok h1 w0 N a w _ hrep)
    obtain ⟨v, E', rfl, hb, hext, hrep', hsl⟩ := hp
    refine ⟨v, [], rfl, hb, by simp, rfl, ?_⟩
    refine hsl.stay ⟨fun b hbA => ⟨?_, rfl⟩, fun i st _ hl => ⟨hl, ?_⟩, Nat.le_refl _⟩
    · have hlt := hrep'.A_lt b hbA
      rcases hext.A' b hbA with h2 | h2
      · exact h2.imp id fun h2 => ⟨h2.1, hlt⟩
      · exact .inr ⟨by omega, hlt⟩
    · have hin : i < H.n := by
        unfold AS.lv at hl; split at hl
        · assumption
        · cases hl
      exact ((hext.same i hin).1).symm
  · have hdp' : ∀ r ∈ res, r.2.2 = true := fun r hx => by simpa using List.all_eq_true.1 hdp r hx
    unfold Oper.wp
    rw [run_call ho hmt.1, Oper.upon_enter]
    have har' : argsRd H args.toList ys := argsRd_alike (hal.sub (fun y hy => by rw [ho]; simp [Op.operands, Call.operands]; right; simpa using hy)) har
    refine (hmt.2 w (AM H (E.plus m w.heap.size)) _ (fun b hb => ?_) (argsRd_ok hrep har')).mono ?_
    · rcases hb with hb | ⟨i, hi, _, hb⟩
      · exact hrep.A_lt b hb
      · exact hrep.m_lt i hi b hb
    · rintro e w' ⟨v, rfl, ⟨vs, fs, hv, hl1, hl2, hnd, hrr⟩, hb⟩
      have hq : ResQs w' w.heap.size (fun _ => False) vs res fs := resQs_of hl1 hl2 hrr (.inr hdp')
      refine ⟨v, fs.flatten, rfl, hb, ResQs.blocks hdp' hq, ⟨vs, fs, hv, ResQs.lo hm hdp' hq, rfl, hnd, hdp'⟩, ?_⟩
      exact hvRes_ok (ResQs.parts (E := E.plus m w'.heap.size) (b0 := w.heap.size) (fun b h1 h2 => Or.inr ⟨by omega, h2⟩) hdp' hq) hv
  · have hal' := hal
    rw [ho, ← fill_bs] at hal'
    rw [← bsF_alike hal'] at hf
    obtain ⟨hu, hsz⟩ := tel_u ht
    obtain ⟨zs, hz⟩ := Option.isSome_iff_exists.1 hz
    obtain ⟨hl1, hl2⟩ := bsF_len hf
    obtain ⟨hc1, hc2⟩ := bs_cat hrep hf
    have hrun : (execOp a.eval o).run P w = .ok (.value (.slice (some ⟨w.heap.size, 0, none⟩) len len)) (w.alloc (.cells (catV a parts.toList).toArray el)) := by
      unfold tzero at hz
      unfold tsz at hsz
      cases hi : P.info? el with
      | none => simp [hi] at hsz
      | some ie =>
        simp [hi] at hsz
        cases hzz : ie.zero with
        | none => simp [hi, hzz] at hz
        | some z =>
          rcases Nat.eq_zero_or_pos len with h0 | h0
          · subst h0
            obtain rfl : parts = #[] := by
              have hp : parts.toList = [] := List.eq_nil_of_length_eq_zero hl
              cases parts; simp_all
            simp [execOp, ho, Instr.buildSlice, run_underlying hu, sizeOf, typeInfo, hi, hsz, Instr.fill, newRow, catV]
            rw [show Array.map (fun (_ : Nat) => (default : Value)) (Array.range 0) = #[] from Array.ext (by simp) (fun i h1 h2 => by simp at h1)]
          · obtain ⟨us, e1, e2⟩ := bsF_ok (w := w) (a := a) hrep (done := []) (rest := ((Array.range (len * k)).map (z.cells[· % z.cells.size]!)).toList) hf (by simp) (by simp [hl])
            have hus : us = catV a parts.toList := by
              have h1 := fill_cat (a := a) (k := k) hrep hf (done := []) (rest := ((Array.range (len * k)).map (z.cells[· % z.cells.size]!)).toList) (by simp) (by simp [hl])
              rw [e1] at h1
              simpa using h1
            subst hus
            have hr := run_buildSlice (P := P) w t el len (parts.map fun x => (x.1, a.eval x.2)) (catV a parts.toList).toArray ie z hu hi hzz (by rw [hsz]; omega) (by rw [hsz]; exact Nat.ne_of_gt (Nat.mul_pos h0 hk)) (by
              rw [hsz]
              have e3 := e1
              rw [List.nil_append, List.nil_append, Array.toArray_toList] at e3
              rw [← e3]; simp)
            simp only [execOp, ho]
            rw [Sem.run_bind]
            rw [show (parts.map fun (x : Nat × Operand) => match x with | (i, x) => (i, a.eval x)) = (parts.map fun x => (x.1, a.eval x.2)) from rfl, hr]; rfl
    unfold Oper.wp
    rw [hrun, Oper.upon_value]
    have hb : Below w.heap.size w (w.alloc (.cells (catV a parts.toList).toArray el)) := (Below.refl _ _).alloc (Nat.le_refl _) _
    refine ⟨_, [w.heap.size], rfl, hb, by simp, ⟨w.heap.size, by rw [hl], rfl, hm, Blk.new _ _ _⟩, ?_⟩
    unfold bView
    split
    · rename_i ds hds
      have hc3 := hc1.stay (plus_stay (m := m) (L := H.lv) (c := H.c) hb hA)
      obtain ⟨r1, r2, r3⟩ := dLL_ok hds hc3
      refine slot_one_mk ?_
      have hlen : ds.length = len := by rw [r2, hl1, hl]
      rcases Nat.eq_zero_or_pos len with h0 | h0
      · have : ds = [] := List.eq_nil_of_length_eq_zero (by omega)
        subst this
        rw [h0]; exact RepL.sl0 (Nat.zero_le _) .nil
      · refine RepL.sl (.inr ⟨hm, by simp⟩) hlen.symm h0 (Nat.le_refl _) ?_ hk (r3 k hl2) r1 ?_ .nil
        · have : len * 1 ≤ len * k := Nat.mul_le_mul_left _ hk
          unfold maxLen; omega
        · simpa using blk_at (Blk.new w el (catV a parts.toList).toArray) 0
    · trivial
end
end Go.Proofs.Ytlcnokbhoekpkaa
