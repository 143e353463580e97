/- Proved: for every input the law 'FnExactShuffleOf' returns true and its arguments read behind the call as before. No condition. -/
import Derived.Test.YtjfbmepjojnfiaaRows
import Derived.WalkKit
import Derived.ProofKit
import Derived.OpenShut
import Derived.ShutString
import Derived.ChangeOld
import Derived.Below
import Derived.SizedLaws
import Derived.Test.YtjfbmepjojnfiaaRndShuf
namespace Go.Proofs.Ytjfbmepjojnfiaa.fnExactShuffleOf
open Go.ChangeShapes Go.WideShapes Go.ChangeAt Go.RowKit
open Go.ChangeMaps (open_string shut_string)
set_option linter.unusedVariables false
set_option linter.unusedSimpArgs false

theorem own : ownKnob Try.prog.godebug = none := by kernel_rfl
theorem laidOut : laidOutB Try.prog = true := by kernel_rfl

theorem walk {H : Type} (enc : TypeId × Value → H) (v0 v1 : Value) (d0 d1 : DataW H) (p0 p1 : List MemPlace) (base : Nat) (w : World)
    (ok0 : Value.okWide Try.prog w .any base 3 v0) (h0 : DataW.Trod enc Try.prog w 0 (fun _ => true) true 3 v0 d0 p0)
    (ok1 : Value.okWide Try.prog w .any base 3 v1) (h1 : DataW.Trod enc Try.prog w 0 (fun _ => true) true 3 v1 d1 p1)
    (sz : (DataW.weightsEach Try.prog [3, 3] [d0, d1]).all (· ≤ reachBytes) = true) :
    Calls Try.prog 6 #[v0, v1] w fun e w' => e = .returned (.bool true) ∧ Below w.heap.size w w' := by
  obtain ⟨a0, rfl, rfl, rfl, w0⟩ := open_int Try.underlying3 ok0 h0
  obtain ⟨a1, rfl, rfl, rfl, w1⟩ := open_int Try.underlying3 ok1 h1
  have hle := shufOf_le a0 a1
  generalize hL : (shufOf a0 a1) = L at *
  obtain ⟨L, t⟩ := L
  have HL := Lib.hid hL; clear hL
  simp only at hle
  generalize hn : L.length = n at *
  have HN := Lib.hid hn; clear hn
  go_enter Try.func6, Try.ntmps6
  go_wp2_with fail
  refine (specShuf_any _ _ _).mono ?_
  rw [HL.out]
  rintro e w1 ⟨v, rfl, hown1, hb1⟩
  simp only [HN.out] at hown1
  obtain ⟨A1, c1, rfl, hc1, hc2⟩ := own_shape hown1
  go_wp2_with fail
  refine (implShuf_any _ _ _).mono ?_
  rw [HL.out]
  rintro e w2 ⟨v, rfl, hown2, hb2⟩
  simp only [HN.out] at hown2
  obtain ⟨A2, c2, rfl, hc3, hc4⟩ := own_shape hown2
  have r1 : Rd w2 (fun b => b < w1.heap.size) 1 A1 n c1 (ints L) := ((Rd.of_own hown1).mono (fun b h => h.2.1)).below hb2 (fun b h => h)
  have r2 : Rd w2 _ 1 A2 n c2 (ints L) := Rd.of_own hown2
  have hA1 := Lib.hid hown1; clear hown1
  have hA2 := Lib.hid hown2; clear hown2
  have hR1 := Lib.hid r1; clear r1
  have hR2 := Lib.hid r2; clear r2
  go_wp2_with fail
  refine (eqIntS_same A2 A1 n c2 c1 L _ _ _ hR2.out hR1.out).mono ?_
  rintro e w3 ⟨rfl, m3, rfl⟩
  go_wp2_with fail
  refine (markIntS_any A2 n c2 w1.heap.size 1 L (w2.drewN m3) (own_drewN hA2.out m3) (by omega) (by omega)).mono ?_
  rintro e w4 ⟨rfl, hown4, hg4⟩
  have hb4 : Below w1.heap.size w1 w4 := (below_drewN hb2 m3).grown hg4 (by simp; exact hb2.size) (fun g hg => (own_blk hA2.out hg).1)
  have hA4 := Lib.hid hown4; clear hown4 hg4
  go_wp2_with fail
  refine (heldIntS_same A2 n c2 1 _ _ (Rd.of_own hA4.out) (by omega) (by omega)).mono ?_
  rintro e w' ⟨rfl, rfl⟩
  go_wp2_with fail
  refine (implShuf_any _ _ _).mono ?_
  rw [HL.out]
  rintro e w5 ⟨v, rfl, hown5, hb5⟩
  simp only [HN.out] at hown5
  obtain ⟨A5, c5, rfl, hc5, hc6⟩ := own_shape hown5
  have r5 := Lib.hid (Rd.of_own hown5)
  have r4 := Lib.hid (Rd.of_own (own_below hA4.out hb5 (Nat.le_refl _)))
  have r1 : Rd w5 (fun b => b < w1.heap.size) 1 A1 n c1 (ints L) := (((Rd.of_own hA1.out).mono (fun b h => h.2.1)).below hb4 (fun b h => h)).below hb5 (fun b h => by have := hb4.size; omega)
  have hR1 := Lib.hid r1; clear r1 hown5
  go_wp2_with fail
  refine (eqIntS_same A5 A1 n c5 c1 L _ _ _ r5.out hR1.out).mono ?_
  rintro e w6 ⟨rfl, m6, rfl⟩
  go_wp2_with fail
  refine (heldIntS_same A2 n c2 1 _ _ (Rd.drewN r4.out m6) (by omega) (by omega)).mono ?_
  rintro e w' ⟨rfl, rfl⟩
  go_wp2_with fail
  go_ret
  refine ⟨rfl, below_drewN ?_ m6⟩
  exact (hb1.trans (hb4.mono hb1.size)).trans (hb5.mono (by have := hb1.size; have := hb4.size; omega))

set_option maxRecDepth 100000 in
theorem lifted (os : Os) (started : os.Started) (H : Type) (enc : TypeId × Value → H) :
    ReturnsInHanded {} Try.checked os 6 .any (Rows.fnExactShuffleOfSpec.pre6 enc Try.prog Try.f6 Rows.fnExactShuffleOfRow.domain false) (Rows.fnExactShuffleOfSpec.post enc Try.prog Try.f6 false true false false) := by
  refine returnsInHanded_of_change_sized (C := Try.checked) own started (by kernel_rfl) Try.func6
    (ChangeSpec.witness6 (enc := enc) (C := Try.checked) false ⟨#[], #[.int .i64 0, .int .i64 0], []⟩ 8 (by kernel_rfl) (by kernel_rfl) (by kernel_rfl) (by kernel_rfl)) ?_
  intro W base args ds gs before hval0 hW hcnd0 hsz0 hholds
  have hval : ∀ (j : Nat) t v, Try.f6.params[j]? = some t → args[j]? = some v → Value.okWide Try.prog W .any base t v := hval0
  have hsz : (DataW.weightsEach Try.prog (Try.f6.params.toList ++ Rows.fnExactShuffleOfSpec.plain.varTypes Try.prog) (ds ++ gs)).all (· ≤ reachBytes) = true := hsz0
  have hW' := hW
  obtain ⟨p, q, hA0, hV, rfl, hfz, hnd⟩ := hW
  have hA : DataW.TrodAll enc Try.prog W 0 (fun _ => true) true Try.f6.params.toList args.toList ds p := hA0
  rw [Try.params6] at hA hval hsz
  obtain ⟨v0, vs0, d0, ds0, p0, q0, hargs, rfl, rfl, h0, r0⟩ := trodAll_cons hA
  obtain ⟨v1, vs1, d1, ds1, p1, q1, rfl, rfl, rfl, h1, r1⟩ := trodAll_cons r0
  obtain ⟨rfl, rfl, rfl⟩ := trodAll_nil r1
  obtain rfl : args = #[v0, v1] := by cases args; simp_all
  obtain ⟨rfl, rfl⟩ := trodVars_none hV
  have lt0 : ∀ x ∈ p0, x.block < W.heap.size := by obtain ⟨m, hm⟩ := h0; exact DataW.trod_lt m _ _ _ hm
  have lt1 : ∀ x ∈ p1, x.block < W.heap.size := by obtain ⟨m, hm⟩ := h1; exact DataW.trod_lt m _ _ _ hm
  refine (walk enc v0 v1 d0 d1 p0 p1 base W (hval 0 3 v0 rfl rfl) h0 (hval 1 3 v1 rfl rfl) h1 hsz).mono fun e W' ⟨he, bel⟩ => ?_
  subst he
  exact ⟨_, rfl, _, _, _, [], _, [], hW', trodAll_mk1 (shut_bool Try.underlying4 _), (trodAll_cons_mk (Below.trod laidOut (by kernel_rfl) (of_decide_eq_true (by kernel_rfl)) h0 bel lt0) (trodAll_cons_mk (Below.trod laidOut (by kernel_rfl) (of_decide_eq_true (by kernel_rfl)) h1 bel lt1) trodAll_mk0)), rfl, bel.frame _, fun h => by cases h⟩

theorem over : Rows.fnExactShuffleOfRow.holds Try.pinned (OpenSpec.ofChange Rows.fnExactShuffleOfSpec) :=
  OpenClaim.holds_of_wide 6 Try.f6 rfl rfl rfl rfl rfl rfl rfl ⟨rfl, rfl, rfl, rfl, rfl⟩ rfl rfl rfl rfl rfl (by kernel_rfl) Try.func6 (by kernel_rfl)
    (of_decide_eq_true (by kernel_rfl)) (by unfold Func.isWrapper; first | (rw [if_pos (by decide +kernel)]; kernel_rfl) | (rw [if_neg (by decide +kernel)]; exact ⟨rfl, rfl⟩))
    (fun os started H enc _ => lifted os started H enc)

theorem proved : Rows.FnExactShuffleOfSaid := over
end Go.Proofs.Ytjfbmepjojnfiaa.fnExactShuffleOf
