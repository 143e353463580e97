/- Proved: for every input the law 'FnExactReplaceSubtree' returns true and its arguments read behind the call as before. No condition. -/
import Derived.Test.YtenopiadacpbiaaRows
import Derived.WalkKit
import Derived.ProofKit
import Derived.OpenShut
import Derived.ShutString
import Derived.ChangeOld
import Derived.Below
import Derived.SizedLaws
import Derived.Test.YtenopiadacpbiaaLReplaceSubtree
namespace Go.Proofs.Ytenopiadacpbiaa.fnExactReplaceSubtree
open Go.ChangeShapes Go.WideShapes Go.ChangeAt Go.RowKit
open Go.ChangeMaps (open_string shut_string)
set_option linter.unusedVariables false
set_option linter.unusedSimpArgs false

theorem own : ownKnob Try.prog.godebug = none := by kernel_rfl
theorem laidOut : laidOutB Try.prog = true := by kernel_rfl

set_option maxRecDepth 100000 in
set_option maxHeartbeats 2000000 in
theorem walk {H : Type} (enc : TypeId × Value → H) (v0 v1 v2 : Value) (d0 d1 d2 : DataW H) (p0 p1 p2 : List MemPlace) (base : Nat) (w : World)
    (ok0 : Value.okWide Try.prog w .any base 22 v0) (h0 : DataW.Trod enc Try.prog w 0 (fun _ => true) true 22 v0 d0 p0)
    (ok1 : Value.okWide Try.prog w .any base 3 v1) (h1 : DataW.Trod enc Try.prog w 0 (fun _ => true) true 3 v1 d1 p1)
    (ok2 : Value.okWide Try.prog w .any base 22 v2) (h2 : DataW.Trod enc Try.prog w 0 (fun _ => true) true 22 v2 d2 p2)
    (sz : (DataW.weightsEach Try.prog [22, 3, 22] [d0, d1, d2]).all (· ≤ reachBytes) = true) :
    Calls Try.prog 4 #[v0, v1, v2] w fun e w' => e = .returned (.bool true) ∧ Below w.heap.size w w' := by
  obtain ⟨a0, r0, i0⟩ := argD_sl (base := base) opD_Nods Try.underlying22 h0 ok0
  obtain ⟨a1, r1, i1⟩ := argD_int (base := base) (opD_int Try.underlying3) Try.underlying3 h1 ok1
  obtain ⟨a2, r2, i2⟩ := argD_sl (base := base) opD_Nods Try.underlying22 h2 ok2
  exact run_law (lawReplaceSubtree_m a0 i0 a1 a2 i2) (ArgsR.cons r0 (ArgsR.cons r1 (ArgsR.cons r2 ArgsR.nil)))

set_option maxRecDepth 100000 in
theorem lifted (os : Os) (started : os.Started) (H : Type) (enc : TypeId × Value → H) :
    ReturnsInHanded {} Try.checked os 4 .any (Rows.fnExactReplaceSubtreeSpec.pre6 enc Try.prog Try.f4 Rows.fnExactReplaceSubtreeRow.domain false) (Rows.fnExactReplaceSubtreeSpec.post enc Try.prog Try.f4 false true false false) := by
  refine returnsInHanded_of_change_sized (C := Try.checked) own started (by kernel_rfl) Try.func4
    (ChangeSpec.witness6 (enc := enc) (C := Try.checked) false ⟨#[], #[.slice none 0 0, .int .i64 0, .slice none 0 0], []⟩ 8 (by kernel_rfl) (by kernel_rfl) (by kernel_rfl) (by kernel_rfl)) ?_
  intro W base args ds gs before hval0 hW hcnd0 hsz0 hholds
  have hval : ∀ (j : Nat) t v, Try.f4.params[j]? = some t → args[j]? = some v → Value.okWide Try.prog W .any base t v := hval0
  have hsz : (DataW.weightsEach Try.prog (Try.f4.params.toList ++ Rows.fnExactReplaceSubtreeSpec.plain.varTypes Try.prog) (ds ++ gs)).all (· ≤ reachBytes) = true := hsz0
  have hW' := hW
  obtain ⟨p, q, hA0, hV, rfl, hfz, hnd⟩ := hW
  have hA : DataW.TrodAll enc Try.prog W 0 (fun _ => true) true Try.f4.params.toList args.toList ds p := hA0
  rw [Try.params4] at hA hval hsz
  obtain ⟨v0, vs0, d0, ds0, p0, q0, hargs, rfl, rfl, h0, r0⟩ := trodAll_cons hA
  obtain ⟨v1, vs1, d1, ds1, p1, q1, rfl, rfl, rfl, h1, r1⟩ := trodAll_cons r0
  obtain ⟨v2, vs2, d2, ds2, p2, q2, rfl, rfl, rfl, h2, r2⟩ := trodAll_cons r1
  obtain ⟨rfl, rfl, rfl⟩ := trodAll_nil r2
  obtain rfl : args = #[v0, v1, v2] := by cases args; simp_all
  obtain ⟨rfl, rfl⟩ := trodVars_none hV
  have lt0 : ∀ x ∈ p0, x.block < W.heap.size := by obtain ⟨m, hm⟩ := h0; exact DataW.trod_lt m _ _ _ hm
  have lt1 : ∀ x ∈ p1, x.block < W.heap.size := by obtain ⟨m, hm⟩ := h1; exact DataW.trod_lt m _ _ _ hm
  have lt2 : ∀ x ∈ p2, x.block < W.heap.size := by obtain ⟨m, hm⟩ := h2; exact DataW.trod_lt m _ _ _ hm
  refine (walk enc v0 v1 v2 d0 d1 d2 p0 p1 p2 base W (hval 0 22 v0 rfl rfl) h0 (hval 1 3 v1 rfl rfl) h1 (hval 2 22 v2 rfl rfl) h2 hsz).mono fun e W' ⟨he, bel⟩ => ?_
  subst he
  exact ⟨_, rfl, _, _, _, [], _, [], hW', trodAll_mk1 (shut_bool Try.underlying4 _), (trodAll_cons_mk (Below.trod laidOut (by kernel_rfl) (of_decide_eq_true (by kernel_rfl)) h0 bel lt0) (trodAll_cons_mk (Below.trod laidOut (by kernel_rfl) (of_decide_eq_true (by kernel_rfl)) h1 bel lt1) (trodAll_cons_mk (Below.trod laidOut (by kernel_rfl) (of_decide_eq_true (by kernel_rfl)) h2 bel lt2) trodAll_mk0))), rfl, bel.frame _, fun h => by cases h⟩

theorem over : Rows.fnExactReplaceSubtreeRow.holds Try.pinned (OpenSpec.ofChange Rows.fnExactReplaceSubtreeSpec) :=
  OpenClaim.holds_of_wide 4 Try.f4 rfl rfl rfl rfl rfl rfl rfl ⟨rfl, rfl, rfl, rfl, rfl⟩ rfl rfl rfl rfl rfl (by kernel_rfl) Try.func4 (by kernel_rfl)
    (of_decide_eq_true (by kernel_rfl)) (by unfold Func.isWrapper; first | (rw [if_pos (by decide +kernel)]; kernel_rfl) | (rw [if_neg (by decide +kernel)]; exact ⟨rfl, rfl⟩))
    (fun os started H enc _ => lifted os started H enc)

theorem proved : Rows.FnExactReplaceSubtreeSaid := over
end Go.Proofs.Ytenopiadacpbiaa.fnExactReplaceSubtree
