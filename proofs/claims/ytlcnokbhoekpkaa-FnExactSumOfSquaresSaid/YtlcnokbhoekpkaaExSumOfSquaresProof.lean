/- Proved: for every input the law 'FnExactSumOfSquares' returns true and its arguments read behind the call as before. No condition. -/
import Derived.Test.YtlcnokbhoekpkaaRows
import Derived.WalkKit
import Derived.ProofKit
import Derived.OpenShut
import Derived.ShutString
import Derived.ChangeOld
import Derived.Below
import Derived.SizedLaws
import Derived.Test.YtlcnokbhoekpkaaItemOpen
import Derived.Test.YtlcnokbhoekpkaaSumSq
namespace Go.Proofs.Ytlcnokbhoekpkaa.fnExactSumOfSquares
open Go.ChangeShapes Go.WideShapes Go.ChangeAt Go.RowKit
open Go.ChangeMaps (open_string shut_string)
set_option linter.unusedVariables false
set_option linter.unusedSimpArgs false

theorem own : ownKnob Try.prog.godebug = none := by kernel_rfl
theorem laidOut : laidOutB Try.prog = true := by kernel_rfl

set_option maxRecDepth 100000 in
set_option maxHeartbeats 2000000 in
theorem walk {H : Type} (enc : TypeId × Value → H) (v0 : Value) (d0 : DataW H) (p0 : List MemPlace) (base : Nat) (w : World)
    (ok0 : Value.okWide Try.prog w .any base 22 v0) (h0 : DataW.Trod enc Try.prog w 0 (fun _ => true) true 22 v0 d0 p0)
    (sz : (DataW.weightsEach Try.prog [22] [d0]).all (· ≤ reachBytes) = true) :
    Calls Try.prog 3 #[v0] w fun e w' => e = .returned (.bool true) ∧ Below w.heap.size w w' := by
  obtain ⟨la, fa, Aa, na, ca, ea, ha⟩ := opens_items.arg h0
  obtain ⟨x0, x1, x2, rfl⟩ := okWide_slice Try.underlying22 ok0
  simp [Value.cells] at ea
  obtain ⟨rfl, rfl, rfl⟩ := ea
  clear h0 ok0 sz
  have HA := Lib.hid ha; clear ha
  go_enter Try.func3, Try.ntmps3
  go_wp2_with fail
  refine (szItemS_any x0 x1 x2 _ fa la _ HA.out (by omega) (by omega)).mono ?_
  rintro e w1 ⟨⟨r1, rfl, hr1⟩, hb1⟩
  rcases hr1 with rfl | ⟨hr1, hr1'⟩
  · go_wp2
    go_ret
    exact ⟨rfl, hb1⟩
  have hwa := wtItems_le (l := la) (M := 1048576) (by omega)
  have hna : x1 ≤ 1048576 := by rw [← HA.out.1]; exact hwa.1
  clear hr1' hwa
  go_wp2_with fail
  refine (toItemS_any x0 x1 x2 fa la _ (HA.out.keep (same_below hb1 HA.out.lt)) hna).mono ?_
  rintro e w2 ⟨v2, e2, rfl, hown2, hx2, hb2'⟩
  have hb2 := hb1.trans (hb2'.mono hb1.size)
  obtain ⟨A2, c2, f2, rfl, hs2, -⟩ := hown2.read
  rw [hx2] at hs2
  have S2 := Lib.hid hs2
  clear hown2 hx2 hs2 hb2'
  go_wp2_with fail
  refine (specSumSq_any A2 _ c2 f2 la _ S2.out).mono ?_
  rintro e w3 ⟨rfl, hb3'⟩
  have hb3 := hb2.trans (hb3'.mono hb2.size)
  clear hb3'
  generalize hq : sqSum la = q at *
  have HQ := Lib.hid hq; clear hq
  go_wp2_with fail
  have K4 := Blk.new w3 25 (itArr q)
  have hb4 := hb3.alloc hb3.size (.cells (itArr q) 25)
  refine (toItemS_any x0 x1 x2 fa la _ (HA.out.keep (same_below hb4 HA.out.lt)) hna).mono ?_
  rintro e w5 ⟨v5, e5, rfl, hown5, hx5, hb5'⟩
  have hb5 := hb4.trans (hb5'.mono hb4.size)
  obtain ⟨A5, c5, f5, rfl, hs5, -⟩ := hown5.read
  rw [hx5] at hs5
  have S5 := Lib.hid hs5
  have K5 := K4.keep hb5'
  clear hown5 hx5 hs5 hb5' K4
  go_wp2_with fail
  refine (implSumSq_any A5 _ c5 f5 la _ S5.out).mono ?_
  rw [HQ.out]
  rintro e w6 ⟨rfl, hb6'⟩
  have hb6 := hb5.trans (hb6'.mono hb5.size)
  have S6 := Lib.hid (S5.out.below hb6')
  have K6 := K5.keep hb6'
  clear hb6' K5
  obtain ⟨p0, p1, p2⟩ := cells3 K6
  have hk6 := K6.lt
  go_wp2_with fail
  have hb7 := hb6.alloc hb6.size (.cells (itArr q) 25)
  have S7 := Lib.hid (S6.out.alloc (.cells (itArr q) 25))
  clear K6 p0 p1 p2
  refine (eqItem_same q _).mono ?_
  rintro e w8 ⟨rfl, hb8'⟩
  have hb8 := hb7.trans (hb8'.mono hb7.size)
  have S8 := Lib.hid (S7.out.below hb8')
  clear hb8'
  go_wp2_with fail
  refine (toItemS_any x0 x1 x2 fa la _ (HA.out.keep (same_below hb8 HA.out.lt)) hna).mono ?_
  rintro e w9 ⟨v9, e9, rfl, hown9, hx9, hb9'⟩
  have hb9 := hb8.trans (hb9'.mono hb8.size)
  obtain ⟨A9, c9, f9, rfl, hs9, -⟩ := hown9.read
  rw [hx9] at hs9
  have hle9 : e9.length = e5.length := by rw [← hs9.1, ← S5.out.1]
  rw [hle9] at hs9 ⊢
  have S9 := Lib.hid hs9
  have S59 := Lib.hid (S8.out.below hb9')
  clear hown9 hx9 hs9 hb9' hle9
  go_wp2_with fail
  refine (eqItemS_same A5 A9 _ c5 c9 f5 f9 la _ S59.out S9.out).mono ?_
  rintro e w10 ⟨rfl, hb10'⟩
  have hb10 := hb9.trans (hb10'.mono hb9.size)
  clear hb10'
  go_wp2
  go_ret
  exact ⟨rfl, hb10⟩

set_option maxRecDepth 100000 in
theorem lifted (os : Os) (started : os.Started) (H : Type) (enc : TypeId × Value → H) :
    ReturnsInHanded {} Try.checked os 3 .any (Rows.fnExactSumOfSquaresSpec.pre6 enc Try.prog Try.f3 Rows.fnExactSumOfSquaresRow.domain false) (Rows.fnExactSumOfSquaresSpec.post enc Try.prog Try.f3 false true false false) := by
  refine returnsInHanded_of_change_sized (C := Try.checked) own started (by kernel_rfl) Try.func3
    (ChangeSpec.witness6 (enc := enc) (C := Try.checked) false ⟨#[], #[.slice none 0 0], []⟩ 8 (by kernel_rfl) (by kernel_rfl) (by kernel_rfl) (by kernel_rfl)) ?_
  intro W base args ds gs before hval0 hW hcnd0 hsz0 hholds
  have hval : ∀ (j : Nat) t v, Try.f3.params[j]? = some t → args[j]? = some v → Value.okWide Try.prog W .any base t v := hval0
  have hsz : (DataW.weightsEach Try.prog (Try.f3.params.toList ++ Rows.fnExactSumOfSquaresSpec.plain.varTypes Try.prog) (ds ++ gs)).all (· ≤ reachBytes) = true := hsz0
  have hW' := hW
  obtain ⟨p, q, hA0, hV, rfl, hfz, hnd⟩ := hW
  have hA : DataW.TrodAll enc Try.prog W 0 (fun _ => true) true Try.f3.params.toList args.toList ds p := hA0
  rw [Try.params3] at hA hval hsz
  obtain ⟨v0, vs0, d0, ds0, p0, q0, hargs, rfl, rfl, h0, r0⟩ := trodAll_cons hA
  obtain ⟨rfl, rfl, rfl⟩ := trodAll_nil r0
  obtain rfl : args = #[v0] := by cases args; simp_all
  obtain ⟨rfl, rfl⟩ := trodVars_none hV
  have lt0 : ∀ x ∈ p0, x.block < W.heap.size := by obtain ⟨m, hm⟩ := h0; exact DataW.trod_lt m _ _ _ hm
  refine (walk enc v0 d0 p0 base W (hval 0 22 v0 rfl rfl) h0 hsz).mono fun e W' ⟨he, bel⟩ => ?_
  subst he
  exact ⟨_, rfl, _, _, _, [], _, [], hW', trodAll_mk1 (shut_bool Try.underlying4 _), (trodAll_cons_mk (Below.trod laidOut (by kernel_rfl) (of_decide_eq_true (by kernel_rfl)) h0 bel lt0) trodAll_mk0), rfl, bel.frame _, fun h => by cases h⟩

theorem over : Rows.fnExactSumOfSquaresRow.holds Try.pinned (OpenSpec.ofChange Rows.fnExactSumOfSquaresSpec) :=
  OpenClaim.holds_of_wide 3 Try.f3 rfl rfl rfl rfl rfl rfl rfl ⟨rfl, rfl, rfl, rfl, rfl⟩ rfl rfl rfl rfl rfl (by kernel_rfl) Try.func3 (by kernel_rfl)
    (of_decide_eq_true (by kernel_rfl)) (by unfold Func.isWrapper; first | (rw [if_pos (by decide +kernel)]; kernel_rfl) | (rw [if_neg (by decide +kernel)]; exact ⟨rfl, rfl⟩))
    (fun os started H enc _ => lifted os started H enc)

theorem proved : Rows.FnExactSumOfSquaresSaid := over
end Go.Proofs.Ytlcnokbhoekpkaa.fnExactSumOfSquares
