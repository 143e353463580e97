/- Proved: for every input the law 'FnExactEqualTrees' returns true and its arguments read behind the call as before. No condition. -/
import Derived.Test.YteninkofmmglbaaRows
import Derived.WalkKit
import Derived.ProofKit
import Derived.OpenShut
import Derived.ShutString
import Derived.ChangeOld
import Derived.Below
import Derived.SizedLaws
import Derived.Test.YteninkofmmglbaaNodeOpen
import Derived.Test.YteninkofmmglbaaNodeTo
import Derived.Test.YteninkofmmglbaaEqTrees
namespace Go.Proofs.Yteninkofmmglbaa.fnExactEqualTrees
open Go.ChangeShapes Go.WideShapes Go.ChangeAt Go.RowKit
open Go.ChangeMaps (open_string shut_string)
set_option linter.unusedVariables false
set_option linter.unusedSimpArgs false

theorem own : ownKnob Try.prog.godebug = none := by kernel_rfl
theorem laidOut : laidOutB Try.prog = true := by kernel_rfl

theorem walk {H : Type} (enc : TypeId × Value → H) (v0 v1 : Value) (d0 d1 : DataW H) (p0 p1 : List MemPlace) (base : Nat) (w : World)
    (ok0 : Value.okWide Try.prog w .any base 22 v0) (h0 : DataW.Trod enc Try.prog w 0 (fun _ => true) true 22 v0 d0 p0)
    (ok1 : Value.okWide Try.prog w .any base 22 v1) (h1 : DataW.Trod enc Try.prog w 0 (fun _ => true) true 22 v1 d1 p1)
    (sz : (DataW.weightsEach Try.prog [22, 22] [d0, d1]).all (· ≤ reachBytes) = true) :
    Calls Try.prog 3 #[v0, v1] w fun e w' => e = .returned (.bool true) ∧ Below w.heap.size w w' := by
  obtain ⟨la, fa, Aa, na, ca, ea, ha⟩ := opens_nodes.arg h0
  obtain ⟨lb, fb, Ab, nb, cb, eb, hb⟩ := opens_nodes.arg h1
  obtain ⟨x0, x1, x2, rfl⟩ := okWide_slice Try.underlying22 ok0
  obtain ⟨y0, y1, y2, rfl⟩ := okWide_slice Try.underlying22 ok1
  simp [Value.cells] at ea eb
  obtain ⟨rfl, rfl, rfl⟩ := ea
  obtain ⟨rfl, rfl, rfl⟩ := eb
  clear h0 h1 ok0 ok1 sz
  have HA := Lib.hid ha; clear ha
  have HB := Lib.hid hb; clear hb
  go_enter Try.func3, Try.ntmps3
  go_wp2_with fail
  refine (szNodeS_any x0 x1 x2 _ fa la _ HA.out (by omega) (by omega)).mono ?_
  rintro e w1 ⟨⟨r1, rfl, hr1⟩, hb1⟩
  rcases hr1 with rfl | ⟨hr1, hr1'⟩
  · go_wp2
    go_ret
    exact ⟨rfl, hb1⟩
  have H1 := Lib.hid hr1'
  have hle1 : r1 ≤ 1048576 := by omega
  have hwa := wtNodes_le (l := la) (M := 1048576) (by omega)
  clear hr1'
  go_wp2_with fail
  refine (szNodeS_any y0 y1 y2 _ fb lb _ (HB.out.below hb1) hr1 (by omega)).mono ?_
  rintro e w2 ⟨⟨r2, rfl, hr2⟩, hb2⟩
  have hb2 := hb1.trans (hb2.mono hb1.size)
  rcases hr2 with rfl | ⟨hr2, hr2'⟩
  · go_wp2
    go_ret
    exact ⟨rfl, hb2⟩
  have hwb := wtNodes_le (l := lb) (M := 1048576) (by omega)
  clear hr2' hb1
  have hna : x1 ≤ 1048576 := by rw [← HA.out.1]; exact hwa.1
  have hnb : y1 ≤ 1048576 := by rw [← HB.out.1]; exact hwb.1
  have WA := Lib.hid hwa; have WB := Lib.hid hwb
  clear hwa hwb
  go_wp2_with fail
  refine (toNodeS_any x0 x1 x2 fa la _ (HA.out.keep (same_below hb2 HA.out.lt)) hna (fun x hx => (WA.out.2 x hx).1)).mono ?_
  rintro e w3 ⟨v3, e3, rfl, hown3, hx3, hb3'⟩
  have hb3 := hb2.trans (hb3'.mono hb2.size)
  obtain ⟨A3, c3, f3, rfl, hs3, -⟩ := hown3.read
  rw [hx3] at hs3
  obtain rfl : e3.length = x1 := by rw [← hs3.1, HA.out.1]
  have S3 := Lib.hid hs3
  clear hown3 hx3 hs3 hb3'
  go_wp2_with fail
  refine (toNodeS_any y0 y1 y2 fb lb _ (HB.out.keep (same_below hb3 HB.out.lt)) hnb (fun x hx => (WB.out.2 x hx).1)).mono ?_
  rintro e w4 ⟨v4, e4, rfl, hown4, hx4, hb4'⟩
  have hb4 := hb3.trans (hb4'.mono hb3.size)
  obtain ⟨A4, c4, f4, rfl, hs4, -⟩ := hown4.read
  rw [hx4] at hs4
  obtain rfl : e4.length = y1 := by rw [← hs4.1, HB.out.1]
  have S4 := Lib.hid hs4
  have S34 := Lib.hid (S3.out.below hb4')
  clear hown4 hx4 hs4 hb4'
  go_wp2_with fail
  refine (specEqual_any A3 A4 _ _ c3 c4 f3 f4 la lb _ S34.out S4.out).mono ?_
  rintro e w5 ⟨rfl, m5, rfl⟩
  have hb5 := below_drewN hb4 m5
  go_wp2_with fail
  refine (toNodeS_any x0 _ x2 fa la _ (HA.out.keep (same_below hb5 HA.out.lt)) hna (fun x hx => (WA.out.2 x hx).1)).mono ?_
  rintro e w6 ⟨v6, e6, rfl, hown6, hx6, hb6'⟩
  have hb6 := hb5.trans (hb6'.mono hb5.size)
  obtain ⟨A6, c6, f6, rfl, hs6, -⟩ := hown6.read
  rw [hx6] at hs6
  have hle6 : e6.length = e3.length := by rw [← hs6.1, HA.out.1]
  rw [hle6] at hs6 ⊢
  have S6 := Lib.hid hs6
  clear hown6 hx6 hs6 hb6' hle6
  go_wp2_with fail
  refine (toNodeS_any y0 _ y2 fb lb _ (HB.out.keep (same_below hb6 HB.out.lt)) hnb (fun x hx => (WB.out.2 x hx).1)).mono ?_
  rintro e w7 ⟨v7, e7, rfl, hown7, hx7, hb7'⟩
  have hb7 := hb6.trans (hb7'.mono hb6.size)
  obtain ⟨A7, c7, f7, rfl, hs7, -⟩ := hown7.read
  rw [hx7] at hs7
  have hle7 : e7.length = e4.length := by rw [← hs7.1, HB.out.1]
  rw [hle7] at hs7 ⊢
  have S7 := Lib.hid hs7
  have S67 := Lib.hid (S6.out.below hb7')
  clear hown7 hx7 hs7 hb7' hle7
  go_wp2_with fail
  refine (implEqual_any A6 A7 _ _ c6 c7 f6 f7 la lb _ S67.out S7.out).mono ?_
  rintro e w8 ⟨rfl, hb8'⟩
  have hb8 := hb7.trans (hb8'.mono hb7.size)
  have S68 := Lib.hid (S67.out.below hb8')
  have S78 := Lib.hid (S7.out.below hb8')
  clear hb8'
  go_wp2_with fail
  refine (toNodeS_any x0 _ x2 fa la _ (HA.out.keep (same_below hb8 HA.out.lt)) hna (fun x hx => (WA.out.2 x hx).1)).mono ?_
  rintro e w9 ⟨v9, e9, rfl, hown9, hx9, hb9'⟩
  have hb9 := hb8.trans (hb9'.mono hb8.size)
  obtain ⟨A9, c9, f9, rfl, hs9, -⟩ := hown9.read
  rw [hx9] at hs9
  have hle9 : e9.length = e3.length := by rw [← hs9.1, HA.out.1]
  rw [hle9] at hs9 ⊢
  have S9 := Lib.hid hs9
  have S69 := Lib.hid (S68.out.below hb9')
  have S79 := Lib.hid (S78.out.below hb9')
  clear hown9 hx9 hs9 hb9' hle9
  go_wp2_with fail
  refine (eqNodeS_same A6 A9 _ c6 c9 f6 f9 la _ S69.out S9.out).mono ?_
  rintro e w10 ⟨rfl, hb10'⟩
  have hb10 := hb9.trans (hb10'.mono hb9.size)
  have S710 := Lib.hid (S79.out.below hb10')
  clear hb10'
  go_wp2_with fail
  refine (toNodeS_any y0 _ y2 fb lb _ (HB.out.keep (same_below hb10 HB.out.lt)) hnb (fun x hx => (WB.out.2 x hx).1)).mono ?_
  rintro e w11 ⟨v11, e11, rfl, hown11, hx11, hb11'⟩
  have hb11 := hb10.trans (hb11'.mono hb10.size)
  obtain ⟨A11, c11, f11, rfl, hs11, -⟩ := hown11.read
  rw [hx11] at hs11
  have hle11 : e11.length = e4.length := by rw [← hs11.1, HB.out.1]
  rw [hle11] at hs11 ⊢
  have S11 := Lib.hid hs11
  have S711 := Lib.hid (S710.out.below hb11')
  clear hown11 hx11 hs11 hb11' hle11
  go_wp2_with fail
  refine (eqNodeS_same A7 A11 _ c7 c11 f7 f11 lb _ S711.out S11.out).mono ?_
  rintro e w12 ⟨rfl, hb12'⟩
  have hb12 := hb11.trans (hb12'.mono hb11.size)
  clear hb12'
  go_wp2
  go_ret
  exact ⟨rfl, hb12⟩

set_option maxRecDepth 100000 in
theorem lifted (os : Os) (started : os.Started) (H : Type) (enc : TypeId × Value → H) :
    ReturnsInHanded {} Try.checked os 3 .any (Rows.fnExactEqualTreesSpec.pre6 enc Try.prog Try.f3 Rows.fnExactEqualTreesRow.domain false) (Rows.fnExactEqualTreesSpec.post enc Try.prog Try.f3 false true false false) := by
  refine returnsInHanded_of_change_sized (C := Try.checked) own started (by kernel_rfl) Try.func3
    (ChangeSpec.witness6 (enc := enc) (C := Try.checked) false ⟨#[], #[.slice none 0 0, .slice none 0 0], []⟩ 8 (by kernel_rfl) (by kernel_rfl) (by kernel_rfl) (by kernel_rfl)) ?_
  intro W base args ds gs before hval0 hW hcnd0 hsz0 hholds
  have hval : ∀ (j : Nat) t v, Try.f3.params[j]? = some t → args[j]? = some v → Value.okWide Try.prog W .any base t v := hval0
  have hsz : (DataW.weightsEach Try.prog (Try.f3.params.toList ++ Rows.fnExactEqualTreesSpec.plain.varTypes Try.prog) (ds ++ gs)).all (· ≤ reachBytes) = true := hsz0
  have hW' := hW
  obtain ⟨p, q, hA0, hV, rfl, hfz, hnd⟩ := hW
  have hA : DataW.TrodAll enc Try.prog W 0 (fun _ => true) true Try.f3.params.toList args.toList ds p := hA0
  rw [Try.params3] at hA hval hsz
  obtain ⟨v0, vs0, d0, ds0, p0, q0, hargs, rfl, rfl, h0, r0⟩ := trodAll_cons hA
  obtain ⟨v1, vs1, d1, ds1, p1, q1, rfl, rfl, rfl, h1, r1⟩ := trodAll_cons r0
  obtain ⟨rfl, rfl, rfl⟩ := trodAll_nil r1
  obtain rfl : args = #[v0, v1] := by cases args; simp_all
  obtain ⟨rfl, rfl⟩ := trodVars_none hV
  have lt0 : ∀ x ∈ p0, x.block < W.heap.size := by obtain ⟨m, hm⟩ := h0; exact DataW.trod_lt m _ _ _ hm
  have lt1 : ∀ x ∈ p1, x.block < W.heap.size := by obtain ⟨m, hm⟩ := h1; exact DataW.trod_lt m _ _ _ hm
  refine (walk enc v0 v1 d0 d1 p0 p1 base W (hval 0 22 v0 rfl rfl) h0 (hval 1 22 v1 rfl rfl) h1 hsz).mono fun e W' ⟨he, bel⟩ => ?_
  subst he
  exact ⟨_, rfl, _, _, _, [], _, [], hW', trodAll_mk1 (shut_bool Try.underlying4 _), (trodAll_cons_mk (Below.trod laidOut (by kernel_rfl) (of_decide_eq_true (by kernel_rfl)) h0 bel lt0) (trodAll_cons_mk (Below.trod laidOut (by kernel_rfl) (of_decide_eq_true (by kernel_rfl)) h1 bel lt1) trodAll_mk0)), rfl, bel.frame _, fun h => by cases h⟩

theorem over : Rows.fnExactEqualTreesRow.holds Try.pinned (OpenSpec.ofChange Rows.fnExactEqualTreesSpec) :=
  OpenClaim.holds_of_wide 3 Try.f3 rfl rfl rfl rfl rfl rfl rfl ⟨rfl, rfl, rfl, rfl, rfl⟩ rfl rfl rfl rfl rfl (by kernel_rfl) Try.func3 (by kernel_rfl)
    (of_decide_eq_true (by kernel_rfl)) (by unfold Func.isWrapper; first | (rw [if_pos (by decide +kernel)]; kernel_rfl) | (rw [if_neg (by decide +kernel)]; exact ⟨rfl, rfl⟩))
    (fun os started H enc _ => lifted os started H enc)

theorem proved : Rows.FnExactEqualTreesSaid := over
end Go.Proofs.Yteninkofmmglbaa.fnExactEqualTrees
