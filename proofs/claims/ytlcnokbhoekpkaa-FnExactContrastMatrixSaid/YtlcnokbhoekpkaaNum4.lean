/- Subtraction; small makers of numbers. -/
import Derived.Test.YtlcnokbhoekpkaaNum3
namespace Go.Proofs.Ytlcnokbhoekpkaa
open Go.RowKit
set_option linter.unusedVariables false
set_option linter.unusedSimpArgs false

set_option maxHeartbeats 400000 in
theorem implSub_any (x y : It) (w : World) : Calls Try.prog 100 #[itVal x, itVal y] w (RetIt (subN x y) w) := by
  go_enter Try.func100, Try.ntmps100
  go_wp2_with fail
  go_region_with (first
    | (go_at_call 104; refine (implNeg_any y _).mono ?_; rintro e w1 ⟨rfl, hb1⟩; obtain ⟨hc, hf⟩ := bcell hb1; have HB1 := Lib.hid hb1; clear hb1)
    | (go_at_call 61; refine (implAdd_any x (negN y) _).mono ?_; rintro e w2 ⟨rfl, hb2⟩; have hb12 := HB1.out.trans (hb2.mono HB1.out.size); clear hc hf hb2; obtain ⟨hc, hf⟩ := bcell hb12; have HB2 := Lib.hid hb12; clear hb12))
  all_goals
    go_wp2
    refine bodyPost_ret (v := itVal (addN x (negN y))) (by simp [results, Try.results100, go_sem, hc]) rfl ⟨rfl, ?_⟩
    repeat (refine Below.setCell ?_ (by simp <;> omega) _)
    refine Below.trans ?_ (HB2.out.mono (by simp; omega))
    repeat (first | exact Below.refl _ _ | refine Below.setCell ?_ (by simp <;> omega) _ | refine Below.alloc ?_ (by simp <;> omega) _ | refine below_drewN ?_ _ | refine Below.drew ?_)

set_option maxHeartbeats 400000 in
theorem specSub_any (x y : It) (w : World) : Calls Try.prog 98 #[itVal x, itVal y] w (RetIt (subN x y) w) := by
  go_enter Try.func98, Try.ntmps98
  go_wp2_with fail
  go_region_with (first
    | (go_at_call 103; refine (specNeg_any y _).mono ?_; rintro e w1 ⟨rfl, hb1⟩; obtain ⟨hc, hf⟩ := bcell hb1; have HB1 := Lib.hid hb1; clear hb1)
    | (go_at_call 57; refine (specAdd_any x (negN y) _).mono ?_; rintro e w2 ⟨rfl, hb2⟩; have hb12 := HB1.out.trans (hb2.mono HB1.out.size); clear hc hf hb2; obtain ⟨hc, hf⟩ := bcell hb12; have HB2 := Lib.hid hb12; clear hb12))
  all_goals
    go_wp2
    refine bodyPost_ret (v := itVal (addN x (negN y))) (by simp [results, Try.results98, go_sem, hc]) rfl ⟨rfl, ?_⟩
    repeat (refine Below.setCell ?_ (by simp <;> omega) _)
    refine Below.trans ?_ (HB2.out.mono (by simp; omega))
    repeat (first | exact Below.refl _ _ | refine Below.setCell ?_ (by simp <;> omega) _ | refine Below.alloc ?_ (by simp <;> omega) _ | refine below_drewN ?_ _ | refine Below.drew ?_)

def intN (n : Int) : It := mkN n 1

theorem intItem_any (n : Int) (w : World) : Calls Try.prog 60 #[.int .i64 n] w (RetIt (intN n) w) := by
  go_enter Try.func60, Try.ntmps60
  go_wp2_with fail
  refine (implMake_any n 1 _).mono ?_
  rintro e w1 ⟨rfl, hb1⟩
  obtain ⟨hc, hf⟩ := bcell hb1
  have HB1 := Lib.hid hb1
  clear hb1
  go_wp2
  refine bodyPost_ret (v := itVal (mkN n 1)) (by simp [results, Try.results60, go_sem, hc]) rfl ⟨rfl, ?_⟩
  repeat (refine Below.setCell ?_ (by simp <;> omega) _)
  refine Below.trans ?_ (HB1.out.mono (by simp))
  repeat (first | exact Below.refl _ _ | refine Below.setCell ?_ (by simp <;> omega) _ | refine Below.alloc ?_ (by simp <;> omega) _ | refine below_drewN ?_ _ | refine Below.drew ?_)

def l2N (n : Int) : It := ⟨n, 1, ByteArray.empty⟩
theorem numB_l2N {n : Int} (h : -999999999 ≤ n ∧ n ≤ 999999999) : numB (l2N n) = true := by
  rw [numB_iff]; exact ⟨rfl, ⟨by show (1 : Int) ≤ 1; omega, by show (1 : Int) ≤ 999999999; omega⟩, h, by simp [l2N]⟩
theorem intN_eq {n : Int} (h : -999999999 ≤ n ∧ n ≤ 999999999) : intN n = l2N n := by
  have e : redN n 1 = l2N n := by simp [redN, l2N]
  unfold intN
  rw [mkN_pos (by decide) (by unfold lim; omega) (by decide), e, if_pos (numB_l2N h)]

theorem l2Num_any (n : Int) (w : World) : Calls Try.prog 56 #[.int .i64 n] w (RetIt (l2N n) w) := by
  go_enter Try.func56, Try.ntmps56
  go_wp2
  refine bodyPost_ret (v := itVal (l2N n)) (by simp [results, Try.results56, go_sem, l2N]; try rfl) rfl ⟨rfl, ?_⟩
  repeat (first | exact Below.refl _ _ | refine Below.setCell ?_ (by simp <;> omega) _ | refine Below.alloc ?_ (by simp <;> omega) _ | refine below_drewN ?_ _ | refine Below.drew ?_)

theorem isMissing_any (x : It) (w : World) : Calls Try.prog 80 #[itVal x] w fun e w' => e = .returned (.bool (decide (x = it0))) ∧ Below w.heap.size w w' := by
  obtain ⟨n, d, t⟩ := x
  by_cases h1 : n = 0
  · subst h1
    by_cases h2 : d = 0
    · subst h2
      by_cases h3 : t = ByteArray.empty
      · subst h3
        have H := Lib.hid (show decide ((⟨0, 0, ByteArray.empty⟩ : It) = it0) = true from by simp [it0])
        go_enter Try.func80, Try.ntmps80
        go_wp2
        go_ret
        exact ⟨by rw [H.out]; rfl, by repeat (first | exact Below.refl _ _ | refine Below.setCell ?_ (by simp <;> omega) _ | refine Below.alloc ?_ (by simp <;> omega) _ | refine below_drewN ?_ _ | refine Below.drew ?_)⟩
      · have H := Lib.hid (show decide ((⟨0, 0, t⟩ : It) = it0) = false from by simp [it0, h3])
        have b := ba_nil h3
        go_enter Try.func80, Try.ntmps80
        go_wp2
        go_ret
        exact ⟨by rw [H.out]; rfl, by repeat (first | exact Below.refl _ _ | refine Below.setCell ?_ (by simp <;> omega) _ | refine Below.alloc ?_ (by simp <;> omega) _ | refine below_drewN ?_ _ | refine Below.drew ?_)⟩
    · have H := Lib.hid (show decide ((⟨0, d, t⟩ : It) = it0) = false from by simp [it0, h2])
      go_enter Try.func80, Try.ntmps80
      go_wp2
      go_ret
      exact ⟨by rw [H.out]; rfl, by repeat (first | exact Below.refl _ _ | refine Below.setCell ?_ (by simp <;> omega) _ | refine Below.alloc ?_ (by simp <;> omega) _ | refine below_drewN ?_ _ | refine Below.drew ?_)⟩
  · have H := Lib.hid (show decide ((⟨n, d, t⟩ : It) = it0) = false from by simp [it0, h1])
    go_enter Try.func80, Try.ntmps80
    go_wp2
    go_ret
    exact ⟨by rw [H.out]; rfl, by repeat (first | exact Below.refl _ _ | refine Below.setCell ?_ (by simp <;> omega) _ | refine Below.alloc ?_ (by simp <;> omega) _ | refine below_drewN ?_ _ | refine Below.drew ?_)⟩
end Go.Proofs.Ytlcnokbhoekpkaa
