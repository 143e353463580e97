/- The four operations on numbers. -/
import Derived.Test.YtlcnokbhoekpkaaNum2
import Derived.Deep.RegionWith
namespace Go.Proofs.Ytlcnokbhoekpkaa
open Go.RowKit
set_option linter.unusedVariables false
set_option linter.unusedSimpArgs false

theorem negN_pos {x : It} (h : numB x = true) : negN x = ⟨-x.num, x.den, ByteArray.empty⟩ := by unfold negN; rw [if_pos h]
theorem negN_neg {x : It} (h : numB x = false) : negN x = it0 := by unfold negN; rw [if_neg (by simp [h])]
theorem addN_pos {x y : It} (h : numB x = true) (h' : numB y = true) : addN x y = mkN (x.num * y.den + y.num * x.den) (x.den * y.den) := by unfold addN; rw [if_pos (by simp [h, h'])]
theorem addN_neg {x y : It} (h : numB x = false ∨ numB y = false) : addN x y = it0 := by unfold addN; rw [if_neg (by rcases h with h | h <;> simp [h])]
theorem mulN_pos {x y : It} (h : numB x = true) (h' : numB y = true) : mulN x y = mkN (x.num * y.num) (x.den * y.den) := by unfold mulN; rw [if_pos (by simp [h, h'])]
theorem mulN_neg {x y : It} (h : numB x = false ∨ numB y = false) : mulN x y = it0 := by unfold mulN; rw [if_neg (by rcases h with h | h <;> simp [h])]
theorem divN_pos {x y : It} (h : numB x = true) (h' : numB y = true) : divN x y = mkN (x.num * y.den) (x.den * y.num) := by unfold divN; rw [if_pos (by simp [h, h'])]
theorem divN_neg {x y : It} (h : numB x = false ∨ numB y = false) : divN x y = it0 := by unfold divN; rw [if_neg (by rcases h with h | h <;> simp [h])]

theorem implNeg_any (x : It) (w : World) : Calls Try.prog 104 #[itVal x] w (RetIt (negN x) w) := by
  by_cases hn : numB x = true
  · obtain ⟨h0, h1, h2, -⟩ := numB_iff.1 hn
    have H := Lib.hid (negN_pos hn)
    obtain ⟨num, den, text⟩ := x
    simp only at h0 h1 h2 H
    subst h0
    go_enter Try.func104, Try.ntmps104
    go_wp2_with fail
    refine (implIsNum_any ⟨num, den, ByteArray.empty⟩ _).mono ?_
    rintro e w1 ⟨rfl, hb⟩
    rw [hn]
    obtain ⟨hc, hf⟩ := bcell hb
    have hz : w.heap.size + 1 < w1.heap.size := by have := hb.size; simp at this; omega
    have HB := Lib.hid hb
    clear hb
    go_wp2
    refine bodyPost_ret (v := itVal ⟨-num, den, ByteArray.empty⟩) (by simp [results, Try.results104, go_sem, hc, hz]; rfl) rfl ⟨by rw [H.out], ?_⟩
    repeat (refine Below.setCell ?_ (by simp <;> omega) _)
    refine Below.trans ?_ (HB.out.mono (by simp; omega))
    repeat (first | exact Below.refl _ _ | refine Below.setCell ?_ (by simp <;> omega) _ | refine Below.alloc ?_ (by simp <;> omega) _ | refine below_drewN ?_ _ | refine Below.drew ?_)
  · have hn : numB x = false := by simpa using hn
    have H := Lib.hid (negN_neg hn)
    go_enter Try.func104, Try.ntmps104
    go_wp2_with fail
    refine (implIsNum_any x _).mono ?_
    rintro e w1 ⟨rfl, hb⟩
    rw [hn]
    obtain ⟨hc, hf⟩ := bcell hb
    have hz : w.heap.size + 1 < w1.heap.size := by have := hb.size; simp at this; omega
    have HB := Lib.hid hb
    clear hb
    go_wp2
    refine bodyPost_ret (v := itVal it0) (by simp [results, Try.results104, go_sem, hc, hz]; exact ⟨rfl, rfl, rfl⟩) rfl ⟨by rw [H.out], ?_⟩
    repeat (refine Below.setCell ?_ (by simp <;> omega) _)
    refine Below.trans ?_ (HB.out.mono (by simp; omega))
    repeat (first | exact Below.refl _ _ | refine Below.setCell ?_ (by simp <;> omega) _ | refine Below.alloc ?_ (by simp <;> omega) _ | refine below_drewN ?_ _ | refine Below.drew ?_)

theorem specNeg_any (x : It) (w : World) : Calls Try.prog 103 #[itVal x] w (RetIt (negN x) w) := by
  by_cases hn : numB x = true
  · obtain ⟨h0, h1, h2, -⟩ := numB_iff.1 hn
    have H := Lib.hid (negN_pos hn)
    obtain ⟨num, den, text⟩ := x
    simp only at h0 h1 h2 H
    subst h0
    go_enter Try.func103, Try.ntmps103
    go_wp2_with fail
    refine (specIsNum_any ⟨num, den, ByteArray.empty⟩ _).mono ?_
    rintro e w1 ⟨rfl, hb⟩
    rw [hn]
    obtain ⟨hc, hf⟩ := bcell hb
    have hz : w.heap.size + 1 < w1.heap.size := by have := hb.size; simp at this; omega
    have HB := Lib.hid hb
    clear hb
    go_wp2
    refine bodyPost_ret (v := itVal ⟨-num, den, ByteArray.empty⟩) (by simp [results, Try.results103, go_sem, hc, hz]; rfl) rfl ⟨by rw [H.out], ?_⟩
    repeat (refine Below.setCell ?_ (by simp <;> omega) _)
    refine Below.trans ?_ (HB.out.mono (by simp; omega))
    repeat (first | exact Below.refl _ _ | refine Below.setCell ?_ (by simp <;> omega) _ | refine Below.alloc ?_ (by simp <;> omega) _ | refine below_drewN ?_ _ | refine Below.drew ?_)
  · have hn : numB x = false := by simpa using hn
    have H := Lib.hid (negN_neg hn)
    go_enter Try.func103, Try.ntmps103
    go_wp2_with fail
    refine (specIsNum_any x _).mono ?_
    rintro e w1 ⟨rfl, hb⟩
    rw [hn]
    obtain ⟨hc, hf⟩ := bcell hb
    have hz : w.heap.size + 1 < w1.heap.size := by have := hb.size; simp at this; omega
    have HB := Lib.hid hb
    clear hb
    go_wp2
    refine bodyPost_ret (v := itVal it0) (by simp [results, Try.results103, go_sem, hc, hz]; exact ⟨rfl, rfl, rfl⟩) rfl ⟨by rw [H.out], ?_⟩
    repeat (refine Below.setCell ?_ (by simp <;> omega) _)
    refine Below.trans ?_ (HB.out.mono (by simp; omega))
    repeat (first | exact Below.refl _ _ | refine Below.setCell ?_ (by simp <;> omega) _ | refine Below.alloc ?_ (by simp <;> omega) _ | refine below_drewN ?_ _ | refine Below.drew ?_)

set_option maxHeartbeats 400000 in
theorem implAdd_any (x y : It) (w : World) : Calls Try.prog 61 #[itVal x, itVal y] w (RetIt (addN x y) w) := by
  by_cases hx : numB x = true
  · by_cases hy : numB y = true
    · obtain ⟨e1, r1, r2, -⟩ := numB_iff.1 hx
      obtain ⟨e2, r3, r4, -⟩ := numB_iff.1 hy
      have H := Lib.hid (addN_pos hx hy)
      obtain ⟨n1, d1, t1⟩ := x
      obtain ⟨n2, d2, t2⟩ := y
      simp only at e1 r1 r2 e2 r3 r4 H
      subst e1 e2
      have b_n1d2 := mul_lim (a := n1) (b := d2) (by omega) (by omega)
      have b_n2d1 := mul_lim (a := n2) (b := d1) (by omega) (by omega)
      have b_d1d2 := mul_lim (a := d1) (b := d2) (by omega) (by omega)
      go_enter Try.func61, Try.ntmps61
      go_wp2_with fail
      refine (implIsNum_any ⟨n1, d1, ByteArray.empty⟩ _).mono ?_
      rintro e w1 ⟨rfl, hb1⟩
      rw [hx]
      obtain ⟨hc, hf⟩ := bcell hb1
      have hz : w.heap.size + 2 < w1.heap.size := by have := hb1.size; simp at this; omega
      have HB1 := Lib.hid hb1
      clear hb1
      go_wp2_with fail
      refine (implIsNum_any ⟨n2, d2, ByteArray.empty⟩ _).mono ?_
      rintro e w2 ⟨rfl, hb2⟩
      rw [hy]
      have hb12 := HB1.out.trans (hb2.mono HB1.out.size)
      clear hc hf hb2
      obtain ⟨hc, hf⟩ := bcell hb12
      have hz2 : w.heap.size + 2 < w2.heap.size := by have := hb12.size; simp at this; omega
      have HB2 := Lib.hid hb12
      clear hb12
      go_wp2_with fail
      refine (implMake_any _ _ _).mono ?_
      rintro e w3 ⟨rfl, hb3⟩
      rw [← H.out]
      have hb13 := HB2.out.trans (hb3.mono HB2.out.size)
      clear hc hf hb3
      obtain ⟨hc, hf⟩ := bcell hb13
      have hz3 : w.heap.size + 2 < w3.heap.size := by have := hb13.size; simp at this; omega
      have HB3 := Lib.hid hb13
      clear hb13
      go_wp2
      refine bodyPost_ret (v := itVal (addN ⟨n1, d1, ByteArray.empty⟩ ⟨n2, d2, ByteArray.empty⟩)) (by simp [results, Try.results61, go_sem, hc, hz3]) rfl ⟨rfl, ?_⟩
      repeat (refine Below.setCell ?_ (by simp <;> omega) _)
      refine Below.trans ?_ (HB3.out.mono (by simp; omega))
      repeat (first | exact Below.refl _ _ | refine Below.setCell ?_ (by simp <;> omega) _ | refine Below.alloc ?_ (by simp <;> omega) _ | refine below_drewN ?_ _ | refine Below.drew ?_)
    · have hy : numB y = false := by simpa using hy
      have H := Lib.hid (addN_neg (x := x) (.inr hy))
      go_enter Try.func61, Try.ntmps61
      go_wp2_with fail
      refine (implIsNum_any x _).mono ?_
      rintro e w1 ⟨rfl, hb1⟩
      rw [hx]
      obtain ⟨hc, hf⟩ := bcell hb1
      have hz : w.heap.size + 2 < w1.heap.size := by have := hb1.size; simp at this; omega
      have HB1 := Lib.hid hb1
      clear hb1
      go_wp2_with fail
      refine (implIsNum_any y _).mono ?_
      rintro e w2 ⟨rfl, hb2⟩
      rw [hy]
      have hb12 := HB1.out.trans (hb2.mono HB1.out.size)
      clear hc hf hb2
      obtain ⟨hc, hf⟩ := bcell hb12
      have hz2 : w.heap.size + 2 < w2.heap.size := by have := hb12.size; simp at this; omega
      have HB2 := Lib.hid hb12
      clear hb12
      go_wp2
      refine bodyPost_ret (v := itVal it0) (by simp [results, Try.results61, go_sem, hc, hz2]; exact ⟨rfl, rfl, rfl⟩) rfl ⟨by rw [H.out], ?_⟩
      repeat (refine Below.setCell ?_ (by simp <;> omega) _)
      refine Below.trans ?_ (HB2.out.mono (by simp; omega))
      repeat (first | exact Below.refl _ _ | refine Below.setCell ?_ (by simp <;> omega) _ | refine Below.alloc ?_ (by simp <;> omega) _ | refine below_drewN ?_ _ | refine Below.drew ?_)
  · have hx : numB x = false := by simpa using hx
    have H := Lib.hid (addN_neg (y := y) (.inl hx))
    go_enter Try.func61, Try.ntmps61
    go_wp2_with fail
    refine (implIsNum_any x _).mono ?_
    rintro e w1 ⟨rfl, hb1⟩
    rw [hx]
    obtain ⟨hc, hf⟩ := bcell hb1
    have hz : w.heap.size + 2 < w1.heap.size := by have := hb1.size; simp at this; omega
    have HB1 := Lib.hid hb1
    clear hb1
    go_wp2
    refine bodyPost_ret (v := itVal it0) (by simp [results, Try.results61, go_sem, hc, hz]; exact ⟨rfl, rfl, rfl⟩) rfl ⟨by rw [H.out], ?_⟩
    repeat (refine Below.setCell ?_ (by simp <;> omega) _)
    refine Below.trans ?_ (HB1.out.mono (by simp; omega))
    repeat (first | exact Below.refl _ _ | refine Below.setCell ?_ (by simp <;> omega) _ | refine Below.alloc ?_ (by simp <;> omega) _ | refine below_drewN ?_ _ | refine Below.drew ?_)

set_option maxHeartbeats 400000 in
theorem implMul_any (x y : It) (w : World) : Calls Try.prog 62 #[itVal x, itVal y] w (RetIt (mulN x y) w) := by
  by_cases hx : numB x = true
  · by_cases hy : numB y = true
    · obtain ⟨e1, r1, r2, -⟩ := numB_iff.1 hx
      obtain ⟨e2, r3, r4, -⟩ := numB_iff.1 hy
      have H := Lib.hid (mulN_pos hx hy)
      obtain ⟨n1, d1, t1⟩ := x
      obtain ⟨n2, d2, t2⟩ := y
      simp only at e1 r1 r2 e2 r3 r4 H
      subst e1 e2
      have b_n1n2 := mul_lim (a := n1) (b := n2) (by omega) (by omega)
      have b_d1d2 := mul_lim (a := d1) (b := d2) (by omega) (by omega)
      go_enter Try.func62, Try.ntmps62
      go_wp2_with fail
      refine (implIsNum_any ⟨n1, d1, ByteArray.empty⟩ _).mono ?_
      rintro e w1 ⟨rfl, hb1⟩
      rw [hx]
      obtain ⟨hc, hf⟩ := bcell hb1
      have hz : w.heap.size + 2 < w1.heap.size := by have := hb1.size; simp at this; omega
      have HB1 := Lib.hid hb1
      clear hb1
      go_wp2_with fail
      refine (implIsNum_any ⟨n2, d2, ByteArray.empty⟩ _).mono ?_
      rintro e w2 ⟨rfl, hb2⟩
      rw [hy]
      have hb12 := HB1.out.trans (hb2.mono HB1.out.size)
      clear hc hf hb2
      obtain ⟨hc, hf⟩ := bcell hb12
      have hz2 : w.heap.size + 2 < w2.heap.size := by have := hb12.size; simp at this; omega
      have HB2 := Lib.hid hb12
      clear hb12
      go_wp2_with fail
      refine (implMake_any _ _ _).mono ?_
      rintro e w3 ⟨rfl, hb3⟩
      rw [← H.out]
      have hb13 := HB2.out.trans (hb3.mono HB2.out.size)
      clear hc hf hb3
      obtain ⟨hc, hf⟩ := bcell hb13
      have hz3 : w.heap.size + 2 < w3.heap.size := by have := hb13.size; simp at this; omega
      have HB3 := Lib.hid hb13
      clear hb13
      go_wp2
      refine bodyPost_ret (v := itVal (mulN ⟨n1, d1, ByteArray.empty⟩ ⟨n2, d2, ByteArray.empty⟩)) (by simp [results, Try.results62, go_sem, hc, hz3]) rfl ⟨rfl, ?_⟩
      repeat (refine Below.setCell ?_ (by simp <;> omega) _)
      refine Below.trans ?_ (HB3.out.mono (by simp; omega))
      repeat (first | exact Below.refl _ _ | refine Below.setCell ?_ (by simp <;> omega) _ | refine Below.alloc ?_ (by simp <;> omega) _ | refine below_drewN ?_ _ | refine Below.drew ?_)
    · have hy : numB y = false := by simpa using hy
      have H := Lib.hid (mulN_neg (x := x) (.inr hy))
      go_enter Try.func62, Try.ntmps62
      go_wp2_with fail
      refine (implIsNum_any x _).mono ?_
      rintro e w1 ⟨rfl, hb1⟩
      rw [hx]
      obtain ⟨hc, hf⟩ := bcell hb1
      have hz : w.heap.size + 2 < w1.heap.size := by have := hb1.size; simp at this; omega
      have HB1 := Lib.hid hb1
      clear hb1
      go_wp2_with fail
      refine (implIsNum_any y _).mono ?_
      rintro e w2 ⟨rfl, hb2⟩
      rw [hy]
      have hb12 := HB1.out.trans (hb2.mono HB1.out.size)
      clear hc hf hb2
      obtain ⟨hc, hf⟩ := bcell hb12
      have hz2 : w.heap.size + 2 < w2.heap.size := by have := hb12.size; simp at this; omega
      have HB2 := Lib.hid hb12
      clear hb12
      go_wp2
      refine bodyPost_ret (v := itVal it0) (by simp [results, Try.results62, go_sem, hc, hz2]; exact ⟨rfl, rfl, rfl⟩) rfl ⟨by rw [H.out], ?_⟩
      repeat (refine Below.setCell ?_ (by simp <;> omega) _)
      refine Below.trans ?_ (HB2.out.mono (by simp; omega))
      repeat (first | exact Below.refl _ _ | refine Below.setCell ?_ (by simp <;> omega) _ | refine Below.alloc ?_ (by simp <;> omega) _ | refine below_drewN ?_ _ | refine Below.drew ?_)
  · have hx : numB x = false := by simpa using hx
    have H := Lib.hid (mulN_neg (y := y) (.inl hx))
    go_enter Try.func62, Try.ntmps62
    go_wp2_with fail
    refine (implIsNum_any x _).mono ?_
    rintro e w1 ⟨rfl, hb1⟩
    rw [hx]
    obtain ⟨hc, hf⟩ := bcell hb1
    have hz : w.heap.size + 2 < w1.heap.size := by have := hb1.size; simp at this; omega
    have HB1 := Lib.hid hb1
    clear hb1
    go_wp2
    refine bodyPost_ret (v := itVal it0) (by simp [results, Try.results62, go_sem, hc, hz]; exact ⟨rfl, rfl, rfl⟩) rfl ⟨by rw [H.out], ?_⟩
    repeat (refine Below.setCell ?_ (by simp <;> omega) _)
    refine Below.trans ?_ (HB1.out.mono (by simp; omega))
    repeat (first | exact Below.refl _ _ | refine Below.setCell ?_ (by simp <;> omega) _ | refine Below.alloc ?_ (by simp <;> omega) _ | refine below_drewN ?_ _ | refine Below.drew ?_)

set_option maxHeartbeats 400000 in
theorem implDiv_any (x y : It) (w : World) : Calls Try.prog 99 #[itVal x, itVal y] w (RetIt (divN x y) w) := by
  by_cases hx : numB x = true
  · by_cases hy : numB y = true
    · obtain ⟨e1, r1, r2, -⟩ := numB_iff.1 hx
      obtain ⟨e2, r3, r4, -⟩ := numB_iff.1 hy
      have H := Lib.hid (divN_pos hx hy)
      obtain ⟨n1, d1, t1⟩ := x
      obtain ⟨n2, d2, t2⟩ := y
      simp only at e1 r1 r2 e2 r3 r4 H
      subst e1 e2
      have b_n1d2 := mul_lim (a := n1) (b := d2) (by omega) (by omega)
      have b_d1n2 := mul_lim (a := d1) (b := n2) (by omega) (by omega)
      by_cases hz0 : n2 = 0
      · have HD := Lib.hid (show divN ⟨n1, d1, ByteArray.empty⟩ ⟨n2, d2, ByteArray.empty⟩ = it0 from by rw [H.out, hz0, Int.mul_zero, mkN_zero])
        have bz : (n2 == 0) = true := beq_iff_eq.2 hz0
        clear hz0
        go_enter Try.func99, Try.ntmps99
        go_wp2_with fail
        refine (implIsNum_any ⟨n1, d1, ByteArray.empty⟩ _).mono ?_
        rintro e w1 ⟨rfl, hb1⟩
        rw [hx]
        obtain ⟨hc, hf⟩ := bcell hb1
        have hz : w.heap.size + 2 < w1.heap.size := by have := hb1.size; simp at this; omega
        have HB1 := Lib.hid hb1
        clear hb1
        go_wp2_with fail
        refine (implIsNum_any ⟨n2, d2, ByteArray.empty⟩ _).mono ?_
        rintro e w2 ⟨rfl, hb2⟩
        rw [hy]
        have hb12 := HB1.out.trans (hb2.mono HB1.out.size)
        clear hc hf hb2
        obtain ⟨hc, hf⟩ := bcell hb12
        have hz2 : w.heap.size + 2 < w2.heap.size := by have := hb12.size; simp at this; omega
        have HB2 := Lib.hid hb12
        clear hb12
        go_wp2
        refine bodyPost_ret (v := itVal it0) (by simp [results, Try.results99, go_sem, hc, hz2]; exact ⟨rfl, rfl, rfl⟩) rfl ⟨by rw [HD.out], ?_⟩
        repeat (refine Below.setCell ?_ (by simp <;> omega) _)
        refine Below.trans ?_ (HB2.out.mono (by simp; omega))
        repeat (first | exact Below.refl _ _ | refine Below.setCell ?_ (by simp <;> omega) _ | refine Below.alloc ?_ (by simp <;> omega) _ | refine below_drewN ?_ _ | refine Below.drew ?_)
      have bz : (n2 == 0) = false := beq_eq_false_iff_ne.2 hz0
      go_enter Try.func99, Try.ntmps99
      go_wp2_with fail
      refine (implIsNum_any ⟨n1, d1, ByteArray.empty⟩ _).mono ?_
      rintro e w1 ⟨rfl, hb1⟩
      rw [hx]
      obtain ⟨hc, hf⟩ := bcell hb1
      have hz : w.heap.size + 2 < w1.heap.size := by have := hb1.size; simp at this; omega
      have HB1 := Lib.hid hb1
      clear hb1
      go_wp2_with fail
      refine (implIsNum_any ⟨n2, d2, ByteArray.empty⟩ _).mono ?_
      rintro e w2 ⟨rfl, hb2⟩
      rw [hy]
      have hb12 := HB1.out.trans (hb2.mono HB1.out.size)
      clear hc hf hb2
      obtain ⟨hc, hf⟩ := bcell hb12
      have hz2 : w.heap.size + 2 < w2.heap.size := by have := hb12.size; simp at this; omega
      have HB2 := Lib.hid hb12
      clear hb12
      go_wp2_with fail
      refine (implMake_any _ _ _).mono ?_
      rintro e w3 ⟨rfl, hb3⟩
      rw [← H.out]
      have hb13 := HB2.out.trans (hb3.mono HB2.out.size)
      clear hc hf hb3
      obtain ⟨hc, hf⟩ := bcell hb13
      have hz3 : w.heap.size + 2 < w3.heap.size := by have := hb13.size; simp at this; omega
      have HB3 := Lib.hid hb13
      clear hb13
      go_wp2
      refine bodyPost_ret (v := itVal (divN ⟨n1, d1, ByteArray.empty⟩ ⟨n2, d2, ByteArray.empty⟩)) (by simp [results, Try.results99, go_sem, hc, hz3]) rfl ⟨rfl, ?_⟩
      repeat (refine Below.setCell ?_ (by simp <;> omega) _)
      refine Below.trans ?_ (HB3.out.mono (by simp; omega))
      repeat (first | exact Below.refl _ _ | refine Below.setCell ?_ (by simp <;> omega) _ | refine Below.alloc ?_ (by simp <;> omega) _ | refine below_drewN ?_ _ | refine Below.drew ?_)
    · have hy : numB y = false := by simpa using hy
      have H := Lib.hid (divN_neg (x := x) (.inr hy))
      go_enter Try.func99, Try.ntmps99
      go_wp2_with fail
      refine (implIsNum_any x _).mono ?_
      rintro e w1 ⟨rfl, hb1⟩
      rw [hx]
      obtain ⟨hc, hf⟩ := bcell hb1
      have hz : w.heap.size + 2 < w1.heap.size := by have := hb1.size; simp at this; omega
      have HB1 := Lib.hid hb1
      clear hb1
      go_wp2_with fail
      refine (implIsNum_any y _).mono ?_
      rintro e w2 ⟨rfl, hb2⟩
      rw [hy]
      have hb12 := HB1.out.trans (hb2.mono HB1.out.size)
      clear hc hf hb2
      obtain ⟨hc, hf⟩ := bcell hb12
      have hz2 : w.heap.size + 2 < w2.heap.size := by have := hb12.size; simp at this; omega
      have HB2 := Lib.hid hb12
      clear hb12
      go_wp2
      refine bodyPost_ret (v := itVal it0) (by simp [results, Try.results99, go_sem, hc, hz2]; exact ⟨rfl, rfl, rfl⟩) rfl ⟨by rw [H.out], ?_⟩
      repeat (refine Below.setCell ?_ (by simp <;> omega) _)
      refine Below.trans ?_ (HB2.out.mono (by simp; omega))
      repeat (first | exact Below.refl _ _ | refine Below.setCell ?_ (by simp <;> omega) _ | refine Below.alloc ?_ (by simp <;> omega) _ | refine below_drewN ?_ _ | refine Below.drew ?_)
  · have hx : numB x = false := by simpa using hx
    have H := Lib.hid (divN_neg (y := y) (.inl hx))
    go_enter Try.func99, Try.ntmps99
    go_wp2_with fail
    refine (implIsNum_any x _).mono ?_
    rintro e w1 ⟨rfl, hb1⟩
    rw [hx]
    obtain ⟨hc, hf⟩ := bcell hb1
    have hz : w.heap.size + 2 < w1.heap.size := by have := hb1.size; simp at this; omega
    have HB1 := Lib.hid hb1
    clear hb1
    go_wp2
    refine bodyPost_ret (v := itVal it0) (by simp [results, Try.results99, go_sem, hc, hz]; exact ⟨rfl, rfl, rfl⟩) rfl ⟨by rw [H.out], ?_⟩
    repeat (refine Below.setCell ?_ (by simp <;> omega) _)
    refine Below.trans ?_ (HB1.out.mono (by simp; omega))
    repeat (first | exact Below.refl _ _ | refine Below.setCell ?_ (by simp <;> omega) _ | refine Below.alloc ?_ (by simp <;> omega) _ | refine below_drewN ?_ _ | refine Below.drew ?_)

set_option maxHeartbeats 400000 in
theorem specAdd_any (x y : It) (w : World) : Calls Try.prog 57 #[itVal x, itVal y] w (RetIt (addN x y) w) := by
  by_cases hx : numB x = true
  · by_cases hy : numB y = true
    · obtain ⟨e1, r1, r2, -⟩ := numB_iff.1 hx
      obtain ⟨e2, r3, r4, -⟩ := numB_iff.1 hy
      have H := Lib.hid (addN_pos hx hy)
      obtain ⟨n1, d1, t1⟩ := x
      obtain ⟨n2, d2, t2⟩ := y
      simp only at e1 r1 r2 e2 r3 r4 H
      subst e1 e2
      have b_n1d2 := mul_lim (a := n1) (b := d2) (by omega) (by omega)
      have b_n2d1 := mul_lim (a := n2) (b := d1) (by omega) (by omega)
      have b_d1d2 := mul_lim (a := d1) (b := d2) (by omega) (by omega)
      go_enter Try.func57, Try.ntmps57
      go_wp2_with fail
      refine (specIsNum_any ⟨n1, d1, ByteArray.empty⟩ _).mono ?_
      rintro e w1 ⟨rfl, hb1⟩
      rw [hx]
      obtain ⟨hc, hf⟩ := bcell hb1
      have hz : w.heap.size + 2 < w1.heap.size := by have := hb1.size; simp at this; omega
      have HB1 := Lib.hid hb1
      clear hb1
      go_wp2_with fail
      refine (specIsNum_any ⟨n2, d2, ByteArray.empty⟩ _).mono ?_
      rintro e w2 ⟨rfl, hb2⟩
      rw [hy]
      have hb12 := HB1.out.trans (hb2.mono HB1.out.size)
      clear hc hf hb2
      obtain ⟨hc, hf⟩ := bcell hb12
      have hz2 : w.heap.size + 2 < w2.heap.size := by have := hb12.size; simp at this; omega
      have HB2 := Lib.hid hb12
      clear hb12
      go_wp2_with fail
      refine (specMake_any _ _ _).mono ?_
      rintro e w3 ⟨rfl, hb3⟩
      rw [← H.out]
      have hb13 := HB2.out.trans (hb3.mono HB2.out.size)
      clear hc hf hb3
      obtain ⟨hc, hf⟩ := bcell hb13
      have hz3 : w.heap.size + 2 < w3.heap.size := by have := hb13.size; simp at this; omega
      have HB3 := Lib.hid hb13
      clear hb13
      go_wp2
      refine bodyPost_ret (v := itVal (addN ⟨n1, d1, ByteArray.empty⟩ ⟨n2, d2, ByteArray.empty⟩)) (by simp [results, Try.results57, go_sem, hc, hz3]) rfl ⟨rfl, ?_⟩
      repeat (refine Below.setCell ?_ (by simp <;> omega) _)
      refine Below.trans ?_ (HB3.out.mono (by simp; omega))
      repeat (first | exact Below.refl _ _ | refine Below.setCell ?_ (by simp <;> omega) _ | refine Below.alloc ?_ (by simp <;> omega) _ | refine below_drewN ?_ _ | refine Below.drew ?_)
    · have hy : numB y = false := by simpa using hy
      have H := Lib.hid (addN_neg (x := x) (.inr hy))
      go_enter Try.func57, Try.ntmps57
      go_wp2_with fail
      refine (specIsNum_any x _).mono ?_
      rintro e w1 ⟨rfl, hb1⟩
      rw [hx]
      obtain ⟨hc, hf⟩ := bcell hb1
      have hz : w.heap.size + 2 < w1.heap.size := by have := hb1.size; simp at this; omega
      have HB1 := Lib.hid hb1
      clear hb1
      go_wp2_with fail
      refine (specIsNum_any y _).mono ?_
      rintro e w2 ⟨rfl, hb2⟩
      rw [hy]
      have hb12 := HB1.out.trans (hb2.mono HB1.out.size)
      clear hc hf hb2
      obtain ⟨hc, hf⟩ := bcell hb12
      have hz2 : w.heap.size + 2 < w2.heap.size := by have := hb12.size; simp at this; omega
      have HB2 := Lib.hid hb12
      clear hb12
      go_wp2
      refine bodyPost_ret (v := itVal it0) (by simp [results, Try.results57, go_sem, hc, hz2]; exact ⟨rfl, rfl, rfl⟩) rfl ⟨by rw [H.out], ?_⟩
      repeat (refine Below.setCell ?_ (by simp <;> omega) _)
      refine Below.trans ?_ (HB2.out.mono (by simp; omega))
      repeat (first | exact Below.refl _ _ | refine Below.setCell ?_ (by simp <;> omega) _ | refine Below.alloc ?_ (by simp <;> omega) _ | refine below_drewN ?_ _ | refine Below.drew ?_)
  · have hx : numB x = false := by simpa using hx
    have H := Lib.hid (addN_neg (y := y) (.inl hx))
    go_enter Try.func57, Try.ntmps57
    go_wp2_with fail
    refine (specIsNum_any x _).mono ?_
    rintro e w1 ⟨rfl, hb1⟩
    rw [hx]
    obtain ⟨hc, hf⟩ := bcell hb1
    have hz : w.heap.size + 2 < w1.heap.size := by have := hb1.size; simp at this; omega
    have HB1 := Lib.hid hb1
    clear hb1
    go_wp2
    refine bodyPost_ret (v := itVal it0) (by simp [results, Try.results57, go_sem, hc, hz]; exact ⟨rfl, rfl, rfl⟩) rfl ⟨by rw [H.out], ?_⟩
    repeat (refine Below.setCell ?_ (by simp <;> omega) _)
    refine Below.trans ?_ (HB1.out.mono (by simp; omega))
    repeat (first | exact Below.refl _ _ | refine Below.setCell ?_ (by simp <;> omega) _ | refine Below.alloc ?_ (by simp <;> omega) _ | refine below_drewN ?_ _ | refine Below.drew ?_)

set_option maxHeartbeats 400000 in
theorem specMul_any (x y : It) (w : World) : Calls Try.prog 58 #[itVal x, itVal y] w (RetIt (mulN x y) w) := by
  by_cases hx : numB x = true
  · by_cases hy : numB y = true
    · obtain ⟨e1, r1, r2, -⟩ := numB_iff.1 hx
      obtain ⟨e2, r3, r4, -⟩ := numB_iff.1 hy
      have H := Lib.hid (mulN_pos hx hy)
      obtain ⟨n1, d1, t1⟩ := x
      obtain ⟨n2, d2, t2⟩ := y
      simp only at e1 r1 r2 e2 r3 r4 H
      subst e1 e2
      have b_n1n2 := mul_lim (a := n1) (b := n2) (by omega) (by omega)
      have b_d1d2 := mul_lim (a := d1) (b := d2) (by omega) (by omega)
      go_enter Try.func58, Try.ntmps58
      go_wp2_with fail
      refine (specIsNum_any ⟨n1, d1, ByteArray.empty⟩ _).mono ?_
      rintro e w1 ⟨rfl, hb1⟩
      rw [hx]
      obtain ⟨hc, hf⟩ := bcell hb1
      have hz : w.heap.size + 2 < w1.heap.size := by have := hb1.size; simp at this; omega
      have HB1 := Lib.hid hb1
      clear hb1
      go_wp2_with fail
      refine (specIsNum_any ⟨n2, d2, ByteArray.empty⟩ _).mono ?_
      rintro e w2 ⟨rfl, hb2⟩
      rw [hy]
      have hb12 := HB1.out.trans (hb2.mono HB1.out.size)
      clear hc hf hb2
      obtain ⟨hc, hf⟩ := bcell hb12
      have hz2 : w.heap.size + 2 < w2.heap.size := by have := hb12.size; simp at this; omega
      have HB2 := Lib.hid hb12
      clear hb12
      go_wp2_with fail
      refine (specMake_any _ _ _).mono ?_
      rintro e w3 ⟨rfl, hb3⟩
      rw [← H.out]
      have hb13 := HB2.out.trans (hb3.mono HB2.out.size)
      clear hc hf hb3
      obtain ⟨hc, hf⟩ := bcell hb13
      have hz3 : w.heap.size + 2 < w3.heap.size := by have := hb13.size; simp at this; omega
      have HB3 := Lib.hid hb13
      clear hb13
      go_wp2
      refine bodyPost_ret (v := itVal (mulN ⟨n1, d1, ByteArray.empty⟩ ⟨n2, d2, ByteArray.empty⟩)) (by simp [results, Try.results58, go_sem, hc, hz3]) rfl ⟨rfl, ?_⟩
      repeat (refine Below.setCell ?_ (by simp <;> omega) _)
      refine Below.trans ?_ (HB3.out.mono (by simp; omega))
      repeat (first | exact Below.refl _ _ | refine Below.setCell ?_ (by simp <;> omega) _ | refine Below.alloc ?_ (by simp <;> omega) _ | refine below_drewN ?_ _ | refine Below.drew ?_)
    · have hy : numB y = false := by simpa using hy
      have H := Lib.hid (mulN_neg (x := x) (.inr hy))
      go_enter Try.func58, Try.ntmps58
      go_wp2_with fail
      refine (specIsNum_any x _).mono ?_
      rintro e w1 ⟨rfl, hb1⟩
      rw [hx]
      obtain ⟨hc, hf⟩ := bcell hb1
      have hz : w.heap.size + 2 < w1.heap.size := by have := hb1.size; simp at this; omega
      have HB1 := Lib.hid hb1
      clear hb1
      go_wp2_with fail
      refine (specIsNum_any y _).mono ?_
      rintro e w2 ⟨rfl, hb2⟩
      rw [hy]
      have hb12 := HB1.out.trans (hb2.mono HB1.out.size)
      clear hc hf hb2
      obtain ⟨hc, hf⟩ := bcell hb12
      have hz2 : w.heap.size + 2 < w2.heap.size := by have := hb12.size; simp at this; omega
      have HB2 := Lib.hid hb12
      clear hb12
      go_wp2
      refine bodyPost_ret (v := itVal it0) (by simp [results, Try.results58, go_sem, hc, hz2]; exact ⟨rfl, rfl, rfl⟩) rfl ⟨by rw [H.out], ?_⟩
      repeat (refine Below.setCell ?_ (by simp <;> omega) _)
      refine Below.trans ?_ (HB2.out.mono (by simp; omega))
      repeat (first | exact Below.refl _ _ | refine Below.setCell ?_ (by simp <;> omega) _ | refine Below.alloc ?_ (by simp <;> omega) _ | refine below_drewN ?_ _ | refine Below.drew ?_)
  · have hx : numB x = false := by simpa using hx
    have H := Lib.hid (mulN_neg (y := y) (.inl hx))
    go_enter Try.func58, Try.ntmps58
    go_wp2_with fail
    refine (specIsNum_any x _).mono ?_
    rintro e w1 ⟨rfl, hb1⟩
    rw [hx]
    obtain ⟨hc, hf⟩ := bcell hb1
    have hz : w.heap.size + 2 < w1.heap.size := by have := hb1.size; simp at this; omega
    have HB1 := Lib.hid hb1
    clear hb1
    go_wp2
    refine bodyPost_ret (v := itVal it0) (by simp [results, Try.results58, go_sem, hc, hz]; exact ⟨rfl, rfl, rfl⟩) rfl ⟨by rw [H.out], ?_⟩
    repeat (refine Below.setCell ?_ (by simp <;> omega) _)
    refine Below.trans ?_ (HB1.out.mono (by simp; omega))
    repeat (first | exact Below.refl _ _ | refine Below.setCell ?_ (by simp <;> omega) _ | refine Below.alloc ?_ (by simp <;> omega) _ | refine below_drewN ?_ _ | refine Below.drew ?_)

set_option maxHeartbeats 400000 in
theorem specDiv_any (x y : It) (w : World) : Calls Try.prog 97 #[itVal x, itVal y] w (RetIt (divN x y) w) := by
  by_cases hx : numB x = true
  · by_cases hy : numB y = true
    · obtain ⟨e1, r1, r2, -⟩ := numB_iff.1 hx
      obtain ⟨e2, r3, r4, -⟩ := numB_iff.1 hy
      have H := Lib.hid (divN_pos hx hy)
      obtain ⟨n1, d1, t1⟩ := x
      obtain ⟨n2, d2, t2⟩ := y
      simp only at e1 r1 r2 e2 r3 r4 H
      subst e1 e2
      have b_n1d2 := mul_lim (a := n1) (b := d2) (by omega) (by omega)
      have b_d1n2 := mul_lim (a := d1) (b := n2) (by omega) (by omega)
      go_enter Try.func97, Try.ntmps97
      go_wp2_with fail
      refine (specIsNum_any ⟨n1, d1, ByteArray.empty⟩ _).mono ?_
      rintro e w1 ⟨rfl, hb1⟩
      rw [hx]
      obtain ⟨hc, hf⟩ := bcell hb1
      have hz : w.heap.size + 2 < w1.heap.size := by have := hb1.size; simp at this; omega
      have HB1 := Lib.hid hb1
      clear hb1
      go_wp2_with fail
      refine (specIsNum_any ⟨n2, d2, ByteArray.empty⟩ _).mono ?_
      rintro e w2 ⟨rfl, hb2⟩
      rw [hy]
      have hb12 := HB1.out.trans (hb2.mono HB1.out.size)
      clear hc hf hb2
      obtain ⟨hc, hf⟩ := bcell hb12
      have hz2 : w.heap.size + 2 < w2.heap.size := by have := hb12.size; simp at this; omega
      have HB2 := Lib.hid hb12
      clear hb12
      go_wp2_with fail
      refine (specMake_any _ _ _).mono ?_
      rintro e w3 ⟨rfl, hb3⟩
      rw [← H.out]
      have hb13 := HB2.out.trans (hb3.mono HB2.out.size)
      clear hc hf hb3
      obtain ⟨hc, hf⟩ := bcell hb13
      have hz3 : w.heap.size + 2 < w3.heap.size := by have := hb13.size; simp at this; omega
      have HB3 := Lib.hid hb13
      clear hb13
      go_wp2
      refine bodyPost_ret (v := itVal (divN ⟨n1, d1, ByteArray.empty⟩ ⟨n2, d2, ByteArray.empty⟩)) (by simp [results, Try.results97, go_sem, hc, hz3]) rfl ⟨rfl, ?_⟩
      repeat (refine Below.setCell ?_ (by simp <;> omega) _)
      refine Below.trans ?_ (HB3.out.mono (by simp; omega))
      repeat (first | exact Below.refl _ _ | refine Below.setCell ?_ (by simp <;> omega) _ | refine Below.alloc ?_ (by simp <;> omega) _ | refine below_drewN ?_ _ | refine Below.drew ?_)
    · have hy : numB y = false := by simpa using hy
      have H := Lib.hid (divN_neg (x := x) (.inr hy))
      go_enter Try.func97, Try.ntmps97
      go_wp2_with fail
      refine (specIsNum_any x _).mono ?_
      rintro e w1 ⟨rfl, hb1⟩
      rw [hx]
      obtain ⟨hc, hf⟩ := bcell hb1
      have hz : w.heap.size + 2 < w1.heap.size := by have := hb1.size; simp at this; omega
      have HB1 := Lib.hid hb1
      clear hb1
      go_wp2_with fail
      refine (specIsNum_any y _).mono ?_
      rintro e w2 ⟨rfl, hb2⟩
      rw [hy]
      have hb12 := HB1.out.trans (hb2.mono HB1.out.size)
      clear hc hf hb2
      obtain ⟨hc, hf⟩ := bcell hb12
      have hz2 : w.heap.size + 2 < w2.heap.size := by have := hb12.size; simp at this; omega
      have HB2 := Lib.hid hb12
      clear hb12
      go_wp2
      refine bodyPost_ret (v := itVal it0) (by simp [results, Try.results97, go_sem, hc, hz2]; exact ⟨rfl, rfl, rfl⟩) rfl ⟨by rw [H.out], ?_⟩
      repeat (refine Below.setCell ?_ (by simp <;> omega) _)
      refine Below.trans ?_ (HB2.out.mono (by simp; omega))
      repeat (first | exact Below.refl _ _ | refine Below.setCell ?_ (by simp <;> omega) _ | refine Below.alloc ?_ (by simp <;> omega) _ | refine below_drewN ?_ _ | refine Below.drew ?_)
  · have hx : numB x = false := by simpa using hx
    have H := Lib.hid (divN_neg (y := y) (.inl hx))
    go_enter Try.func97, Try.ntmps97
    go_wp2_with fail
    refine (specIsNum_any x _).mono ?_
    rintro e w1 ⟨rfl, hb1⟩
    rw [hx]
    obtain ⟨hc, hf⟩ := bcell hb1
    have hz : w.heap.size + 2 < w1.heap.size := by have := hb1.size; simp at this; omega
    have HB1 := Lib.hid hb1
    clear hb1
    go_wp2
    refine bodyPost_ret (v := itVal it0) (by simp [results, Try.results97, go_sem, hc, hz]; exact ⟨rfl, rfl, rfl⟩) rfl ⟨by rw [H.out], ?_⟩
    repeat (refine Below.setCell ?_ (by simp <;> omega) _)
    refine Below.trans ?_ (HB1.out.mono (by simp; omega))
    repeat (first | exact Below.refl _ _ | refine Below.setCell ?_ (by simp <;> omega) _ | refine Below.alloc ?_ (by simp <;> omega) _ | refine below_drewN ?_ _ | refine Below.drew ?_)
end Go.Proofs.Ytlcnokbhoekpkaa
