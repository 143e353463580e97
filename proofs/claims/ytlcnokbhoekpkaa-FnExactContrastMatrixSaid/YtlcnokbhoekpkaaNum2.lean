/- impl.MakeNumber, spec.MakeNumber, and the four operations. -/
import Derived.Test.YtlcnokbhoekpkaaNum
namespace Go.Proofs.Ytlcnokbhoekpkaa
open Go.RowKit
set_option linter.unusedVariables false
set_option linter.unusedSimpArgs false

/-- a function returns a number -/
def RetIt (x : It) (w : World) (e : Ending) (w' : World) : Prop := e = .returned (itVal x) ∧ Below w.heap.size w w'

theorem make_ways (n d : Int) : (mkN n d = it0 ∧ d = 0) ∨ (mkN n d = it0 ∧ d ≠ 0 ∧ n < -4000000000000000000) ∨ (mkN n d = it0 ∧ d ≠ 0 ∧ -4000000000000000000 ≤ n ∧ 4000000000000000000 < n) ∨
    (mkN n d = it0 ∧ d ≠ 0 ∧ -4000000000000000000 ≤ n ∧ n ≤ 4000000000000000000 ∧ d < -4000000000000000000) ∨ (mkN n d = it0 ∧ d ≠ 0 ∧ -4000000000000000000 ≤ n ∧ n ≤ 4000000000000000000 ∧ -4000000000000000000 ≤ d ∧ 4000000000000000000 < d) ∨
    (mkN n d = (if numB (redN n d) = true then redN n d else it0) ∧ d ≠ 0 ∧ -4000000000000000000 ≤ n ∧ n ≤ 4000000000000000000 ∧ -4000000000000000000 ≤ d ∧ d ≤ 4000000000000000000) := by
  by_cases h0 : d = 0
  · exact .inl ⟨mkN_neg (.inl h0), h0⟩
  · by_cases h1 : -4000000000000000000 ≤ n
    · by_cases h2 : n ≤ 4000000000000000000
      · by_cases h3 : -4000000000000000000 ≤ d
        · by_cases h4 : d ≤ 4000000000000000000
          · exact .inr (.inr (.inr (.inr (.inr ⟨mkN_pos h0 ⟨h1, h2⟩ ⟨h3, h4⟩, h0, h1, h2, h3, h4⟩))))
          · exact .inr (.inr (.inr (.inr (.inl ⟨mkN_neg (.inr (.inr (by unfold lim; omega))), h0, h1, h2, h3, by omega⟩))))
        · exact .inr (.inr (.inr (.inl ⟨mkN_neg (.inr (.inr (by unfold lim; omega))), h0, h1, h2, by omega⟩)))
      · exact .inr (.inr (.inl ⟨mkN_neg (.inr (.inl (by unfold lim; omega))), h0, h1, by omega⟩))
    · exact .inr (.inl ⟨mkN_neg (.inr (.inl (by unfold lim; omega))), h0, by omega⟩)

theorem tdiv_bd {n g : Int} (h1 : -4000000000000000000 ≤ n) (h2 : n ≤ 4000000000000000000) (hg : 1 ≤ g) : -4000000000000000000 ≤ n.tdiv g ∧ n.tdiv g ≤ 4000000000000000000 := by
  have h : (n.tdiv g).natAbs ≤ n.natAbs := by rw [Int.natAbs_tdiv]; exact Nat.div_le_self _ _
  omega
theorem ediv_bd {n g : Int} (h1 : 0 ≤ n) (h2 : n ≤ 4000000000000000000) (hg : 1 ≤ g) : 0 ≤ n / g ∧ n / g ≤ 4000000000000000000 :=
  ⟨Int.ediv_nonneg h1 (by omega), Int.le_trans (Int.ediv_le_self _ h1) h2⟩

theorem red_neg {n d P Q : Int} (hd : d < 0) (h1 : -4000000000000000000 ≤ n) (h2 : n ≤ 4000000000000000000) (h3 : -4000000000000000000 ≤ d) (h4 : d ≤ 4000000000000000000)
    (hP : wrap64 (-n.tdiv (Int.gcd n d : Int)) = P) (hQ : wrap64 (-d.tdiv (Int.gcd n d : Int)) = Q) : redN n d = ⟨P, Q, ByteArray.empty⟩ := by
  obtain ⟨hg, hgn, hgd⟩ := gcd_pos (n := n) (d := d) (by omega)
  have b1 := tdiv_bd h1 h2 hg
  have b2 := tdiv_bd h3 h4 hg
  rw [IntWalk.wrap64_in _ ⟨by omega, by omega⟩] at hP hQ
  unfold redN
  rw [if_pos hd, if_pos hd, ← hP, ← hQ, tdiv_exact hgn, tdiv_exact hgd, Int.neg_ediv_of_dvd hgn, Int.neg_ediv_of_dvd hgd]
theorem red_pos {n d P Q : Int} (hd : 0 < d) (hP : n.tdiv (Int.gcd n d : Int) = P) (hQ : d / (Int.gcd n d : Int) = Q) : redN n d = ⟨P, Q, ByteArray.empty⟩ := by
  obtain ⟨hg, hgn, hgd⟩ := gcd_pos (n := n) (d := d) (by omega)
  unfold redN
  rw [if_neg (by omega), if_neg (by omega), ← hP, ← hQ, tdiv_exact hgn]

theorem implMake_any (n d : Int) (w : World) :
    Calls Try.prog 91 #[.int .i64 n, .int .i64 d] w (RetIt (mkN n d) w) := by
  rcases make_ways n d with ⟨h, h0⟩ | ⟨h, h0, h1⟩ | ⟨h, h0, h1, h2⟩ | ⟨h, h0, h1, h2, h3⟩ | ⟨h, h0, h1, h2, h3, h4⟩ | ⟨h, h0, h1, h2, h3, h4⟩
  · have H := Lib.hid h; clear h
    have b0 : (d == 0) = true := beq_iff_eq.2 h0
    clear h0
    go_enter Try.func91, Try.ntmps91
    go_wp2
    exact bodyPost_ret (v := itVal it0) (by simp [results, Try.results91, go_sem]; exact ⟨rfl, rfl, rfl⟩) rfl ⟨by rw [H.out], (Below.refl _ _).alloc (Nat.le_refl _) _⟩
  iterate 4
    · have H := Lib.hid h; clear h
      have b0 : (d == 0) = false := beq_eq_false_iff_ne.2 h0
      go_enter Try.func91, Try.ntmps91
      go_wp2
      exact bodyPost_ret (v := itVal it0) (by simp [results, Try.results91, go_sem]; exact ⟨rfl, rfl, rfl⟩) rfl ⟨by rw [H.out], (Below.refl _ _).alloc (Nat.le_refl _) _⟩
  have H := Lib.hid h; clear h
  have b0 : (d == 0) = false := beq_eq_false_iff_ne.2 h0
  obtain ⟨hg, hgn, hgd⟩ := gcd_pos (n := n) h0
  rcases (show d < 0 ∨ 0 < d from by omega) with hd | hd
  · have e1 := Lib.hid (show Int.gcd (-n) (-d) = Int.gcd n d from by rw [Int.neg_gcd, Int.gcd_neg])
    obtain ⟨P, hP⟩ : ∃ P, wrap64 (-n.tdiv (Int.gcd n d : Int)) = P := ⟨_, rfl⟩
    obtain ⟨Q, hQ⟩ : ∃ Q, wrap64 (-d.tdiv (Int.gcd n d : Int)) = Q := ⟨_, rfl⟩
    have e2 := Lib.hid (red_neg hd h1 h2 h3 h4 hP hQ)
    go_enter Try.func91, Try.ntmps91
    go_wp2_with fail
    refine (implGcd_any _ _ _ (by unfold lim; omega) (by unfold lim; omega)).mono ?_
    rw [e1.out]
    generalize hG : ((Int.gcd n d : Nat) : Int) = G at *
    clear hG
    rintro e w' ⟨rfl, m, rfl⟩
    go_wp2
    go_region
    go_wp2_with fail
    refine (implIsNum_any ⟨P, Q, ByteArray.empty⟩ _).mono ?_
    rintro e w1 ⟨rfl, hb⟩
    obtain ⟨hc, hf⟩ := bcell hb
    have hz : w.heap.size + 1 < w1.heap.size := by have := hb.size; simp at this; omega
    have g0 : w1.cell? ⟨w.heap.size, 0, none⟩ = some (.int .i64 0) := (hc _ _ (by simp <;> omega)).trans (by simp [go_sem])
    have g1 : w1.cell? ⟨w.heap.size, 1, none⟩ = some (.int .i64 0) := (hc _ _ (by simp <;> omega)).trans (by simp [go_sem])
    have g2 : w1.cell? ⟨w.heap.size, 2, none⟩ = some (.string ByteArray.empty) := (hc _ _ (by simp <;> omega)).trans (by simp [go_sem]; rfl)
    have HB := Lib.hid hb
    clear hb hP hQ hgn hgd
    by_cases hn : numB ⟨P, Q, ByteArray.empty⟩ = true
    · have HM := Lib.hid (show mkN n d = ⟨P, Q, ByteArray.empty⟩ from by rw [H.out, e2.out, if_pos hn])
      go_wp2
      refine bodyPost_ret (v := itVal ⟨P, Q, ByteArray.empty⟩) (by simp [results, Try.results91, go_sem, g0, g1, g2, hz]; rfl) rfl ⟨by rw [HM.out], ?_⟩
      repeat (refine Below.setCell ?_ (by simp <;> omega) _)
      exact ((below_drewN ((Below.refl _ _).alloc (Nat.le_refl _) _) _).alloc (by simp) _).trans (HB.out.mono (by simp; omega))
    · have hn : numB ⟨P, Q, ByteArray.empty⟩ = false := by simpa using hn
      have HM := Lib.hid (show mkN n d = it0 from by rw [H.out, e2.out, if_neg (by simp [hn])])
      go_wp2
      refine bodyPost_ret (v := itVal it0) (by simp [results, Try.results91, go_sem, g0, g1, g2, hz]; exact ⟨rfl, rfl, rfl⟩) rfl ⟨by rw [HM.out], ?_⟩
      repeat (refine Below.setCell ?_ (by simp <;> omega) _)
      exact ((below_drewN ((Below.refl _ _).alloc (Nat.le_refl _) _) _).alloc (by simp) _).trans (HB.out.mono (by simp; omega))
  · obtain ⟨P, hP⟩ : ∃ P, n.tdiv (Int.gcd n d : Int) = P := ⟨_, rfl⟩
    obtain ⟨Q, hQ⟩ : ∃ Q, d / (Int.gcd n d : Int) = Q := ⟨_, rfl⟩
    have e2 := Lib.hid (red_pos hd hP hQ)
    have hPb := tdiv_bd h1 h2 hg
    rw [hP] at hPb
    go_enter Try.func91, Try.ntmps91
    go_wp2_with fail
    refine (implGcd_any _ _ _ (by unfold lim; omega) (by unfold lim; omega)).mono ?_
    generalize hG : ((Int.gcd n d : Nat) : Int) = G at *
    clear hG
    rintro e w' ⟨rfl, m, rfl⟩
    go_wp2
    go_region
    go_wp2_with fail
    refine (implIsNum_any ⟨P, Q, ByteArray.empty⟩ _).mono ?_
    rintro e w1 ⟨rfl, hb⟩
    obtain ⟨hc, hf⟩ := bcell hb
    have hz : w.heap.size + 1 < w1.heap.size := by have := hb.size; simp at this; omega
    have g0 : w1.cell? ⟨w.heap.size, 0, none⟩ = some (.int .i64 0) := (hc _ _ (by simp <;> omega)).trans (by simp [go_sem])
    have g1 : w1.cell? ⟨w.heap.size, 1, none⟩ = some (.int .i64 0) := (hc _ _ (by simp <;> omega)).trans (by simp [go_sem])
    have g2 : w1.cell? ⟨w.heap.size, 2, none⟩ = some (.string ByteArray.empty) := (hc _ _ (by simp <;> omega)).trans (by simp [go_sem]; rfl)
    have HB := Lib.hid hb
    clear hb hP hQ hgn hgd
    by_cases hn : numB ⟨P, Q, ByteArray.empty⟩ = true
    · have HM := Lib.hid (show mkN n d = ⟨P, Q, ByteArray.empty⟩ from by rw [H.out, e2.out, if_pos hn])
      go_wp2
      refine bodyPost_ret (v := itVal ⟨P, Q, ByteArray.empty⟩) (by simp [results, Try.results91, go_sem, g0, g1, g2, hz]; rfl) rfl ⟨by rw [HM.out], ?_⟩
      repeat (refine Below.setCell ?_ (by simp <;> omega) _)
      exact ((below_drewN ((Below.refl _ _).alloc (Nat.le_refl _) _) _).alloc (by simp) _).trans (HB.out.mono (by simp; omega))
    · have hn : numB ⟨P, Q, ByteArray.empty⟩ = false := by simpa using hn
      have HM := Lib.hid (show mkN n d = it0 from by rw [H.out, e2.out, if_neg (by simp [hn])])
      go_wp2
      refine bodyPost_ret (v := itVal it0) (by simp [results, Try.results91, go_sem, g0, g1, g2, hz]; exact ⟨rfl, rfl, rfl⟩) rfl ⟨by rw [HM.out], ?_⟩
      repeat (refine Below.setCell ?_ (by simp <;> omega) _)
      exact ((below_drewN ((Below.refl _ _).alloc (Nat.le_refl _) _) _).alloc (by simp) _).trans (HB.out.mono (by simp; omega))

theorem gcd_le {n d : Int} (h0 : d ≠ 0) (h3 : -4000000000000000000 ≤ d) (h4 : d ≤ 4000000000000000000) : (Int.gcd n d : Int) ≤ 4000000000000000000 := by
  have h := Nat.le_of_dvd (by omega : 0 < d.natAbs) (Int.natAbs_dvd_natAbs.2 (Int.gcd_dvd_right (a := n) (b := d)))
  simp at h
  omega

set_option maxHeartbeats 1000000 in
theorem specMake_any (n d : Int) (w : World) :
    Calls Try.prog 90 #[.int .i64 n, .int .i64 d] w (RetIt (mkN n d) w) := by
  rcases make_ways n d with ⟨h, h0⟩ | ⟨h, h0, h1⟩ | ⟨h, h0, h1, h2⟩ | ⟨h, h0, h1, h2, h3⟩ | ⟨h, h0, h1, h2, h3, h4⟩ | ⟨h, h0, h1, h2, h3, h4⟩
  · have H := Lib.hid h; clear h
    have b0 : (d == 0) = true := beq_iff_eq.2 h0
    clear h0
    go_enter Try.func90, Try.ntmps90
    go_wp2_with fail
    exact bodyPost_ret (v := itVal it0) (by simp [results, Try.results90, go_sem]; exact ⟨rfl, rfl, rfl⟩) rfl ⟨by rw [H.out], (Below.refl _ _).alloc (Nat.le_refl _) _⟩
  iterate 2
    · have H := Lib.hid h; clear h
      have b0 : (d == 0) = false := beq_eq_false_iff_ne.2 h0
      go_enter Try.func90, Try.ntmps90
      go_wp2_with (go_at_call 63; refine (in_b _ _ _ false _ (by simp; omega)).mono ?_; rintro e w' ⟨rfl, rfl⟩)
      exact bodyPost_ret (v := itVal it0) (by simp [results, Try.results90, go_sem]; exact ⟨rfl, rfl, rfl⟩) rfl ⟨by rw [H.out], (Below.refl _ _).alloc (Nat.le_refl _) _⟩
  iterate 2
    · have H := Lib.hid h; clear h
      have b0 : (d == 0) = false := beq_eq_false_iff_ne.2 h0
      go_enter Try.func90, Try.ntmps90
      go_wp2_with fail
      refine (in_b _ _ _ true _ (by simp; omega)).mono ?_
      rintro e w' ⟨rfl, rfl⟩
      go_wp2_with fail
      refine (in_b _ _ _ false _ (by simp; omega)).mono ?_
      rintro e w' ⟨rfl, rfl⟩
      go_wp2
      exact bodyPost_ret (v := itVal it0) (by simp [results, Try.results90, go_sem]; exact ⟨rfl, rfl, rfl⟩) rfl ⟨by rw [H.out], (Below.refl _ _).alloc (Nat.le_refl _) _⟩
  have H := Lib.hid h; clear h
  have b0 : (d == 0) = false := beq_eq_false_iff_ne.2 h0
  obtain ⟨hg, hgn, hgd⟩ := gcd_pos (n := n) h0
  have N := Lib.hid (numB_redN (n := n) h0)
  have hgl := gcd_le (n := n) h0 h3 h4
  rcases (show d < 0 ∨ 0 < d from by omega) with hd | hd
  · obtain ⟨P, hP⟩ : ∃ P, wrap64 (-n.tdiv (Int.gcd n d : Int)) = P := ⟨_, rfl⟩
    obtain ⟨Q, hQ⟩ : ∃ Q, wrap64 (-d.tdiv (Int.gcd n d : Int)) = Q := ⟨_, rfl⟩
    have e2 := Lib.hid (red_neg hd h1 h2 h3 h4 hP hQ)
    go_enter Try.func90, Try.ntmps90
    go_wp2_with (go_at_call 63; refine (in_b _ _ _ true _ (by simp; omega)).mono ?_; rintro e w' ⟨rfl, rfl⟩)
    refine (specGcd_any _ _ _ (by unfold lim; omega) (by unfold lim; omega)).mono ?_
    generalize hG : ((Int.gcd n d : Nat) : Int) = G at *
    clear hG
    rintro e w' ⟨rfl, m, rfl⟩
    go_wp2
    go_region
    go_wp2_with fail
    by_cases c1 : -999999999 ≤ P ∧ P ≤ 999999999
    · refine (in_b _ _ _ true _ (by simp; omega)).mono ?_
      rintro e w' ⟨rfl, rfl⟩
      by_cases c2 : 999999999 < Q
      · have HM := Lib.hid (show mkN n d = it0 from by rw [H.out, if_neg (by rw [N.out, e2.out]; simp; omega)])
        clear hP hQ hgn hgd
        go_wp2
        refine bodyPost_ret (v := itVal it0) (by simp [results, Try.results90, go_sem]; exact ⟨rfl, rfl, rfl⟩) rfl ⟨by rw [HM.out], ?_⟩
        repeat (first | exact Below.refl _ _ | refine Below.setCell ?_ (by simp <;> omega) _ | refine Below.alloc ?_ (by simp <;> omega) _ | refine below_drewN ?_ _ | refine Below.drew ?_)
      · have HM := Lib.hid (show mkN n d = ⟨P, Q, ByteArray.empty⟩ from by rw [H.out, if_pos (by rw [N.out, e2.out]; simp; omega), e2.out])
        clear hP hQ hgn hgd
        go_wp2
        refine bodyPost_ret (v := itVal ⟨P, Q, ByteArray.empty⟩) (by simp [results, Try.results90, go_sem]; rfl) rfl ⟨by rw [HM.out], ?_⟩
        repeat (first | exact Below.refl _ _ | refine Below.setCell ?_ (by simp <;> omega) _ | refine Below.alloc ?_ (by simp <;> omega) _ | refine below_drewN ?_ _ | refine Below.drew ?_)
    · refine (in_b _ _ _ false _ (by simp; omega)).mono ?_
      rintro e w' ⟨rfl, rfl⟩
      have HM := Lib.hid (show mkN n d = it0 from by rw [H.out, if_neg (by rw [N.out, e2.out]; simp; omega)])
      clear hP hQ hgn hgd
      go_wp2
      refine bodyPost_ret (v := itVal it0) (by simp [results, Try.results90, go_sem]; exact ⟨rfl, rfl, rfl⟩) rfl ⟨by rw [HM.out], ?_⟩
      repeat (first | exact Below.refl _ _ | refine Below.setCell ?_ (by simp <;> omega) _ | refine Below.alloc ?_ (by simp <;> omega) _ | refine below_drewN ?_ _ | refine Below.drew ?_)
  · obtain ⟨P, hP⟩ : ∃ P, n.tdiv (Int.gcd n d : Int) = P := ⟨_, rfl⟩
    obtain ⟨Q, hQ⟩ : ∃ Q, d / (Int.gcd n d : Int) = Q := ⟨_, rfl⟩
    have e2 := Lib.hid (red_pos hd hP hQ)
    have hPb := tdiv_bd h1 h2 hg
    rw [hP] at hPb
    go_enter Try.func90, Try.ntmps90
    go_wp2_with (go_at_call 63; refine (in_b _ _ _ true _ (by simp; omega)).mono ?_; rintro e w' ⟨rfl, rfl⟩)
    refine (specGcd_any _ _ _ (by unfold lim; omega) (by unfold lim; omega)).mono ?_
    generalize hG : ((Int.gcd n d : Nat) : Int) = G at *
    clear hG
    rintro e w' ⟨rfl, m, rfl⟩
    go_wp2
    go_region
    go_wp2_with fail
    by_cases c1 : -999999999 ≤ P ∧ P ≤ 999999999
    · refine (in_b _ _ _ true _ (by simp; omega)).mono ?_
      rintro e w' ⟨rfl, rfl⟩
      by_cases c2 : 999999999 < Q
      · have HM := Lib.hid (show mkN n d = it0 from by rw [H.out, if_neg (by rw [N.out, e2.out]; simp; omega)])
        clear hP hQ hgn hgd
        go_wp2
        refine bodyPost_ret (v := itVal it0) (by simp [results, Try.results90, go_sem]; exact ⟨rfl, rfl, rfl⟩) rfl ⟨by rw [HM.out], ?_⟩
        repeat (first | exact Below.refl _ _ | refine Below.setCell ?_ (by simp <;> omega) _ | refine Below.alloc ?_ (by simp <;> omega) _ | refine below_drewN ?_ _ | refine Below.drew ?_)
      · have HM := Lib.hid (show mkN n d = ⟨P, Q, ByteArray.empty⟩ from by rw [H.out, if_pos (by rw [N.out, e2.out]; simp; omega), e2.out])
        clear hP hQ hgn hgd
        go_wp2
        refine bodyPost_ret (v := itVal ⟨P, Q, ByteArray.empty⟩) (by simp [results, Try.results90, go_sem]; rfl) rfl ⟨by rw [HM.out], ?_⟩
        repeat (first | exact Below.refl _ _ | refine Below.setCell ?_ (by simp <;> omega) _ | refine Below.alloc ?_ (by simp <;> omega) _ | refine below_drewN ?_ _ | refine Below.drew ?_)
    · refine (in_b _ _ _ false _ (by simp; omega)).mono ?_
      rintro e w' ⟨rfl, rfl⟩
      have HM := Lib.hid (show mkN n d = it0 from by rw [H.out, if_neg (by rw [N.out, e2.out]; simp; omega)])
      clear hP hQ hgn hgd
      go_wp2
      refine bodyPost_ret (v := itVal it0) (by simp [results, Try.results90, go_sem]; exact ⟨rfl, rfl, rfl⟩) rfl ⟨by rw [HM.out], ?_⟩
      repeat (first | exact Below.refl _ _ | refine Below.setCell ?_ (by simp <;> omega) _ | refine Below.alloc ?_ (by simp <;> omega) _ | refine below_drewN ?_ _ | refine Below.drew ?_)
end Go.Proofs.Ytlcnokbhoekpkaa
