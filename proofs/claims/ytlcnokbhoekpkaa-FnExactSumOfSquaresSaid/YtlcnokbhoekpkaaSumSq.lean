/- impl.SumOfSquares, spec.SumOfSquares. -/
import Derived.Test.YtlcnokbhoekpkaaNum4
import Derived.Test.YtlcnokbhoekpkaaRegion
namespace Go.Proofs.Ytlcnokbhoekpkaa
open Go.RowKit
set_option linter.unusedVariables false
set_option linter.unusedSimpArgs false

def sqSum (l : List It) : It := l.foldl (fun s x => addN s (mulN x x)) (l2N 0)
theorem sqSum_take {l : List It} {k : Nat} {x : It} (h : l[k]? = some x) : (l.take (k + 1)).foldl (fun s x => addN s (mulN x x)) (l2N 0) = addN ((l.take k).foldl (fun s x => addN s (mulN x x)) (l2N 0)) (mulN x x) := by
  obtain ⟨hk, rfl⟩ := List.getElem?_eq_some_iff.1 h
  rw [List.take_succ_eq_append_getElem hk, List.foldl_append]; rfl

abbrev itArr (x : It) : Array Value := #[.int .i64 x.num, .int .i64 x.den, .string x.text]

def SqRel (w : World) (l : List It) (n g : Nat) (v : Value) (wr : World) : Prop :=
  ∃ (k : Nat) (x : It), k ≤ n ∧ v = .int .i64 k ∧ x = (l.take k).foldl (fun s x => addN s (mulN x x)) (l2N 0) ∧ Blk wr g 25 (itArr x) ∧ Blk wr w.heap.size 25 (itArr it0) ∧ Below w.heap.size w wr

theorem cells3 {w : World} {g : Nat} {t : TypeId} {x : It} (h : Blk w g t (itArr x)) : w.cell? ⟨g, 0, none⟩ = some (.int .i64 x.num) ∧ w.cell? ⟨g, 1, none⟩ = some (.int .i64 x.den) ∧ w.cell? ⟨g, 2, none⟩ = some (.string x.text) :=
  ⟨h.cell 0, h.cell 1, h.cell 2⟩

set_option maxHeartbeats 4000000 in
theorem implSumSq_any (A : Option Addr) (n c : Nat) (f : List Nat) (l : List It) (w : World) (ha : SlR Lay.item w f l A n c) :
    Calls Try.prog 18 #[.slice A n c] w (RetIt (sqSum l) w) := by
  have hm := ha.le
  have hl := Lib.hid ha.1
  have HA := Lib.hid ha
  clear ha
  go_enter Try.func18, Try.ntmps18
  go_wp2_with fail
  refine (intItem_any 0 _).mono ?_
  rw [intN_eq (by omega)]
  rintro e w1 ⟨rfl, hb1⟩
  have hB0 := (Blk.new w 25 (itArr it0)).keep hb1
  have hb : Below w.heap.size w w1 := Below.trans ((Below.refl _ _).alloc (Nat.le_refl _) _) (hb1.mono (by simp))
  clear hb1
  have hz := hB0.lt
  go_wp2
  go_loopw [5, 9] (fun _ v wr => SqRel w l n w1.heap.size v wr) (fun _ i _ => n - (intOf i).toNat)
  case atStart => exact ⟨0, l2N 0, Nat.zero_le _, rfl, rfl, Blk.new _ _ _, hB0.alloc _, hb.alloc hb.size _⟩
  case round =>
    clear hb hB0
    obtain ⟨k, x, hk, rfl, hx, hB1, hB0, hb⟩ := hrel
    have HX := Lib.hid hx; clear hx
    by_cases hlt : k < n
    · obtain ⟨b, off, y, rfl, hy, hok, hbf, c0, c1, c2⟩ := (HA.out.keep (same_below hb HA.out.lt)).itAt hlt
      have HY := Lib.hid hy; clear hy
      have hbl : b < wr.heap.size := by have := HA.out.lt b hbf; have := hb.size; omega
      have p0 := hB1.cell 0; have p1 := hB1.cell 1; have p2 := hB1.cell 2
      have q0 := hB1.frozen 0; have q1 := hB1.frozen 1; have q2 := hB1.frozen 2
      simp at p0 p1 p2
      have hgl := hB1.lt
      have HB1 := Lib.hid hB1; have HB0 := Lib.hid hB0; have HB := Lib.hid hb
      clear hB1 hB0 hb
      have hK1 := HB1.out.alloc (.cells (itArr y) 25)
      have hK2 := Blk.new wr 25 (itArr y)
      go_wp2_with fail
      refine wp_region_fixn 5 (fun w' => Blk w' w1.heap.size 25 (itArr x) ∧ Blk w' wr.heap.size 25 (itArr y) ∧ Blk w' w.heap.size 25 (itArr it0) ∧ Below w.heap.size w w')
        [itVal x, itVal y, itVal y, itVal (mulN y y), itVal (addN x (mulN y y))] (by kernel_rfl) (by kernel_rfl) ⟨hK1, hK2, HB0.out.alloc _, (HB.out.alloc HB.out.size _).drew⟩ ?_ ?_
      · intro aF haF; simp only [List.take_succ_cons, List.take_zero, putsOps, Act.put, List.setIfInBounds_toArray, List.set_cons_succ, List.set_cons_zero] at haF; subst haF
        simp only [List.take_succ_cons, List.take_zero, FixOps]
        refine ⟨?_, ?_, ?_, ?_, ?_, trivial⟩
        · rintro w' ⟨s1, s2, s3, s4⟩
          obtain ⟨r0, r1, r2⟩ := cells3 s1
          go_wp2
          exact ⟨rfl, rfl, s1, s2, s3, s4⟩
        iterate 2
          · rintro w' ⟨s1, s2, s3, s4⟩
            obtain ⟨r0, r1, r2⟩ := cells3 s2
            go_wp2
            exact ⟨rfl, rfl, s1, s2, s3, s4⟩
        · rintro w' ⟨s1, s2, s3, s4⟩
          go_wp2_with fail
          refine (implMul_any y y _).mono ?_
          rintro e w2 ⟨rfl, hb⟩
          go_wp2
          exact ⟨rfl, rfl, s1.keep hb, s2.keep hb, s3.keep hb, s4.trans (hb.mono s4.size)⟩
        · rintro w' ⟨s1, s2, s3, s4⟩
          go_wp2_with fail
          refine (implAdd_any x (mulN y y) _).mono ?_
          rintro e w2 ⟨rfl, hb⟩
          go_wp2
          exact ⟨rfl, rfl, s1.keep hb, s2.keep hb, s3.keep hb, s4.trans (hb.mono s4.size)⟩
      · intro aF haF; simp only [List.take_succ_cons, List.take_zero, putsOps, Act.put, List.setIfInBounds_toArray, List.set_cons_succ, List.set_cons_zero] at haF; subst haF; simp only [List.drop_succ_cons, List.drop_zero]
        rintro w' ⟨s1, s2, s3, s4⟩
        obtain ⟨r0, r1, r2⟩ := cells3 s1
        have y0 := s1.frozen 0; have y1 := s1.frozen 1; have y2 := s1.frozen 2
        have R : SqRel w l n w1.heap.size (.int .i64 ((k : Int) + 1)) (((w'.setCell ⟨w1.heap.size, 0, none⟩ (.int .i64 (addN x (mulN y y)).num)).setCell ⟨w1.heap.size, 1, none⟩ (.int .i64 (addN x (mulN y y)).den)).setCell ⟨w1.heap.size, 2, none⟩ (.string (addN x (mulN y y)).text)) := by
          refine ⟨k + 1, _, by omega, rfl, by rw [sqSum_take HY.out, ← HX.out], (((s1.set_ 0 _).set_ 1 _).set_ 2 _), (((s3.far (by simp; omega) _).far (by simp; omega) _).far (by simp; omega) _), ?_⟩
          repeat (refine Below.setCell ?_ (by simp <;> omega) _)
          exact s4
        clear s1 s2 s3 s4
        go_wp2
        go_roundw
        case rel => exact R
        case measure => simp [intOf]; omega
    · have p0 := hB1.cell 0; have p1 := hB1.cell 1; have p2 := hB1.cell 2
      have q0 := hB0.cell 0; have q1 := hB0.cell 1; have q2 := hB0.cell 2
      have r0 := hB0.frozen 0; have r1 := hB0.frozen 1; have r2 := hB0.frozen 2
      simp at p0 p1 p2 q0 q1 q2
      clear hB1 hB0
      go_wp2
      refine bodyPost_ret (v := itVal x) (by simp [results, Try.results18, go_sem, q0, q1, q2]) rfl ⟨?_, ?_⟩
      · rw [HX.out, List.take_of_length_le (by rw [hl.out]; omega)]; rfl
      · repeat (refine Below.setCell ?_ (by simp <;> omega) _)
        exact hb

set_option maxHeartbeats 1000000 in
theorem specSumSq_any (A : Option Addr) (n c : Nat) (f : List Nat) (l : List It) (w : World) (ha : SlR Lay.item w f l A n c) :
    Calls Try.prog 16 #[.slice A n c] w (RetIt (sqSum l) w) := by
  have hm := ha.le
  have hl := Lib.hid ha.1
  have HA := Lib.hid ha
  clear ha
  go_enter Try.func16, Try.ntmps16
  go_wp2_with fail
  refine (l2Num_any 0 _).mono ?_
  rintro e w1 ⟨rfl, hb1⟩
  have hB0 := (Blk.new w 25 (itArr it0)).keep hb1
  have hb : Below w.heap.size w w1 := Below.trans ((Below.refl _ _).alloc (Nat.le_refl _) _) (hb1.mono (by simp))
  clear hb1
  have hz := hB0.lt
  go_wp2
  go_loopw [4] (fun v wr => SqRel w l n w1.heap.size v wr) (fun i _ => n - (intOf i).toNat)
  case atStart => exact ⟨0, l2N 0, Nat.zero_le _, rfl, rfl, Blk.new _ _ _, hB0.alloc _, hb.alloc hb.size _⟩
  case round =>
    clear hb hB0
    obtain ⟨k, x, hk, rfl, hx, hB1, hB0, hb⟩ := hrel
    have HX := Lib.hid hx; clear hx
    by_cases hlt : k < n
    · obtain ⟨b, off, y, rfl, hy, hok, hbf, -, -, -⟩ := HA.out.itAt hlt
      have HY := Lib.hid hy; clear hy
      have HB1 := Lib.hid hB1; have HB0 := Lib.hid hB0; have HB := Lib.hid hb
      clear hB1 hB0 hb
      go_wp2_with fail
      refine wp_region_fixn 11 (fun w' => Blk w' w1.heap.size 25 (itArr x) ∧ Blk w' w.heap.size 25 (itArr it0) ∧ Below w.heap.size w w')
        [itVal x, .slice (some ⟨b, off, none⟩) n c, .int .i64 k, .pointer (some ⟨b, off + k * 3, none⟩), itVal y, .slice (some ⟨b, off, none⟩) n c, .int .i64 k, .pointer (some ⟨b, off + k * 3, none⟩), itVal y, itVal (mulN y y), itVal (addN x (mulN y y))] (by kernel_rfl) (by kernel_rfl) ⟨HB1.out, HB0.out, HB.out.drew⟩ ?_ ?_
      · intro aF haF; simp only [List.take_succ_cons, List.take_zero, putsOps, Act.put, List.setIfInBounds_toArray, List.set_cons_succ, List.set_cons_zero] at haF; subst haF; simp only [List.take_succ_cons, List.take_zero, FixOps]; repeat' (first | exact trivial | apply And.intro)
        all_goals
          rintro w' ⟨s1, s3, s4⟩
          obtain ⟨r0, r1, r2⟩ := cells3 s1
          obtain ⟨b', off', y', hbb, hy', -, -, c0, c1, c2⟩ := (HA.out.keep (same_below s4 HA.out.lt)).itAt hlt
          obtain rfl : y = y' := by have := HY.out; rw [hy'] at this; exact (Option.some.inj this).symm
          injection hbb with hbb; injection hbb with e1 e2; subst e1 e2
          clear hy'
          go_wp2_with (first
            | (go_at_call 58; refine (specMul_any y y _).mono ?_; rintro e w2 ⟨rfl, hb⟩)
            | (go_at_call 57; refine (specAdd_any x (mulN y y) _).mono ?_; rintro e w2 ⟨rfl, hb⟩))
          first
            | exact ⟨rfl, rfl, s1.keep hb, s3.keep hb, s4.trans (hb.mono s4.size)⟩
            | exact ⟨rfl, rfl, s1, s3, s4⟩
      · intro aF haF; simp only [List.take_succ_cons, List.take_zero, putsOps, Act.put, List.setIfInBounds_toArray, List.set_cons_succ, List.set_cons_zero] at haF; subst haF; simp only [List.drop_succ_cons, List.drop_zero]
        rintro w' ⟨s1, s3, s4⟩
        obtain ⟨r0, r1, r2⟩ := cells3 s1
        have y0 := s1.frozen 0; have y1 := s1.frozen 1; have y2 := s1.frozen 2
        have R : SqRel w l n w1.heap.size (.int .i64 ((k : Int) + 1)) (((w'.setCell ⟨w1.heap.size, 0, none⟩ (.int .i64 (addN x (mulN y y)).num)).setCell ⟨w1.heap.size, 1, none⟩ (.int .i64 (addN x (mulN y y)).den)).setCell ⟨w1.heap.size, 2, none⟩ (.string (addN x (mulN y y)).text)) := by
          refine ⟨k + 1, _, by omega, rfl, by rw [sqSum_take HY.out, ← HX.out], (((s1.set_ 0 _).set_ 1 _).set_ 2 _), (((s3.far (by simp; omega) _).far (by simp; omega) _).far (by simp; omega) _), ?_⟩
          repeat (refine Below.setCell ?_ (by simp <;> omega) _)
          exact s4
        clear s1 s3 s4
        go_wp2
        go_roundw
        case rel => exact R
        case measure => simp [intOf]; omega
    · have p0 := hB1.cell 0; have p1 := hB1.cell 1; have p2 := hB1.cell 2
      have q0 := hB0.cell 0; have q1 := hB0.cell 1; have q2 := hB0.cell 2
      have r0 := hB0.frozen 0; have r1 := hB0.frozen 1; have r2 := hB0.frozen 2
      simp at p0 p1 p2 q0 q1 q2
      clear hB1 hB0
      go_wp2
      refine bodyPost_ret (v := itVal x) (by simp [results, Try.results16, go_sem, q0, q1, q2]) rfl ⟨?_, ?_⟩
      · rw [HX.out, List.take_of_length_le (by rw [hl.out]; omega)]; rfl
      · repeat (refine Below.setCell ?_ (by simp <;> omega) _)
        exact hb
end Go.Proofs.Ytlcnokbhoekpkaa
