/- The law FnExactDropTerm. -/
import Derived.Test.YtgmpajfhjnojiaaULDropTerm
import Derived.Test.YtgmpajfhjnojiaaDrop4
import Derived.Test.YtgmpajfhjnojiaaFmlM
namespace Go.Proofs.Ytgmpajfhjnojiaa
open Go.RowKit
set_option linter.unusedVariables false
set_option linter.unusedSimpArgs false
set_option maxRecDepth 100000

theorem okFml_of {x : Fml} (h : wtFml x ≤ 1048576) (ok : OkFml x) : FmlOk x := by
  obtain ⟨a, b, c, d⟩ := x
  obtain ⟨k1, k2, k3, k4⟩ := ok
  simp only [wtFml] at h
  simp only at k4
  refine ⟨?_, ?_, fun x hx => ?_, ?_, fun n hn => ?_⟩
  · simp only; omega
  · have := wtSs_len (n := 1048576) (l := c) (by omega); simp only; omega
  · have := wtSs_size (n := 1048576) (l := c) (by omega) x hx; omega
  · simp only; omega
  · have := k4.2 n hn; unfold In64 at this; omega
set_option maxHeartbeats 8000000 in
theorem lawDropTerm_m (a0 : Fml) (ok0 : OkFml a0) (a1 : Int) :
    Meets Try.prog 3 [(true, encFml a0), (false, [.sc (.int .i64 a1)])] [(false, [.sc (.bool true)], true)] := by
  have hz0 := szFml_m a0 ((1048576 : Int)) ok0 (by omega) (by omega)
  by_cases hc0 : ((wtFml a0 : Nat) : Int) ≤ (1048576 : Int)
  rotate_left
  · rw [szF_gt (by omega)] at hz0
    refine meets_upf Try.func3 u_laws_FnExactDropTerm_g rfl ?_; simp only [u_laws_FnExactDropTerm_u]
    simp only [encFml, encSs, encZs] at hz0 ⊢
    repeat' (first | (with_reducible refine jn_in ?_) | (with_reducible refine cl_ok (by assumption) rfl ?_) | (with_reducible refine cl_okP (by assumption) rfl ?_) | (with_reducible refine br_if (fun hbr => ?_) (fun hbr => ?_)) | (with_reducible refine br_ifn (fun hbr => ?_) (fun hbr => ?_)) | (with_reducible refine br_nb (fun hbr => ?_) (fun hbr => ?_)) | (with_reducible refine br_b (fun hbr => ?_) (fun hbr => ?_)) | simp (disch := first | omega | (simp only [List.length_take, List.length_drop, List.length_append, List.map_cons, List.map_nil, List.length_map, List.length_cons, List.length_nil, List.length_set, List.length_replicate]; omega) | (simp only [List.length_cons, List.length_nil, Nat.zero_add, Nat.reduceAdd])) only [go_sem, ↓reduceIte, Nat.reduceAdd, Int.reduceNeg, Int.reduceAdd, Int.reduceSub, Int.reduceMul, Int.reduceLT, Int.reduceLE, Int.reduceEq, Int.reduceToNat, Nat.reduceBEq, eq_self])
    all_goals first | rfl | omega
  rw [szF_le hc0] at hz0
  have hd0 : decide ((1048576 : Int) - ((wtFml a0 : Nat) : Int) < 0) = false := decide_eq_false (by omega)
  have wa0 : wtFml a0 ≤ 1048576 := by omega
  have ht0 := toFml_m a0 (by omega)
  have hq0 := eqFml_m a0 (by omega)
  have h1 := specDrop_m a0 (okFml_of wa0 ok0) a1
  have h2 := implDrop_m a0 (okFml_of wa0 ok0) a1
  have hbd := dropF_wt a0 a1
  generalize dropF a0 a1 = R at *
  obtain ⟨R, rb⟩ := R
  simp only at h1 h2 hbd
  have hr0 := eqFml_m R (by omega)
  obtain ⟨r, b, V, T⟩ := a0
  obtain ⟨r', b', V', T'⟩ := R
  simp only at hbd
  have hV := wtSs_len (n := 1048576) (l := V) (by unfold wtFml at wa0; simp only at wa0; omega)
  have hT : T.length ≤ 1048576 := by unfold wtFml at wa0; simp only at wa0; omega
  have hmx0 : Marks Try.prog 11 true [.sc (.string r), .sc (.bool b), encSs V, encZs T] 1 [.sc (.string r), .sc (.bool b), encSs (marksS 1 V.length), encZs (marksZ (1 + V.length) T.length)] ((1 + V.length + T.length : Nat) : Int) := markFml_k r b V T 1 (by omega) (by omega)
  have hkx : decide (((1 + V.length + T.length : Nat) : Int) < 0) = false := decide_eq_false (by omega)
  have hmg0 : Marks Try.prog 11 true [.sc (.string r'), .sc (.bool b'), encSs V', encZs T'] 1 [.sc (.string r'), .sc (.bool b'), encSs (marksS 1 V'.length), encZs (marksZ (1 + V'.length) T'.length)] ((1 + V'.length + T'.length : Nat) : Int) := markFml_k r' b' V' T' 1 (by omega) (by omega)
  have hhg0 : Meets Try.prog 12 [(true, [.sc (.string r'), .sc (.bool b'), encSs (marksS 1 V'.length), encZs (marksZ (1 + V'.length) T'.length)]), (false, [.sc (.int .i64 1)])] [(false, [.sc (.int .i64 ((1 + V'.length + T'.length : Nat) : Int))], true)] := heldFml_m r' b' V'.length T'.length 1 (by omega) (by omega)
  have hkg0 : decide (((1 + V'.length + T'.length : Nat) : Int) < 0) = false := decide_eq_false (by omega)
  refine meets_upf Try.func3 u_laws_FnExactDropTerm_g rfl ?_; simp only [u_laws_FnExactDropTerm_u]
  simp only [encFml, encSs, encZs] at hz0 ht0 hq0 h1 h2 hr0 hmx0 hmg0 hhg0 ⊢
  repeat' (first | (with_reducible refine cl_ok (by assumption) rfl ?_) | (with_reducible refine cl_okP (by assumption) rfl ?_) | (refine mk_ok (by assumption) ?_ ?_; (· first | exact ⟨⟨_, rfl, rfl⟩, ⟨_, rfl, rfl⟩, trivial⟩ | exact ⟨⟨_, rfl, rfl⟩, ⟨_, rfl, rfl⟩, ⟨_, rfl, rfl⟩, trivial⟩ | exact trivial | exact ⟨⟨_, rfl, rfl⟩, trivial⟩)) | simp (disch := first | omega | (simp only [List.length_take, List.length_drop, List.length_append, List.map_cons, List.map_nil, List.length_map, List.length_cons, List.length_nil, List.length_set, List.length_replicate]; omega) | (simp only [List.length_cons, List.length_nil, Nat.zero_add, Nat.reduceAdd])) only [go_sem, ↓reduceIte, Nat.reduceAdd, Int.reduceNeg, Int.reduceAdd, Int.reduceSub, Int.reduceMul, Int.reduceLT, Int.reduceLE, Int.reduceEq, Int.reduceToNat, Nat.reduceBEq, hd0, hkx, hkg0, eq_self])
  all_goals first | rfl | omega
end Go.Proofs.Ytgmpajfhjnojiaa
