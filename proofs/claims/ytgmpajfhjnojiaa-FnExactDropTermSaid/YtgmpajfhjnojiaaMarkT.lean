/- laws.markText; owned rows of scalars. -/
import Derived.Test.YtgmpajfhjnojiaaUMarkT
import Derived.Test.YtgmpajfhjnojiaaTypB
import Derived.Test.YtgmpajfhjnojiaaFInt
import Derived.Test.YtgmpajfhjnojiaaGB
namespace Go.Proofs.Ytgmpajfhjnojiaa
open Go.RowKit
set_option linter.unusedVariables false
set_option linter.unusedSimpArgs false
set_option maxRecDepth 100000

def markT (k : Nat) : ByteArray := ofN (109 :: dgs k)
theorem markText_m (k : Nat) (h0 : 0 < k) (h1 : k ≤ 4611686018427387904) : Meets Try.prog 46 [(false, [.sc (.int .i64 k)])] [(false, [.sc (.string (markT k))], true)] := by
  have hlen := dgs_len19 (m := k) (by omega)
  refine meets_upf Try.func46 u_laws_markText_g rfl ?_; simp only [u_laws_markText_u]
  simp (disch := first | omega | (simp only [List.length_take, List.length_drop, List.length_append, List.map_cons, List.map_nil, List.length_map, List.length_cons, List.length_nil, List.length_set, List.length_replicate]; omega) | (simp only [List.length_cons, List.length_nil, Nat.zero_add, Nat.reduceAdd])) only [go_sem, ↓reduceIte, Nat.reduceAdd, Int.reduceNeg, Int.reduceAdd, Int.reduceSub, Int.reduceMul, Int.reduceLT, Int.reduceLE, Int.reduceEq, Int.reduceToNat, Nat.reduceBEq, e_sle, e_sge, e_shl1, e_orI, e_andI, e_shr, wrapu, wrap8, tn1, nat1, ix_s, ix_z, st_s, st_z, fl_s, fl_z, fl1_s, fl1_z, map_s, map_z, true_and]
  refine br_if (fun h => absurd h (by omega)) (fun h => ?_)
  simp (disch := first | omega | (simp only [List.length_take, List.length_drop, List.length_append, List.map_cons, List.map_nil, List.length_map, List.length_cons, List.length_nil, List.length_set, List.length_replicate]; omega) | (simp only [List.length_cons, List.length_nil, Nat.zero_add, Nat.reduceAdd])) only [go_sem, ↓reduceIte, Nat.reduceAdd, Int.reduceNeg, Int.reduceAdd, Int.reduceSub, Int.reduceMul, Int.reduceLT, Int.reduceLE, Int.reduceEq, Int.reduceToNat, Nat.reduceBEq, e_sle, e_sge, e_shl1, e_orI, e_andI, e_shr, wrapu, wrap8, tn1, nat1, ix_s, ix_z, st_s, st_z, fl_s, fl_z, fl1_s, fl1_z, map_s, map_z, true_and]
  refine lp (fun s : Nat × List Nat => [.sc (.string (ofN s.2)), .sc (.int .i64 (s.1 : Nat))]) (fun s => s.1 ≤ k ∧ dgs s.1 ++ s.2 = dgs k) (fun s => s.1) (k, []) rfl ⟨Nat.le_refl _, by simp⟩ ?_
  rintro ⟨x, acc⟩ ⟨g1, g2⟩
  simp only at g1 g2 ⊢
  simp only [u_laws_markText_l0]
  have hal : acc.length ≤ 19 := by have := congrArg List.length g2; rw [List.length_append] at this; omega
  by_cases hx : x = 0
  · subst hx
    rw [dgs_zero, List.nil_append] at g2
    have e1 : (⟨#[109]⟩ : ByteArray).size + (ofN acc).size ≤ maxLen := by
      have e : (⟨#[109]⟩ : ByteArray).size = 1 := rfl
      rw [ofN_size]; unfold maxLen; omega
    repeat' (first | (with_reducible refine jn_in ?_) | (with_reducible refine cl_ok (by assumption) rfl ?_) | (with_reducible refine cl_okP (by assumption) rfl ?_) | (with_reducible refine br_if (fun hbr => ?_) (fun hbr => ?_)) | (with_reducible refine br_ifn (fun hbr => ?_) (fun hbr => ?_)) | (with_reducible refine br_nb (fun hbr => ?_) (fun hbr => ?_)) | (with_reducible refine br_b (fun hbr => ?_) (fun hbr => ?_)) | simp (disch := first | omega | (simp only [List.length_take, List.length_drop, List.length_append, List.map_cons, List.map_nil, List.length_map, List.length_cons, List.length_nil, List.length_set, List.length_replicate]; omega) | (simp only [List.length_cons, List.length_nil, Nat.zero_add, Nat.reduceAdd])) only [go_sem, ↓reduceIte, Nat.reduceAdd, Int.reduceNeg, Int.reduceAdd, Int.reduceSub, Int.reduceMul, Int.reduceLT, Int.reduceLE, Int.reduceEq, Int.reduceToNat, Nat.reduceBEq, e_sle, e_sge, e_shl1, e_orI, e_andI, e_shr, wrapu, wrap8, tn1, nat1, ix_s, ix_z, st_s, st_z, fl_s, fl_z, fl1_s, fl1_z, map_s, map_z, e_cat e1])
    refine ret_s ?_
    unfold markT; rw [g2]; exact ofN_app [109] _
  · have hd := dgs_pos hx
    have d1 : (x : Int).tmod 10 = ((x % 10 : Nat) : Int) := rfl
    have d2 : (x : Int).tdiv 10 = ((x / 10 : Nat) : Int) := rfl
    have d3 : (48 : Int) + ((x % 10 : Nat) : Int) = ((48 + x % 10 : Nat) : Int) := rfl
    have d4 : IntKind.u8.wrap ((48 + x % 10 : Nat) : Int) = ((48 + x % 10 : Nat) : Int) := wrap8 (by omega) (by omega)
    have d5 : eCvB (some (.sl 5 1 [[.sc (.int .u8 ((48 + x % 10 : Nat) : Int))]])) = some [.sc (.string (ofN [48 + x % 10]))] := cvB_u (l := [48 + x % 10])
    have e1 : (ofN [48 + x % 10]).size + (ofN acc).size ≤ maxLen := by rw [ofN_size, ofN_size]; unfold maxLen; simp; omega
    have happ : ofN [48 + x % 10] ++ ofN acc = ofN ((48 + x % 10) :: acc) := (ofN_app [48 + x % 10] acc).symm
    repeat' (first | (with_reducible refine jn_in ?_) | (with_reducible refine cl_ok (by assumption) rfl ?_) | (with_reducible refine cl_okP (by assumption) rfl ?_) | (with_reducible refine br_if (fun hbr => ?_) (fun hbr => ?_)) | (with_reducible refine br_ifn (fun hbr => ?_) (fun hbr => ?_)) | (with_reducible refine br_nb (fun hbr => ?_) (fun hbr => ?_)) | (with_reducible refine br_b (fun hbr => ?_) (fun hbr => ?_)) | simp (disch := first | omega | (simp only [List.length_take, List.length_drop, List.length_append, List.map_cons, List.map_nil, List.length_map, List.length_cons, List.length_nil, List.length_set, List.length_replicate]; omega) | (simp only [List.length_cons, List.length_nil, Nat.zero_add, Nat.reduceAdd])) only [go_sem, ↓reduceIte, Nat.reduceAdd, Int.reduceNeg, Int.reduceAdd, Int.reduceSub, Int.reduceMul, Int.reduceLT, Int.reduceLE, Int.reduceEq, Int.reduceToNat, Nat.reduceBEq, e_sle, e_sge, e_shl1, e_orI, e_andI, e_shr, wrapu, wrap8, tn1, nat1, ix_s, ix_z, st_s, st_z, fl_s, fl_z, fl1_s, fl1_z, map_s, map_z, d1, d2, d3, d4, d5, e_cat e1, happ])
    all_goals first | omega | exact ⟨(x / 10, (48 + x % 10) :: acc), rfl, ⟨by simp only; omega, by rw [← g2, hd]; simp⟩, by simp only; omega⟩
theorem markT_size {K : Nat} (h : K ≤ 4611686018427387904) : (markT K).size ≤ 20 := by
  unfold markT; rw [ofN_size, List.length_cons]
  have := dgs_len19 (m := K) (by omega)
  omega
theorem argR_i {w : World} {B : Nat → Prop} {k : Int} : ArgR w B (.int .i64 k) (false, [.sc (.int .i64 k)]) := .sc trivial .nil
theorem markText_x (x : Int) (K : Nat) (w : World) (hx : x = K) (h0 : 0 < K) (h1 : K ≤ 4611686018427387904) :
    Calls Try.prog 46 #[.int .i64 x] w fun e w' => e = .returned (.string (markT K)) ∧ Below w.heap.size w w' := by
  subst hx
  exact run_law (markText_m K h0 h1) (ArgsR.cons argR_i ArgsR.nil)

theorem own_flat_nil {w : World} {base : Nat} {vals : List Value} {ds : List DV} {g : List Nat} (h : OwnL w base vals ds g) (hf : Flat ds) : g = [] := by
  induction h with
  | nil => rfl
  | sc _ _ ih => exact ih (fun d hd => hf d (List.mem_cons_of_mem _ hd))
  | sl => obtain ⟨v, hv⟩ := hf _ (List.mem_cons_self ..); cases hv
theorem wrote_grown {w w' : World} {v : Value} (h : w.grownBy w' v.ownBlock) : Wrote w w' ([v.ownBlock.toList] : List (List Nat)).flatten :=
  ⟨h.os, h.tape, h.output, h.size, fun b hb hn => h.block b hb (fun e => hn (by simp [← e]))⟩
end Go.Proofs.Ytgmpajfhjnojiaa
