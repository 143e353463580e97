/- Lists of texts, names: impl.textIndex, hasText, IsName; spec.l1In, l1Find, l1Has, IsName. -/
import Derived.Test.YtolkglnkdfcceaaUTxt
import Derived.Test.YtolkglnkdfcceaaGen0
import Derived.Test.YtolkglnkdfcceaaGX
import Derived.Test.YtolkglnkdfcceaaTxtMath
namespace Go.Proofs.Ytolkglnkdfcceaa
open Go.RowKit
set_option linter.unusedVariables false
set_option linter.unusedSimpArgs false
set_option maxRecDepth 100000

def encS (s : ByteArray) : List DV := [.sc (.string s)]
def encZ (n : Int) : List DV := [.sc (.int .i64 n)]
def encSs (l : List ByteArray) : DV := .sl 9 1 (l.map encS)
def encZs (l : List Int) : DV := .sl 3 1 (l.map encZ)
theorem ix_s {t : Nat} {l : List ByteArray} {kd : IntKind} {z : Int} (h : 0 ≤ z) (h1 : z < l.length) : eIdx 1 (some (.sl t 1 (l.map encS))) (some (.sc (.int kd z))) = some [.sc (.string (l.getD z.toNat default))] := e_idx_map (fun _ => rfl) h h1
theorem ix_z {t : Nat} {l : List Int} {kd : IntKind} {z : Int} (h : 0 ≤ z) (h1 : z < l.length) : eIdx 1 (some (.sl t 1 (l.map encZ))) (some (.sc (.int kd z))) = some [.sc (.int .i64 (l.getD z.toNat default))] := e_idx_map (fun _ => rfl) h h1
theorem st_s {t : Nat} {l : List ByteArray} {kd : IntKind} {z : Int} {s : ByteArray} (h : 0 ≤ z) (h1 : z < l.length) : eSet 1 0 (some (.sl t 1 (l.map encS))) (some (.sc (.int kd z))) (some [.sc (.string s)]) = some [.sl t 1 ((l.set z.toNat s).map encS)] := by
  rw [e_set_map (e := encS) (fun _ => rfl) h h1 rfl, List.map_set]; rfl
theorem st_z {t : Nat} {l : List Int} {kd : IntKind} {z n : Int} (h : 0 ≤ z) (h1 : z < l.length) : eSet 1 0 (some (.sl t 1 (l.map encZ))) (some (.sc (.int kd z))) (some [.sc (.int .i64 n)]) = some [.sl t 1 ((l.set z.toNat n).map encZ)] := by
  rw [e_set_map (e := encZ) (fun _ => rfl) h h1 rfl, List.map_set]; rfl
theorem fl_s {t k : Nat} {l : List ByteArray} : eFlat (some (.sl t k (l.map encS))) = some [] := e_flat_map fun _ => rfl
theorem fl_z {t k : Nat} {l : List Int} : eFlat (some (.sl t k (l.map encZ))) = some [] := e_flat_map fun _ => rfl
theorem fl1_s {t : Nat} {s : ByteArray} : eFlat (some (.sl t 1 [[.sc (.string s)]])) = some [] := rfl
theorem fl1_z {t : Nat} {kd : IntKind} {n : Int} : eFlat (some (.sl t 1 [[.sc (.int kd n)]])) = some [] := rfl
theorem map_s (l : List ByteArray) (s : ByteArray) : l.map encS ++ [[.sc (.string s)]] = (l ++ [s]).map encS := by rw [List.map_append]; rfl
theorem map_z (l : List Int) (n : Int) : l.map encZ ++ [[.sc (.int .i64 n)]] = (l ++ [n]).map encZ := by rw [List.map_append]; rfl

theorem l1In_m (x lo hi : Int) : Meets Try.prog 33 [(false, [.sc (.int .i64 x)]), (false, [.sc (.int .i64 lo)]), (false, [.sc (.int .i64 hi)])] [(false, [.sc (.bool (decide (lo ≤ x ∧ x ≤ hi)))], true)] := by
  refine meets_upf Try.func33 u_spec_l1In_g rfl ?_; simp only [u_spec_l1In_u]
  repeat' (first | (with_reducible refine jn_in ?_) | (with_reducible refine cl_ok (by assumption) rfl ?_) | (with_reducible refine cl_okP (by assumption) rfl ?_) | (with_reducible refine br_if (fun hbr => ?_) (fun hbr => ?_)) | (with_reducible refine br_ifn (fun hbr => ?_) (fun hbr => ?_)) | (with_reducible refine br_nb (fun hbr => ?_) (fun hbr => ?_)) | (with_reducible refine br_b (fun hbr => ?_) (fun hbr => ?_)) | simp (disch := first | omega | (simp only [List.length_take, List.length_drop, List.length_append, List.map_cons, List.map_nil, List.length_map, List.length_cons, List.length_nil, List.length_set, List.length_replicate]; omega) | (simp only [List.length_cons, List.length_nil, Nat.zero_add, Nat.reduceAdd])) only [go_sem, ↓reduceIte, Nat.reduceAdd, Int.reduceNeg, Int.reduceAdd, Int.reduceSub, Int.reduceMul, Int.reduceLT, Int.reduceLE, Int.reduceEq, Int.reduceToNat, Nat.reduceBEq, true_and])
  all_goals (refine ret_b ?_; rw [Bool.eq_iff_iff]; simp; omega)
end Go.Proofs.Ytolkglnkdfcceaa
