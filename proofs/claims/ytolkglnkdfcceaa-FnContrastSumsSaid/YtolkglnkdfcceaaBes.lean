/- impl.beside and spec.l14Beside. -/
import Derived.Test.YtolkglnkdfcceaaUBes
import Derived.Test.YtolkglnkdfcceaaGen0
import Derived.Test.YtolkglnkdfcceaaMatA
import Derived.Test.YtolkglnkdfcceaaGX
namespace Go.Proofs.Ytolkglnkdfcceaa
open Go.RowKit
set_option linter.unusedVariables false
set_option linter.unusedSimpArgs false
set_option maxRecDepth 100000

instance : Inhabited It := ⟨⟨0, 0, ByteArray.empty⟩⟩
theorem encIt_all (x : It) : (encIt x).all isScD = true := rfl
theorem fl_it {t k : Nat} {l : List It} : eFlat (some (.sl t k (l.map encIt))) = some [] := e_flat_map encIt_all
theorem ix_it {t : Nat} {l : List It} {kd : IntKind} {z : Int} (h : 0 ≤ z) (h1 : z < l.length) : eIdx 3 (some (.sl t 3 (l.map encIt))) (some (.sc (.int kd z))) = some (encIt (l.getD z.toNat default)) := e_idx_map (fun _ => rfl) h h1
theorem st_it {t : Nat} {l : List It} {kd : IntKind} {z : Int} {ds : List DV} (h : 0 ≤ z) (h1 : z < l.length) (hl : ds.length = 3) : eSet 3 0 (some (.sl t 3 (l.map encIt))) (some (.sc (.int kd z))) (some ds) = some [.sl t 3 ((l.map encIt).set z.toNat ds)] := e_set_map (fun _ => rfl) h h1 hl
def besL (a b : Nat) (la lb : List It) : Nat → List It
  | 0 => []
  | i + 1 => besL a b la lb i ++ ((la.drop (i * a)).take a ++ (lb.drop (i * b)).take b)
theorem besL_len (a b : Nat) (la lb : List It) : ∀ i, (besL a b la lb i).length ≤ i * (a + b)
  | 0 => by simp [besL]
  | i + 1 => by
    have := besL_len a b la lb i
    simp only [besL, List.length_append, List.length_take, List.length_drop, Nat.succ_mul]
    omega

set_option maxHeartbeats 1000000 in
theorem implBeside_m (n a b : Nat) (r : Int) (la lb : List It) (hn : n ≤ 12) (ha : a ≤ 12) (hb : b ≤ 12) (hla : la.length = n * a) (hlb : lb.length = n * b) :
    Meets Try.prog 51 [(true, encMt ⟨n, a, la⟩), (true, encMt ⟨r, b, lb⟩)] [(true, encMt ⟨n, (a + b : Nat), besL a b la lb n⟩, true)] := by
  refine meets_upf Try.func51 u_impl_beside_g rfl ?_; simp only [u_impl_beside_u]
  simp (disch := first | omega | (simp only [List.length_take, List.length_drop, List.length_append, List.map_cons, List.map_nil, List.length_map, List.length_cons, List.length_nil, List.length_set, List.length_replicate]; omega) | (simp only [List.length_cons, List.length_nil, Nat.zero_add, Nat.reduceAdd])) only [go_sem, ↓reduceIte, Nat.reduceAdd, Int.reduceNeg, Int.reduceAdd, Int.reduceSub, Int.reduceMul, Int.reduceLT, Int.reduceLE, Int.reduceEq, Int.reduceToNat, Nat.reduceBEq, encMt, encIts]
  refine lp_n n (fun i => [.sc (.int .i64 (i : Nat)), .sl 33 3 ((besL a b la lb i).map encIt)]) rfl fun i hi => ?_
  have h1 : i * a ≤ 12 * 12 := Nat.mul_le_mul (by omega) (by omega)
  have h2 : i * b ≤ 12 * 12 := Nat.mul_le_mul (by omega) (by omega)
  have h3 := besL_len a b la lb i
  have h4 : i * (a + b) ≤ 12 * 24 := Nat.mul_le_mul (by omega) (by omega)
  have g1 : (i : Int) * a = ((i * a : Nat) : Int) := by simp
  have g2 : (i : Int) * b = ((i * b : Nat) : Int) := by simp
  have g3 : ((i + 1 : Nat) : Int) * a = ((i * a + a : Nat) : Int) := by rw [← Int.natCast_mul, Nat.succ_mul]
  have g4 : ((i + 1 : Nat) : Int) * b = ((i * b + b : Nat) : Int) := by rw [← Int.natCast_mul, Nat.succ_mul]
  simp only [u_impl_beside_l0]
  simp (disch := first | omega | (simp only [List.length_take, List.length_drop, List.length_append, List.map_cons, List.map_nil, List.length_map, List.length_cons, List.length_nil, List.length_set, List.length_replicate]; omega) | (simp only [List.length_cons, List.length_nil, Nat.zero_add, Nat.reduceAdd])) only [go_sem, ↓reduceIte, Nat.reduceAdd, Int.reduceNeg, Int.reduceAdd, Int.reduceSub, Int.reduceMul, Int.reduceLT, Int.reduceLE, Int.reduceEq, Int.reduceToNat, Nat.reduceBEq, nat1, g1, g2, g3, g4]
  refine br_if (fun h => ?_) (fun h => ?_)
  · have hlt : i < n := by omega
    have k1 : i * a + a ≤ n * a := by rw [← Nat.succ_mul]; exact Nat.mul_le_mul_right _ hlt
    have k2 : i * b + b ≤ n * b := by rw [← Nat.succ_mul]; exact Nat.mul_le_mul_right _ hlt
    simp (disch := first | omega | (simp only [List.length_take, List.length_drop, List.length_append, List.map_cons, List.map_nil, List.length_map, List.length_cons, List.length_nil, List.length_set, List.length_replicate]; omega) | (simp only [List.length_cons, List.length_nil, Nat.zero_add, Nat.reduceAdd])) only [go_sem, ↓reduceIte, Nat.reduceAdd, Int.reduceNeg, Int.reduceAdd, Int.reduceSub, Int.reduceMul, Int.reduceLT, Int.reduceLE, Int.reduceEq, Int.reduceToNat, Nat.reduceBEq, nat1, g1, g2, g3, g4, fl_it]
    refine ⟨?_, hlt⟩
    simp [besL]
  · have : i = n := by omega
    subst this
    simp (disch := first | omega | (simp only [List.length_take, List.length_drop, List.length_append, List.map_cons, List.map_nil, List.length_map, List.length_cons, List.length_nil, List.length_set, List.length_replicate]; omega) | (simp only [List.length_cons, List.length_nil, Nat.zero_add, Nat.reduceAdd])) only [go_sem, ↓reduceIte, Nat.reduceAdd, Int.reduceNeg, Int.reduceAdd, Int.reduceSub, Int.reduceMul, Int.reduceLT, Int.reduceLE, Int.reduceEq, Int.reduceToNat, Nat.reduceBEq, true_and]
    rfl
end Go.Proofs.Ytolkglnkdfcceaa
