/- The type Node: data, encodings, reading; the laws' sizes, conversions, comparisons. Written by tygen.py. -/
import Derived.Test.YtbddjkbbnflnkaaUTNod
import Derived.Test.YtbddjkbbnflnkaaTypB
namespace Go.Proofs.Ytbddjkbbnflnkaa
open Go.RowKit Go.ChangeShapes Go.WideShapes Go.Deep
set_option linter.unusedVariables false
set_option linter.unusedSimpArgs false
set_option maxRecDepth 100000

structure Nod where
  kind : Int
  num : Int
  text : ByteArray
  labels : List ByteArray
  kids : Int
  deriving DecidableEq
instance : Inhabited Nod := ⟨⟨default, default, default, default, default⟩⟩
def encNod (x : Nod) : List DV := [.sc (.int .i64 x.kind), .sc (.int .i64 x.num), .sc (.string x.text), encSs x.labels, .sc (.int .i64 x.kids)]
def encNods (l : List Nod) : DV := .sl 130 5 (l.map encNod)
def wtNod (x : Nod) : Nat := x.text.size + wtSs x.labels
def OkNod (x : Nod) : Prop := In64 x.kind ∧ In64 x.num ∧ x.text.size ≤ 9223372036854775807 ∧ OkSs x.labels ∧ In64 x.kids
def wtNods (l : List Nod) : Nat := l.length + sumOf wtNod l
def OkNods (l : List Nod) : Prop := l.length ≤ 9223372036854775807 ∧ ∀ x ∈ l, OkNod x
theorem encNod_len (x : Nod) : (encNod x).length = 5 := rfl
theorem ix_Nod {t : Nat} {l : List Nod} {kd : IntKind} {z : Int} (h : 0 ≤ z) (h1 : z < l.length) : eIdx 5 (some (.sl t 5 (l.map encNod))) (some (.sc (.int kd z))) = some (encNod (l.getD z.toNat default)) := e_idx_map (fun _ => rfl) h h1
theorem eqNod_m (x : Nod) (hw : wtNod x ≤ 10000000000) : Meets Try.prog 114 [(true, encNod x), (true, encNod x)] [(false, [.sc (.bool true)], true)] := by
  obtain ⟨x0, x1, x2, x3, x4⟩ := x
  simp only [wtNod] at hw
  have clabels := eqSs_m x3 (wtSs_len (n := 100000000000) (by omega))
  refine meets_upf Try.func114 u_laws_eqNode_g rfl ?_; simp only [u_laws_eqNode_u]
  simp only [encNod]
  repeat' (first | (with_reducible refine jn_in ?_) | (with_reducible refine cl_ok (by assumption) rfl ?_) | (with_reducible refine br_if (fun hbr => ?_) (fun hbr => ?_)) | (with_reducible refine br_ifn (fun hbr => ?_) (fun hbr => ?_)) | (with_reducible refine br_nb (fun hbr => ?_) (fun hbr => ?_)) | (with_reducible refine br_b (fun hbr => ?_) (fun hbr => ?_)) | simp (disch := first | omega | (simp only [List.length_take, List.length_drop, List.length_append, List.map_cons, List.map_nil, List.length_map, List.length_cons, List.length_nil, List.length_set, List.length_replicate]; omega) | (simp only [List.length_cons, List.length_nil, Nat.zero_add, Nat.reduceAdd])) only [go_sem, ↓reduceIte, Nat.reduceAdd, Int.reduceNeg, Int.reduceAdd, Int.reduceSub, Int.reduceMul, Int.reduceLT, Int.reduceLE, Int.reduceEq, Int.reduceToNat, Nat.reduceBEq, e_sle, e_sge, e_shl1, e_orI, e_andI, e_shr, wrapu, wrap8, tn1, nat1, ix_s, ix_z, st_s, st_z, fl_s, fl_z, fl1_s, fl1_z, map_s, map_z, eq_self])
  rfl
theorem eqNods_m (l : List Nod) (h : wtNods l ≤ 10000000000) : Meets Try.prog 51 [(false, [encNods l]), (false, [encNods l])] [(false, [.sc (.bool true)], true)] := by
  have hl : l.length ≤ 10000000000 := by unfold wtNods at h; omega
  have hz : ∀ x ∈ l, wtNod x ≤ 10000000000 := fun x hx => by have := sumOf_mem wtNod hx; unfold wtNods at h; omega
  refine meets_upf Try.func51 u_laws_eqNodeS_g rfl ?_; simp only [u_laws_eqNodeS_u]
  simp only [encNods]
  simp (disch := first | omega | (simp only [List.length_take, List.length_drop, List.length_append, List.map_cons, List.map_nil, List.length_map, List.length_cons, List.length_nil, List.length_set, List.length_replicate]; omega) | (simp only [List.length_cons, List.length_nil, Nat.zero_add, Nat.reduceAdd])) only [go_sem, ↓reduceIte, Nat.reduceAdd, Int.reduceNeg, Int.reduceAdd, Int.reduceSub, Int.reduceMul, Int.reduceLT, Int.reduceLE, Int.reduceEq, Int.reduceToNat, Nat.reduceBEq, e_sle, e_sge, e_shl1, e_orI, e_andI, e_shr, wrapu, wrap8, tn1, nat1, ix_s, ix_z, st_s, st_z, fl_s, fl_z, fl1_s, fl1_z, map_s, map_z, eq_self]
  refine lp_n l.length (fun i => [.sc (.int .i64 i)]) rfl fun i hi => ?_
  simp only [u_laws_eqNodeS_l0]
  by_cases hlt : i < l.length
  · have hc := eqNod_m (l.getD i default) (hz _ (getD_mem hlt))
    have hix : eIdx 5 (some (.sl 130 5 (l.map encNod))) (some (.sc (.int .i64 (i : Int)))) = some (encNod (l.getD i default)) := by rw [ix_Nod (by omega) (by omega), Int.toNat_natCast]
    simp only [encNod, encSs, encZs] at hc hix
    repeat' (first | (with_reducible refine jn_in ?_) | (with_reducible refine cl_ok (by assumption) rfl ?_) | (with_reducible refine br_if (fun hbr => ?_) (fun hbr => ?_)) | (with_reducible refine br_ifn (fun hbr => ?_) (fun hbr => ?_)) | (with_reducible refine br_nb (fun hbr => ?_) (fun hbr => ?_)) | (with_reducible refine br_b (fun hbr => ?_) (fun hbr => ?_)) | simp (disch := first | omega | (simp only [List.length_take, List.length_drop, List.length_append, List.map_cons, List.map_nil, List.length_map, List.length_cons, List.length_nil, List.length_set, List.length_replicate]; omega) | (simp only [List.length_cons, List.length_nil, Nat.zero_add, Nat.reduceAdd])) only [go_sem, ↓reduceIte, Nat.reduceAdd, Int.reduceNeg, Int.reduceAdd, Int.reduceSub, Int.reduceMul, Int.reduceLT, Int.reduceLE, Int.reduceEq, Int.reduceToNat, Nat.reduceBEq, e_sle, e_sge, e_shl1, e_orI, e_andI, e_shr, wrapu, wrap8, tn1, nat1, ix_s, ix_z, st_s, st_z, fl_s, fl_z, fl1_s, fl1_z, map_s, map_z, hix])
    all_goals omega
  · obtain rfl : i = l.length := by omega
    repeat' (first | (with_reducible refine jn_in ?_) | (with_reducible refine cl_ok (by assumption) rfl ?_) | (with_reducible refine br_if (fun hbr => ?_) (fun hbr => ?_)) | (with_reducible refine br_ifn (fun hbr => ?_) (fun hbr => ?_)) | (with_reducible refine br_nb (fun hbr => ?_) (fun hbr => ?_)) | (with_reducible refine br_b (fun hbr => ?_) (fun hbr => ?_)) | simp (disch := first | omega | (simp only [List.length_take, List.length_drop, List.length_append, List.map_cons, List.map_nil, List.length_map, List.length_cons, List.length_nil, List.length_set, List.length_replicate]; omega) | (simp only [List.length_cons, List.length_nil, Nat.zero_add, Nat.reduceAdd])) only [go_sem, ↓reduceIte, Nat.reduceAdd, Int.reduceNeg, Int.reduceAdd, Int.reduceSub, Int.reduceMul, Int.reduceLT, Int.reduceLE, Int.reduceEq, Int.reduceToNat, Nat.reduceBEq, e_sle, e_sge, e_shl1, e_orI, e_andI, e_shr, wrapu, wrap8, tn1, nat1, ix_s, ix_z, st_s, st_z, fl_s, fl_z, fl1_s, fl1_z, map_s, map_z, true_and])
    · omega
    · rfl
end Go.Proofs.Ytbddjkbbnflnkaa
