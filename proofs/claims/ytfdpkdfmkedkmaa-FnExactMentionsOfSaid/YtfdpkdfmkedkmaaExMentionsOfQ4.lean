/- Proved: for every input the law 'FnExactMentionsOf' returns true and its arguments read behind the call as before: part 4 of its proof. No condition. -/
import Derived.WalkKit
import Derived.Lib.Hide
import Derived.WalkSpells
import Derived.Laws.OwnMore
import Derived.Deep.AppendLies
import Derived.Deep.Draws
import Derived.Maps.AppendAt
import Derived.RegionTactic
import Derived.OwnWalk
import Derived.Below
import Derived.Laws.AppendOwnNone
import Derived.Deep.QuietTactic
import Derived.BigQuiet
import Derived.StillTailTactics
import Derived.Laws.Cells
import Derived.Laws.IdiomCopy
import Derived.ChangeKeysEq
import Derived.Laws.BytesArg
import Derived.Laws.StructEq
import Derived.Laws.Tables
import Derived.Great.BuildSlice
import Derived.StillTail
import Derived.OrdersHeld
import Derived.Test.YtfdpkdfmkedkmaaProg
import Derived.Deep.Slices
import Derived.Deep.Fields
import Derived.ChangeSame
import Derived.OpenShut
import Derived.Test.YtfdpkdfmkedkmaaExMentionsOfQ3
set_option linter.unusedVariables false
set_option linter.unusedSimpArgs false
namespace Go.Proofs.Ytfdpkdfmkedkmaa
open Go.RowKit
set_option maxRecDepth 100000
def encS (s : ByteArray) : List DV := [.sc (.string s)]
def encZ (n : Int) : List DV := [.sc (.int .i64 n)]
def encSs (l : List ByteArray) : DV := .sl 9 1 (l.map encS)
def encZs (l : List Int) : DV := .sl 3 1 (l.map encZ)
theorem ix_s {t : Nat} {l : List ByteArray} {kd : IntKind} {z : Int} (h : 0 ≤ z) (h1 : z < l.length) : eIdx 1 (some (.sl t 1 (l.map encS))) (some (.sc (.int kd z))) = some [.sc (.string (l.getD z.toNat default))] := e_idx_map (fun _ => rfl) h h1
theorem ix_z {t : Nat} {l : List Int} {kd : IntKind} {z : Int} (h : 0 ≤ z) (h1 : z < l.length) : eIdx 1 (some (.sl t 1 (l.map encZ))) (some (.sc (.int kd z))) = some [.sc (.int .i64 (l.getD z.toNat default))] := e_idx_map (fun _ => rfl) h h1
theorem st_s {t : Nat} {l : List ByteArray} {kd : IntKind} {z : Int} {s : ByteArray} (h : 0 ≤ z) (h1 : z < l.length) : eSet 1 0 (some (.sl t 1 (l.map encS))) (some (.sc (.int kd z))) (some [.sc (.string s)]) = some [.sl t 1 ((l.set z.toNat s).map encS)] := by
  rw [e_set_map (e := encS) (fun _ => rfl) h h1 rfl, List.map_set]; rfl
theorem st_z {t : Nat} {l : List Int} {kd : IntKind} {z n : Int} (h : 0 ≤ z) (h1 : z < l.length) : eSet 1 0 (some (.sl t 1 (l.map encZ))) (some (.sc (.int kd z))) (some [.sc (.int .i64 n)]) = some [.sl t 1 ((l.set z.toNat n).map encZ)] := by
  rw [e_set_map (e := encZ) (fun _ => rfl) h h1 rfl, List.map_set]; rfl
theorem fl_s {t k : Nat} {l : List ByteArray} : eFlat (some (.sl t k (l.map encS))) = some [] := e_flat_map fun _ => rfl
theorem fl_z {t k : Nat} {l : List Int} : eFlat (some (.sl t k (l.map encZ))) = some [] := e_flat_map fun _ => rfl
theorem fl1_s {t : Nat} {s : ByteArray} : eFlat (some (.sl t 1 [[.sc (.string s)]])) = some [] := rfl
theorem fl1_z {t : Nat} {kd : IntKind} {n : Int} : eFlat (some (.sl t 1 [[.sc (.int kd n)]])) = some [] := rfl
theorem map_s (l : List ByteArray) (s : ByteArray) : l.map encS ++ [[.sc (.string s)]] = (l ++ [s]).map encS := by rw [List.map_append]; rfl
theorem map_z (l : List Int) (n : Int) : l.map encZ ++ [[.sc (.int .i64 n)]] = (l ++ [n]).map encZ := by rw [List.map_append]; rfl
theorem textIndex_m (t : Nat) (l : List ByteArray) (s : ByteArray) (hl : l.length ≤ 100000000000) : Meets Try.prog 44 [(false, [.sl t 1 (l.map encS)]), (false, [.sc (.string s)])] [(false, [.sc (.int .i64 (find1 l s))], true)] := by
  refine meets_upf Try.func44 u_impl_textIndex_g rfl ?_; simp only [u_impl_textIndex_u]
  simp (disch := first | omega | (simp only [List.length_take, List.length_drop, List.length_append, List.map_cons, List.map_nil, List.length_map, List.length_cons, List.length_nil, List.length_set, List.length_replicate]; omega) | (simp only [List.length_cons, List.length_nil, Nat.zero_add, Nat.reduceAdd])) only [go_sem, ↓reduceIte, Nat.reduceAdd, Int.reduceNeg, Int.reduceAdd, Int.reduceSub, Int.reduceMul, Int.reduceLT, Int.reduceLE, Int.reduceEq, Int.reduceToNat, Nat.reduceBEq, true_and]
  refine lp (fun i : Nat => [.sc (.int .i64 i)]) (fun i => i ≤ l.length ∧ allB (fun j => !decide (l.getD j default = s)) i = true) (fun i => l.length - i) 0 rfl ⟨by omega, rfl⟩ ?_
  rintro i ⟨hi, hb⟩
  simp only [u_impl_textIndex_l0]
  repeat' (first | (with_reducible refine jn_in ?_) | (with_reducible refine cl_ok (by assumption) rfl ?_) | (with_reducible refine cl_okP (by assumption) rfl ?_) | (with_reducible refine br_if (fun hbr => ?_) (fun hbr => ?_)) | (with_reducible refine br_ifn (fun hbr => ?_) (fun hbr => ?_)) | (with_reducible refine br_nb (fun hbr => ?_) (fun hbr => ?_)) | (with_reducible refine br_b (fun hbr => ?_) (fun hbr => ?_)) | simp (disch := first | omega | (simp only [List.length_take, List.length_drop, List.length_append, List.map_cons, List.map_nil, List.length_map, List.length_cons, List.length_nil, List.length_set, List.length_replicate]; omega) | (simp only [List.length_cons, List.length_nil, Nat.zero_add, Nat.reduceAdd])) only [go_sem, ↓reduceIte, Nat.reduceAdd, Int.reduceNeg, Int.reduceAdd, Int.reduceSub, Int.reduceMul, Int.reduceLT, Int.reduceLE, Int.reduceEq, Int.reduceToNat, Nat.reduceBEq, ix_s, nat1])
  · rw [find1_hit hb (by omega) ‹_›]; rfl
  · exact ⟨i + 1, rfl, ⟨by omega, allB_step hb (by simpa using ‹¬ l.getD i default = s›)⟩, by omega⟩
  · obtain rfl : i = l.length := by omega
    rw [find1_miss hb]; rfl
theorem hasText_m (t : Nat) (l : List ByteArray) (s : ByteArray) (hl : l.length ≤ 100000000000) : Meets Try.prog 34 [(false, [.sl t 1 (l.map encS)]), (false, [.sc (.string s)])] [(false, [.sc (.bool (hasB l s))], true)] := by
  have h := textIndex_m t l s hl
  refine meets_upf Try.func34 u_impl_hasText_g rfl ?_; simp only [u_impl_hasText_u]
  repeat' (first | (with_reducible refine jn_in ?_) | (with_reducible refine cl_ok (by assumption) rfl ?_) | (with_reducible refine cl_okP (by assumption) rfl ?_) | (with_reducible refine br_if (fun hbr => ?_) (fun hbr => ?_)) | (with_reducible refine br_ifn (fun hbr => ?_) (fun hbr => ?_)) | (with_reducible refine br_nb (fun hbr => ?_) (fun hbr => ?_)) | (with_reducible refine br_b (fun hbr => ?_) (fun hbr => ?_)) | simp (disch := first | omega | (simp only [List.length_take, List.length_drop, List.length_append, List.map_cons, List.map_nil, List.length_map, List.length_cons, List.length_nil, List.length_set, List.length_replicate]; omega) | (simp only [List.length_cons, List.length_nil, Nat.zero_add, Nat.reduceAdd])) only [go_sem, ↓reduceIte, Nat.reduceAdd, Int.reduceNeg, Int.reduceAdd, Int.reduceSub, Int.reduceMul, Int.reduceLT, Int.reduceLE, Int.reduceEq, Int.reduceToNat, Nat.reduceBEq, true_and])
  rfl
theorem implName_m (s : ByteArray) (hs : s.size ≤ 100000000000) : Meets Try.prog 33 [(false, [.sc (.string s)])] [(false, [.sc (.bool (nameB s))], true)] := by
  refine meets_upf Try.func33 u_impl_IsName_g rfl ?_; simp only [u_impl_IsName_u]
  simp (disch := first | omega | (simp only [List.length_take, List.length_drop, List.length_append, List.map_cons, List.map_nil, List.length_map, List.length_cons, List.length_nil, List.length_set, List.length_replicate]; omega) | (simp only [List.length_cons, List.length_nil, Nat.zero_add, Nat.reduceAdd])) only [go_sem, ↓reduceIte, Nat.reduceAdd, Int.reduceNeg, Int.reduceAdd, Int.reduceSub, Int.reduceMul, Int.reduceLT, Int.reduceLE, Int.reduceEq, Int.reduceToNat, Nat.reduceBEq, true_and]
  refine lp (fun i : Nat => [.sc (.int .i64 i)]) (fun i => i ≤ s.size ∧ allB (nameC s) i = true) (fun i => s.size - i) 0 rfl ⟨by omega, rfl⟩ ?_
  rintro i ⟨hi, hb⟩
  simp only [u_impl_IsName_l0]
  repeat' (first | (with_reducible refine jn_in ?_) | (with_reducible refine cl_ok (by assumption) rfl ?_) | (with_reducible refine cl_okP (by assumption) rfl ?_) | (with_reducible refine br_if (fun hbr => ?_) (fun hbr => ?_)) | (with_reducible refine br_ifn (fun hbr => ?_) (fun hbr => ?_)) | (with_reducible refine br_nb (fun hbr => ?_) (fun hbr => ?_)) | (with_reducible refine br_b (fun hbr => ?_) (fun hbr => ?_)) | simp (disch := first | omega | (simp only [List.length_take, List.length_drop, List.length_append, List.map_cons, List.map_nil, List.length_map, List.length_cons, List.length_nil, List.length_set, List.length_replicate]; omega) | (simp only [List.length_cons, List.length_nil, Nat.zero_add, Nat.reduceAdd])) only [go_sem, ↓reduceIte, Nat.reduceAdd, Int.reduceNeg, Int.reduceAdd, Int.reduceSub, Int.reduceMul, Int.reduceLT, Int.reduceLE, Int.reduceEq, Int.reduceToNat, Nat.reduceBEq, nat1])
  · rw [nameB_no (i := i) (by omega) (by simp [nameC]; omega)]; rfl
  · rw [nameB_no (i := i) (by omega) (by simp [nameC]; omega)]; rfl
  · rw [nameB_no (i := i) (by omega) (by simp [nameC]; omega)]; rfl
  · exact ⟨i + 1, rfl, ⟨by omega, allB_step hb (by simp [nameC]; omega)⟩, by omega⟩
  · obtain rfl : i = s.size := by omega
    refine ret_b ?_
    unfold nameB; rw [hb, Bool.true_and, Bool.eq_iff_iff]
    simp; omega
  · obtain rfl : i = s.size := by omega
    refine ret_b ?_
    unfold nameB; rw [hb, Bool.true_and, Bool.eq_iff_iff]
    simp; omega
theorem l1In_m (x lo hi : Int) : Meets Try.prog 39 [(false, [.sc (.int .i64 x)]), (false, [.sc (.int .i64 lo)]), (false, [.sc (.int .i64 hi)])] [(false, [.sc (.bool (decide (lo ≤ x ∧ x ≤ hi)))], true)] := by
  refine meets_upf Try.func39 u_spec_l1In_g rfl ?_; simp only [u_spec_l1In_u]
  repeat' (first | (with_reducible refine jn_in ?_) | (with_reducible refine cl_ok (by assumption) rfl ?_) | (with_reducible refine cl_okP (by assumption) rfl ?_) | (with_reducible refine br_if (fun hbr => ?_) (fun hbr => ?_)) | (with_reducible refine br_ifn (fun hbr => ?_) (fun hbr => ?_)) | (with_reducible refine br_nb (fun hbr => ?_) (fun hbr => ?_)) | (with_reducible refine br_b (fun hbr => ?_) (fun hbr => ?_)) | simp (disch := first | omega | (simp only [List.length_take, List.length_drop, List.length_append, List.map_cons, List.map_nil, List.length_map, List.length_cons, List.length_nil, List.length_set, List.length_replicate]; omega) | (simp only [List.length_cons, List.length_nil, Nat.zero_add, Nat.reduceAdd])) only [go_sem, ↓reduceIte, Nat.reduceAdd, Int.reduceNeg, Int.reduceAdd, Int.reduceSub, Int.reduceMul, Int.reduceLT, Int.reduceLE, Int.reduceEq, Int.reduceToNat, Nat.reduceBEq, true_and])
  all_goals (refine ret_b ?_; rw [Bool.eq_iff_iff]; simp; omega)
theorem l1Find_m (t : Nat) (l : List ByteArray) (s : ByteArray) (hl : l.length ≤ 100000000000) : Meets Try.prog 43 [(false, [.sl t 1 (l.map encS)]), (false, [.sc (.string s)])] [(false, [.sc (.int .i64 (find1 l s))], true)] := by
  refine meets_upf Try.func43 u_spec_l1Find_g rfl ?_; simp only [u_spec_l1Find_u]
  simp (disch := first | omega | (simp only [List.length_take, List.length_drop, List.length_append, List.map_cons, List.map_nil, List.length_map, List.length_cons, List.length_nil, List.length_set, List.length_replicate]; omega) | (simp only [List.length_cons, List.length_nil, Nat.zero_add, Nat.reduceAdd])) only [go_sem, ↓reduceIte, Nat.reduceAdd, Int.reduceNeg, Int.reduceAdd, Int.reduceSub, Int.reduceMul, Int.reduceLT, Int.reduceLE, Int.reduceEq, Int.reduceToNat, Nat.reduceBEq, true_and]
  refine lp (fun i : Nat => [.sc (.int .i64 i)]) (fun i => i ≤ l.length ∧ allB (fun j => !decide (l.getD j default = s)) i = true) (fun i => l.length - i) 0 rfl ⟨by omega, rfl⟩ ?_
  rintro i ⟨hi, hb⟩
  simp only [u_spec_l1Find_l0]
  repeat' (first | (with_reducible refine jn_in ?_) | (with_reducible refine cl_ok (by assumption) rfl ?_) | (with_reducible refine cl_okP (by assumption) rfl ?_) | (with_reducible refine br_if (fun hbr => ?_) (fun hbr => ?_)) | (with_reducible refine br_ifn (fun hbr => ?_) (fun hbr => ?_)) | (with_reducible refine br_nb (fun hbr => ?_) (fun hbr => ?_)) | (with_reducible refine br_b (fun hbr => ?_) (fun hbr => ?_)) | simp (disch := first | omega | (simp only [List.length_take, List.length_drop, List.length_append, List.map_cons, List.map_nil, List.length_map, List.length_cons, List.length_nil, List.length_set, List.length_replicate]; omega) | (simp only [List.length_cons, List.length_nil, Nat.zero_add, Nat.reduceAdd])) only [go_sem, ↓reduceIte, Nat.reduceAdd, Int.reduceNeg, Int.reduceAdd, Int.reduceSub, Int.reduceMul, Int.reduceLT, Int.reduceLE, Int.reduceEq, Int.reduceToNat, Nat.reduceBEq, ix_s, nat1])
  · rw [find1_hit hb (by omega) ‹_›]; rfl
  · exact ⟨i + 1, rfl, ⟨by omega, allB_step hb (by simpa using ‹¬ l.getD i default = s›)⟩, by omega⟩
  · obtain rfl : i = l.length := by omega
    rw [find1_miss hb]; rfl
theorem l1Has_m (t : Nat) (l : List ByteArray) (s : ByteArray) (hl : l.length ≤ 100000000000) : Meets Try.prog 31 [(false, [.sl t 1 (l.map encS)]), (false, [.sc (.string s)])] [(false, [.sc (.bool (hasB l s))], true)] := by
  have h := l1Find_m t l s hl
  refine meets_upf Try.func31 u_spec_l1Has_g rfl ?_; simp only [u_spec_l1Has_u]
  repeat' (first | (with_reducible refine jn_in ?_) | (with_reducible refine cl_ok (by assumption) rfl ?_) | (with_reducible refine cl_okP (by assumption) rfl ?_) | (with_reducible refine br_if (fun hbr => ?_) (fun hbr => ?_)) | (with_reducible refine br_ifn (fun hbr => ?_) (fun hbr => ?_)) | (with_reducible refine br_nb (fun hbr => ?_) (fun hbr => ?_)) | (with_reducible refine br_b (fun hbr => ?_) (fun hbr => ?_)) | simp (disch := first | omega | (simp only [List.length_take, List.length_drop, List.length_append, List.map_cons, List.map_nil, List.length_map, List.length_cons, List.length_nil, List.length_set, List.length_replicate]; omega) | (simp only [List.length_cons, List.length_nil, Nat.zero_add, Nat.reduceAdd])) only [go_sem, ↓reduceIte, Nat.reduceAdd, Int.reduceNeg, Int.reduceAdd, Int.reduceSub, Int.reduceMul, Int.reduceLT, Int.reduceLE, Int.reduceEq, Int.reduceToNat, Nat.reduceBEq, true_and])
  rfl
theorem specName_m (s : ByteArray) (hs : s.size ≤ 100000000000) : Meets Try.prog 30 [(false, [.sc (.string s)])] [(false, [.sc (.bool (nameB s))], true)] := by
  have h := l1In_m s.size 1 20
  refine meets_upf Try.func30 u_spec_IsName_g rfl ?_; simp only [u_spec_IsName_u]
  simp (disch := first | omega | (simp only [List.length_take, List.length_drop, List.length_append, List.map_cons, List.map_nil, List.length_map, List.length_cons, List.length_nil, List.length_set, List.length_replicate]; omega) | (simp only [List.length_cons, List.length_nil, Nat.zero_add, Nat.reduceAdd])) only [go_sem, ↓reduceIte, Nat.reduceAdd, Int.reduceNeg, Int.reduceAdd, Int.reduceSub, Int.reduceMul, Int.reduceLT, Int.reduceLE, Int.reduceEq, Int.reduceToNat, Nat.reduceBEq, true_and]
  refine lp (fun i : Nat => [.sc (.int .i64 i)]) (fun i => i ≤ s.size ∧ allB (nameC s) i = true) (fun i => s.size - i) 0 rfl ⟨by omega, rfl⟩ ?_
  rintro i ⟨hi, hb⟩
  simp only [u_spec_IsName_l0]
  repeat' (first | (with_reducible refine jn_in ?_) | (with_reducible refine cl_ok (by assumption) rfl ?_) | (with_reducible refine cl_okP (by assumption) rfl ?_) | (with_reducible refine br_if (fun hbr => ?_) (fun hbr => ?_)) | (with_reducible refine br_ifn (fun hbr => ?_) (fun hbr => ?_)) | (with_reducible refine br_nb (fun hbr => ?_) (fun hbr => ?_)) | (with_reducible refine br_b (fun hbr => ?_) (fun hbr => ?_)) | simp (disch := first | omega | (simp only [List.length_take, List.length_drop, List.length_append, List.map_cons, List.map_nil, List.length_map, List.length_cons, List.length_nil, List.length_set, List.length_replicate]; omega) | (simp only [List.length_cons, List.length_nil, Nat.zero_add, Nat.reduceAdd])) only [go_sem, ↓reduceIte, Nat.reduceAdd, Int.reduceNeg, Int.reduceAdd, Int.reduceSub, Int.reduceMul, Int.reduceLT, Int.reduceLE, Int.reduceEq, Int.reduceToNat, Nat.reduceBEq, nat1])
  · rw [nameB_no (i := i) (by omega) (by simp [nameC]; omega)]; rfl
  · rw [nameB_no (i := i) (by omega) (by simp [nameC]; omega)]; rfl
  · rw [nameB_no (i := i) (by omega) (by simp [nameC]; omega)]; rfl
  · exact ⟨i + 1, rfl, ⟨by omega, allB_step hb (by simp [nameC]; omega)⟩, by omega⟩
  · obtain rfl : i = s.size := by omega
    refine ret_b ?_
    unfold nameB; rw [hb, Bool.true_and, Bool.eq_iff_iff]
    simp; omega
end Go.Proofs.Ytfdpkdfmkedkmaa

namespace Go.Proofs.Ytfdpkdfmkedkmaa
open Go.RowKit Go.ChangeShapes Go.WideShapes Go.Deep
theorem in64_wf {n : Int} (h : (Lit.int .i64 n).wf = true) : In64 n := by
  exact bounds_i64 h
end Go.Proofs.Ytfdpkdfmkedkmaa

namespace Go.Proofs.Ytfdpkdfmkedkmaa
open Go.RowKit Go.ChangeShapes Go.WideShapes Go.Deep
theorem RepL.lt {w : World} {A : Nat → Prop} {vs : List Value} {ds : List DV} (h : RepL w A vs ds) : RepL w (· < w.heap.size) vs ds := by
  induction h with
  | nil => exact .nil
  | sc h1 _ ih => exact .sc h1 ih
  | sl0 h1 _ ih => exact .sl0 h1 ih
  | @sl b off n c t k es cells vs ds h1 h2 h3 h4 h5 h6 h7 h8 h9 _ ih1 ih2 =>
    refine .sl ?_ h2 h3 h4 h5 h6 h7 ih1 h9 ih2
    have hl : cells.length = es.length * k := by rw [h8.len, flat_length h7]
    have hp : 0 < cells.length := by rw [hl, ← h2]; exact Nat.mul_pos h3 h6
    have := h9 0 _ (List.getElem?_eq_getElem hp)
    unfold World.cell? at this
    apply Classical.byContradiction
    intro hb
    have hn : w.heap[b]? = none := by simp; omega
    simp [hn] at this
def OpD {α : Type} (e : α → List DV) (Ok : α → Prop) (P : Program) (t : TypeId) : Prop :=
  ∀ (H : Type) (enc : TypeId × Value → H) (w : World) (base : Nat) (spare : Nat → Bool) (held : Bool) (fuel : Nat) (cs : List Value) (x : DataW H × List MemPlace),
    DataW.trod enc P w base spare held fuel t cs = some x → ∃ a : α, RepL w (· < w.heap.size) cs (e a) ∧ Ok a
section
variable {P : Program} {t : TypeId}
theorem opD_int (ht : P.underlying t = some (.int .i64)) : OpD (fun n : Int => [.sc (.int .i64 n)]) In64 P t := by
  intro H enc w base spare held fuel cs x h
  obtain ⟨n, rfl, -, hn⟩ := DataW.trod_int ht h
  exact ⟨n, .sc trivial .nil, in64_wf hn⟩
theorem opD_str (ht : P.underlying t = some .string) : OpD (fun s : ByteArray => [.sc (.string s)]) (fun s => s.size ≤ 9223372036854775807) P t := by
  intro H enc w base spare held fuel cs x h
  obtain ⟨s, rfl, -, hs⟩ := DataW.trod_string ht h
  exact ⟨s, .sc trivial .nil, hs⟩
theorem repl_flat {w : World} {A : Nat → Prop} {α : Type} {e : α → List DV} (a : Nat → α) (cs : Nat → List Value) : ∀ n, (∀ i, i < n → RepL w A (cs i) (e (a i))) → RepL w A ((List.range n).map cs).flatten (((List.range n).map a).map e).flatten := by
  intro n
  induction n with
  | zero => intro _; exact .nil
  | succ n ih =>
    intro h
    simp only [List.range_succ, List.map_append, List.map_cons, List.map_nil, List.flatten_append, List.flatten_cons, List.flatten_nil, List.append_nil]
    exact (ih fun i hi => h i (by omega)).app (h n (by omega))
theorem slice_core {w : World} {α : Type} {e : α → List DV} {Ok : α → Prop} {k : Nat} (te : TypeId) (hk : 0 < k) (hl : ∀ a, (e a).length = k) {a : Addr} {len cap base : Nat} (hle : len ≤ cap) (hm : cap ≤ 9223372036854775807)
    (hi : ∀ i, i < len → ∃ cs', w.cells? base (a.add (i * k)) k = some cs' ∧ ∃ y, RepL w (· < w.heap.size) cs' (e y) ∧ Ok y) :
    ∃ l : List α, RepL w (· < w.heap.size) [.slice (some a) len cap] [.sl te k (l.map e)] ∧ l.length ≤ 9223372036854775807 ∧ ∀ x ∈ l, Ok x := by
  rcases Nat.eq_zero_or_pos len with h0 | h0
  · subst h0
    exact ⟨[], .sl0 hm .nil, by simp, by simp⟩
  · have hch : ∀ i, i < len → ∃ p : α × List Value, RepL w (· < w.heap.size) p.2 (e p.1) ∧ Ok p.1 ∧ ∀ j, j < k → w.cell? (a.add (i * k + j)) = p.2[j]? := by
      intro i hil
      obtain ⟨cs', hcs, y, hR, hOk⟩ := hi i hil
      obtain ⟨-, hcl, hat⟩ := World.cells?_some hcs
      exact ⟨(y, cs'), hR, hOk, fun j hj => by rw [← add_add']; exact hat j hj⟩
    have hdef : ∃ p : α × List Value, True := ⟨(hch 0 h0).choose, trivial⟩
    obtain ⟨p0, -⟩ := hdef
    have hch2 : ∀ i, ∃ p : α × List Value, i < len → RepL w (· < w.heap.size) p.2 (e p.1) ∧ Ok p.1 ∧ ∀ j, j < k → w.cell? (a.add (i * k + j)) = p.2[j]? := by
      intro i
      by_cases h : i < len
      · obtain ⟨p, hp⟩ := hch i h; exact ⟨p, fun _ => hp⟩
      · exact ⟨p0, fun h' => (h h').elim⟩
    obtain ⟨f, hf⟩ := Classical.axiomOfChoice hch2
    have hspot : a.spot = none := by
      have hcl : (f 0).2.length = k := by rw [(hf 0 h0).1.len, hl]
      have hc0 := (hf 0 h0).2.2 0 hk
      rw [List.getElem?_eq_getElem (by omega)] at hc0
      cases hs : a.spot with
      | none => rfl
      | some q =>
        unfold World.cell? Addr.add at hc0
        simp [hs] at hc0
        split at hc0 <;> simp at hc0
    obtain ⟨b, off, sp⟩ := a
    simp only at hspot
    subst hspot
    have hadd : ∀ j, (⟨b, off, none⟩ : Addr).add j = ⟨b, off + j, none⟩ := by
      intro j; unfold Addr.add; split
      · next h => rw [h]; rfl
      · rfl
    have hlen : ∀ c ∈ ((List.range len).map fun i => (f i).2), c.length = k := by
      intro c hc
      obtain ⟨i, hi, rfl⟩ := List.mem_map.1 hc
      rw [(hf i (List.mem_range.1 hi)).1.len, hl]
    have hR := repl_flat (w := w) (A := (· < w.heap.size)) (e := e) (fun i => (f i).1) (fun i => (f i).2) len (fun i hi => (hf i hi).1)
    have hat : At w b off ((List.range len).map fun i => (f i).2).flatten := by
      intro j u hu
      have hjl : j < len * k := by
        have := (List.getElem?_eq_some_iff.1 hu).1
        rw [flat_length hlen] at this; simpa using this
      have hi : j / k < len := Nat.div_lt_of_lt_mul (by rw [Nat.mul_comm]; exact hjl)
      have h3 := (hf _ hi).2.2 (j % k) (Nat.mod_lt _ hk)
      rw [Nat.mul_comm, Nat.div_add_mod, hadd] at h3
      rw [h3]
      have hg : ((List.range len).map fun i => (f i).2)[j / k]? = some (f (j / k)).2 := by simp [List.getElem?_map, List.getElem?_range hi]
      have hfa := flat_at hlen hg
      have : ((((List.range len).map fun i => (f i).2).flatten.drop (j / k * k)).take k)[j % k]? = some u := by
        rw [List.getElem?_take, if_pos (Nat.mod_lt _ hk), List.getElem?_drop, Nat.mul_comm, Nat.div_add_mod]; exact hu
      rw [hfa] at this; exact this
    have hcell0 : w.cell? ⟨b, off, none⟩ ≠ none := by
      have hcl : (f 0).2.length = k := by rw [(hf 0 h0).1.len, hl]
      have hc0 := (hf 0 h0).2.2 0 hk
      rw [List.getElem?_eq_getElem (by omega), hadd] at hc0
      simp only [Nat.zero_mul, Nat.add_zero] at hc0
      rw [hc0]; simp
    refine ⟨(List.range len).map fun i => (f i).1, .sl (A := (· < w.heap.size)) ?_ (by simp) h0 hle hm hk (by intro c hc; obtain ⟨x, _, rfl⟩ := List.mem_map.1 hc; exact hl x) hR hat .nil, ?_, ?_⟩
    · apply Classical.byContradiction
      intro hb
      apply hcell0
      have hn : w.heap[b]? = none := by simp; omega
      simp [World.cell?, hn]
    · simp; omega
    · intro x hx
      obtain ⟨i, hi, rfl⟩ := List.mem_map.1 hx
      exact (hf i (List.mem_range.1 hi)).2.1
theorem opD_slice {α : Type} {e : α → List DV} {Ok : α → Prop} {el : TypeId} {k : Nat} (te : TypeId) (ht : P.underlying t = some (.slice el)) (hc : P.cellsOf el = k) (hk : 0 < k) (hl : ∀ a, (e a).length = k) (ho : OpD e Ok P el) :
    OpD (fun l : List α => [.sl te k (l.map e)]) (fun l => l.length ≤ 9223372036854775807 ∧ ∀ x ∈ l, Ok x) P t := by
  intro H enc w base spare held fuel cs x h
  rcases open_slice ht h with ⟨rfl, -⟩ | ⟨a, len, cap, m, n, D, Pl, rfl, hb, hle, hm, hmm, hx, hi⟩
  · exact ⟨[], .sl0 (Nat.zero_le _) .nil, by simp, by simp⟩
  · rw [hc] at hi
    have hlm : len ≤ m := by rw [hmm]; split <;> omega
    exact slice_core te hk hl hle hm fun i hil => by
      obtain ⟨cs', hcs, htr⟩ := hi i (by omega)
      exact ⟨cs', hcs, ho H enc w base spare held n cs' _ htr⟩
theorem open_flds {H : Type} {enc : TypeId × Value → H} {w : World} {base : Nat} {spare : Nat → Bool} {held : Bool} {fuel : Nat} {cs : List Value} {x : DataW H × List MemPlace} {fs : Array Field}
    (ht : P.underlying t = some (.struct fs)) (h : DataW.trod enc P w base spare held fuel t cs = some x) :
    cs.length = P.cellsOf t ∧ ∃ n, ∀ (j : Nat) (f : Field), fs[j]? = some f → ∃ y : DataW H × List MemPlace, DataW.trod enc P w base spare held n f.type ((cs.drop f.offset).take (P.cellsOf f.type)) = some y := by
  obtain ⟨ys, n, hn, hy, hlen, hyl, hf⟩ := DataW.trod_struct ht h
  refine ⟨hlen, n, fun j f hj => ?_⟩
  have hjl : j < fs.size := (Array.getElem?_eq_some_iff.1 hj).1
  exact ⟨ys[j]'(by omega), by rw [hf j f hj]; exact List.getElem?_eq_getElem (by omega)⟩
theorem repl_cut {w : World} {A : Nat → Prop} {cs : List Value} {o k : Nat} {d ds : List DV} (h : RepL w A ((cs.drop o).take k) d) (r : RepL w A (cs.drop (o + k)) ds) : RepL w A (cs.drop o) (d ++ ds) := by
  have := h.app r
  rwa [← List.drop_drop, List.take_append_drop] at this
theorem repl_at {w : World} {A : Nat → Prop} {cs : List Value} {o o' c k : Nat} {d : List DV} (h : RepL w A ((cs.drop o).take c) d) (ho : o = o') (hc : c = k) : RepL w A ((cs.drop o').take k) d := by subst ho hc; exact h
theorem repl_end {w : World} {A : Nat → Prop} {cs : List Value} {c k : Nat} (h : cs.length = c) (hc : c = k) : RepL w A (cs.drop k) [] := by
  subst hc; rw [List.drop_of_length_le (by omega)]; exact .nil
theorem argD_one {α : Type} {e : α → List DV} {Ok : α → Prop} (ho : OpD e Ok P t) {H : Type} {enc : TypeId × Value → H} {w : World} {base b : Nat} {spare : Nat → Bool} {held : Bool} {v : Value} {d : DataW H} {p : List MemPlace}
    (hv : v.cells.toList = [v]) (h : DataW.Trod enc P w b spare held t v d p) : ∃ a, ArgR w (· < w.heap.size) v (false, e a) ∧ Ok a := by
  obtain ⟨fuel, hf⟩ := h
  obtain ⟨a, hr, hk⟩ := ho H enc w b spare held fuel _ _ hf
  rw [hv] at hr
  exact ⟨a, hr, hk⟩
theorem argD_sl {α : Type} {e : α → List DV} {Ok : α → Prop} (ho : OpD e Ok P t) {el : TypeId} (ht : P.underlying t = some (.slice el)) {H : Type} {enc : TypeId × Value → H} {w : World} {base b : Nat} {spare : Nat → Bool} {held : Bool} {v : Value} {d : DataW H} {p : List MemPlace}
    (h : DataW.Trod enc P w b spare held t v d p) (ok : Value.okWide P w .any base t v) : ∃ a, ArgR w (· < w.heap.size) v (false, e a) ∧ Ok a := by
  obtain ⟨_, _, _, rfl⟩ := okWide_slice ht ok
  exact argD_one (base := base) ho rfl h
end
theorem run_law {P : Program} {f : FuncId} {args : List (Bool × List DV)} {v : Value} (h : Meets P f args [(false, [.sc v], true)]) {w : World} {vs : List Value} (ha : ArgsR w (· < w.heap.size) vs args) :
    Calls P f vs.toArray w fun e w' => e = .returned v ∧ Below w.heap.size w w' := by
  refine (h.2 w (· < w.heap.size) vs (fun _ h => h) ha).mono ?_
  rintro e w' ⟨u, rfl, ⟨us, fs, h1, h2, h3, -, h4⟩, hb⟩
  refine ⟨?_, hb⟩
  have h1 : us = [u] := h1
  subst h1
  match fs, h3 with
  | [f'], _ =>
    obtain ⟨vals, e1, e2⟩ := h4 0 u _ f' rfl rfl rfl
    have e1 : vals = [u] := e1
    subst e1
    have e2 : OwnL w' w.heap.size [u] [.sc v] f' := e2
    rw [(RepL.scOf e2.rep).1]
end Go.Proofs.Ytfdpkdfmkedkmaa

namespace Go.Proofs.Ytfdpkdfmkedkmaa
open Go.RowKit
def szF (left : Int) (wt : Nat) : Int := if (wt : Int) ≤ left then left - wt else -1
theorem szF_le {left : Int} {wt : Nat} (h : (wt : Int) ≤ left) : szF left wt = left - wt := if_pos h
theorem szF_gt {left : Int} {wt : Nat} (h : left < wt) : szF left wt = -1 := if_neg (by omega)
def fillL {α : Type} (l : List α) (k : Nat) (z : α) : List α := l.take k ++ List.replicate (l.length - k) z
theorem fillL_len {α : Type} {l : List α} {k : Nat} {z : α} (h : k ≤ l.length) : (fillL l k z).length = l.length := by simp [fillL]; omega
theorem fillL_get {α : Type} {l : List α} {k : Nat} {z : α} (h : k < l.length) : (fillL l k z)[k]? = some z := by
  unfold fillL
  rw [List.getElem?_append_right (by simp; omega), List.length_take, Nat.min_eq_left (by omega), Nat.sub_self, List.getElem?_replicate, if_pos (by omega)]
theorem fillL_set {α : Type} {l : List α} {k : Nat} {x z : α} (h : l[k]? = some x) : (fillL l k z).set k x = fillL l (k + 1) z := by
  have hk : k < l.length := (List.getElem?_eq_some_iff.1 h).1
  apply List.ext_getElem?
  intro j
  rw [List.getElem?_set]
  unfold fillL
  by_cases hj : k = j
  · subst hj
    rw [if_pos rfl, if_pos (by simp; omega), List.getElem?_append_left (by simp; omega)]
    rw [List.getElem?_take, if_pos (by omega), h]
  · rw [if_neg hj]
    by_cases hlt : j < k
    · rw [List.getElem?_append_left (by simp; omega), List.getElem?_append_left (by simp; omega), List.getElem?_take, List.getElem?_take, if_pos hlt, if_pos (by omega)]
    · rw [List.getElem?_append_right (by simp; omega), List.getElem?_append_right (by simp; omega)]
      simp only [List.length_take, List.getElem?_replicate]
      have e1 : (j - min k l.length < l.length - k) ↔ (j - min (k + 1) l.length < l.length - (k + 1)) := by omega
      by_cases h2 : j - min k l.length < l.length - k
      · rw [if_pos h2, if_pos (e1.1 h2)]
      · rw [if_neg h2, if_neg (fun h => h2 (e1.2 h))]
theorem fillL_end {α : Type} (l : List α) (z : α) : fillL l l.length z = l := by simp [fillL]
end Go.Proofs.Ytfdpkdfmkedkmaa

namespace Go.Proofs.Ytfdpkdfmkedkmaa
open Go.RowKit
set_option maxRecDepth 100000
def sumOf {α : Type} (f : α → Nat) : List α → Nat
  | [] => 0
  | x :: l => f x + sumOf f l
theorem sumOf_app {α : Type} (f : α → Nat) (l m : List α) : sumOf f (l ++ m) = sumOf f l + sumOf f m := by
  induction l with
  | nil => simp [sumOf]
  | cons x l ih => simp only [List.cons_append, sumOf, ih]; omega
theorem sumOf_take {α : Type} [Inhabited α] (f : α → Nat) {l : List α} {i : Nat} (h : i < l.length) : sumOf f (l.take (i + 1)) = sumOf f (l.take i) + f (l.getD i default) := by
  rw [List.take_succ_eq_append_getElem h, sumOf_app, List.getD_eq_getElem?_getD, List.getElem?_eq_getElem h]; simp [sumOf]
theorem sumOf_le {α : Type} (f : α → Nat) (l : List α) (i : Nat) : sumOf f (l.take i) ≤ sumOf f l := by
  have := sumOf_app f (l.take i) (l.drop i)
  rw [List.take_append_drop] at this; omega
theorem sumOf_mem {α : Type} (f : α → Nat) {l : List α} {x : α} (h : x ∈ l) : f x ≤ sumOf f l := by
  induction l with
  | nil => cases h
  | cons y l ih => rcases List.mem_cons.1 h with rfl | h
                   · simp [sumOf]
                   · have := ih h; simp only [sumOf]; omega
theorem getD_mem {α : Type} [Inhabited α] {l : List α} {i : Nat} (h : i < l.length) : l.getD i default ∈ l := by
  rw [List.getD_eq_getElem?_getD, List.getElem?_eq_getElem h]; exact List.getElem_mem h
theorem fill0 {α β : Type} (l : List α) (e : α → β) (z : β) : List.replicate l.length z = fillL (l.map e) 0 z := by simp [fillL]
theorem fillL_endm {α β : Type} (l : List α) (e : α → β) (z : β) : fillL (l.map e) l.length z = l.map e := by have := fillL_end (l.map e) z; rwa [List.length_map] at this
theorem e_fill {α : Type} [Inhabited α] {e : α → List DV} {l : List α} {t k i : Nat} {kd : IntKind} {z ds : List DV} (hd : ds = e (l.getD i default)) (hz : z.length = k) (he : ∀ x, (e x).length = k) (h : i < l.length) :
    eSet k 0 (some (.sl t k (fillL (l.map e) i z))) (some (.sc (.int kd (i : Int)))) (some ds) = some [.sl t k (fillL (l.map e) (i + 1) z)] := by
  subst hd
  have h1 : (l.map e)[i]? = some (e (l.getD i default)) := by rw [List.getElem?_map, getD_some h]; rfl
  rw [e_set (e := z) (by omega) (by rw [he]; omega) (by rw [Int.toNat_natCast]; exact fillL_get (by simpa using h)), Int.toNat_natCast]
  have h2 : plug 0 (e (l.getD i default)) z = e (l.getD i default) := by
    unfold plug
    simp only [List.take_zero, List.nil_append, Nat.zero_add]
    rw [List.drop_of_length_le (by rw [he, hz]; exact Nat.le_refl _), List.append_nil]
  rw [h2, fillL_set h1]
theorem e_chkF {α : Type} {e : α → List DV} {l : List α} {t k i : Nat} {kd : IntKind} {z : List DV} (h : i < l.length) : eChk k (some (.sl t k (fillL (l.map e) i z))) (some (.sc (.int kd (i : Int)))) = some [] :=
  e_chk (by omega) (by rw [fillL_len (by simp; omega)]; simp; omega)
theorem e_makeL {α : Type} {e : α → List DV} {l : List α} {el k b : Nat} {zz : List DV} (h1 : l.length ≤ 1000000000) (hb : b ≤ 140) : eMake el k b zz (some (.sc (.int .i64 (l.length : Int)))) = some [.sl el k (fillL (l.map e) 0 zz)] := by
  rw [e_make (by omega) (by omega) hb, ← fill0, Int.toNat_natCast]
def wtSs (l : List ByteArray) : Nat := l.length + sumOf ByteArray.size l
def OkSs (l : List ByteArray) : Prop := l.length ≤ 9223372036854775807 ∧ ∀ s ∈ l, s.size ≤ 9223372036854775807
theorem wtSs_len {l : List ByteArray} {n : Nat} (h : wtSs l ≤ n) : l.length ≤ n := by unfold wtSs at h; omega
theorem wtSs_size {l : List ByteArray} {n : Nat} (h : wtSs l ≤ n) : ∀ s ∈ l, s.size ≤ n := fun s hs => by have := sumOf_mem ByteArray.size hs; unfold wtSs at h; omega
theorem hasB_take {F : List ByteArray} {i : Nat} (h : i < F.length) : hasB (F.take i) (F.getD i default) = decide (find1 F (F.getD i default) < i) := by
  have hm := getD_mem (l := F) h
  rcases find1_spec F (F.getD i default) with ⟨_, h2⟩ | ⟨k, h1, h2, h3⟩
  · exact absurd hm h2
  · rw [h1]
    rw [Bool.eq_iff_iff, hasB_iff, decide_eq_true_eq]
    constructor
    · intro hx
      obtain ⟨j, hj⟩ := List.getElem?_of_mem hx
      have hj2 := (List.getElem?_eq_some_iff.1 hj).1
      rw [List.length_take] at hj2
      rw [List.getElem?_take, if_pos (by omega)] at hj
      rcases Nat.lt_or_ge j k with g | g
      · exact absurd hj (h3 j g)
      · omega
    · intro hk
      refine List.mem_of_getElem? (i := k) ?_
      rw [List.getElem?_take, if_pos (by omega)]; exact h2
theorem opD_Ss : OpD (fun l => [encSs l]) OkSs Try.prog 24 := opD_slice (e := encS) 9 Try.underlying24 (by kernel_rfl) (by decide) (fun _ => rfl) (opD_str Try.underlying9)
theorem szSs_m (l : List ByteArray) (left : Int) (ok : OkSs l) (h0 : 0 ≤ left) (h1 : left ≤ 1048576) : Meets Try.prog 38 [(false, [encSs l]), (false, [.sc (.int .i64 left)])] [(false, [.sc (.int .i64 (szF left (wtSs l)))], true)] := by
  obtain ⟨k1, k2⟩ := ok
  refine meets_upf Try.func38 u_laws_szStringS_g rfl ?_; simp only [u_laws_szStringS_u]
  simp only [encSs]
  simp (disch := first | omega | (simp only [List.length_take, List.length_drop, List.length_append, List.map_cons, List.map_nil, List.length_map, List.length_cons, List.length_nil, List.length_set, List.length_replicate]; omega) | (simp only [List.length_cons, List.length_nil, Nat.zero_add, Nat.reduceAdd])) only [go_sem, ↓reduceIte, Nat.reduceAdd, Int.reduceNeg, Int.reduceAdd, Int.reduceSub, Int.reduceMul, Int.reduceLT, Int.reduceLE, Int.reduceEq, Int.reduceToNat, Nat.reduceBEq, e_sle, e_sge, e_shl1, e_orI, e_andI, e_shr, wrapu, wrap8, tn1, nat1, ix_s, ix_z, st_s, st_z, fl_s, fl_z, fl1_s, fl1_z, map_s, map_z, true_and]
  refine br_if (fun hbr => ?_) (fun hbr => ?_)
  · simp (disch := first | omega | (simp only [List.length_take, List.length_drop, List.length_append, List.map_cons, List.map_nil, List.length_map, List.length_cons, List.length_nil, List.length_set, List.length_replicate]; omega) | (simp only [List.length_cons, List.length_nil, Nat.zero_add, Nat.reduceAdd])) only [go_sem, ↓reduceIte, Nat.reduceAdd, Int.reduceNeg, Int.reduceAdd, Int.reduceSub, Int.reduceMul, Int.reduceLT, Int.reduceLE, Int.reduceEq, Int.reduceToNat, Nat.reduceBEq, e_sle, e_sge, e_shl1, e_orI, e_andI, e_shr, wrapu, wrap8, tn1, nat1, ix_s, ix_z, st_s, st_z, fl_s, fl_z, fl1_s, fl1_z, map_s, map_z, true_and]
    exact ret_z (szF_gt (by unfold wtSs; omega))
  simp (disch := first | omega | (simp only [List.length_take, List.length_drop, List.length_append, List.map_cons, List.map_nil, List.length_map, List.length_cons, List.length_nil, List.length_set, List.length_replicate]; omega) | (simp only [List.length_cons, List.length_nil, Nat.zero_add, Nat.reduceAdd])) only [go_sem, ↓reduceIte, Nat.reduceAdd, Int.reduceNeg, Int.reduceAdd, Int.reduceSub, Int.reduceMul, Int.reduceLT, Int.reduceLE, Int.reduceEq, Int.reduceToNat, Nat.reduceBEq, e_sle, e_sge, e_shl1, e_orI, e_andI, e_shr, wrapu, wrap8, tn1, nat1, ix_s, ix_z, st_s, st_z, fl_s, fl_z, fl1_s, fl1_z, map_s, map_z, true_and]
  refine lp (fun i : Nat => [.sc (.int .i64 i), .sc (.int .i64 (left - (l.length : Int) - (sumOf ByteArray.size (l.take i) : Nat)))]) (fun i => i ≤ l.length ∧ (sumOf ByteArray.size (l.take i) : Nat) ≤ left - (l.length : Int)) (fun i => l.length - i) 0 (by simp [gL, sumOf]) ⟨by omega, by simp [sumOf]; omega⟩ ?_
  rintro i ⟨hi, hs⟩
  simp only [u_laws_szStringS_l0]
  by_cases hlt : i < l.length
  · have h3 := sumOf_take ByteArray.size hlt
    have h4 := k2 _ (getD_mem hlt)
    have h5 := sumOf_le ByteArray.size l (i + 1)
    repeat' (first | (with_reducible refine jn_in ?_) | (with_reducible refine cl_ok (by assumption) rfl ?_) | (with_reducible refine cl_okP (by assumption) rfl ?_) | (with_reducible refine br_if (fun hbr => ?_) (fun hbr => ?_)) | (with_reducible refine br_ifn (fun hbr => ?_) (fun hbr => ?_)) | (with_reducible refine br_nb (fun hbr => ?_) (fun hbr => ?_)) | (with_reducible refine br_b (fun hbr => ?_) (fun hbr => ?_)) | simp (disch := first | omega | (simp only [List.length_take, List.length_drop, List.length_append, List.map_cons, List.map_nil, List.length_map, List.length_cons, List.length_nil, List.length_set, List.length_replicate]; omega) | (simp only [List.length_cons, List.length_nil, Nat.zero_add, Nat.reduceAdd])) only [go_sem, ↓reduceIte, Nat.reduceAdd, Int.reduceNeg, Int.reduceAdd, Int.reduceSub, Int.reduceMul, Int.reduceLT, Int.reduceLE, Int.reduceEq, Int.reduceToNat, Nat.reduceBEq, e_sle, e_sge, e_shl1, e_orI, e_andI, e_shr, wrapu, wrap8, tn1, nat1, ix_s, ix_z, st_s, st_z, fl_s, fl_z, fl1_s, fl1_z, map_s, map_z, show left - (l.length : Int) - (sumOf ByteArray.size (l.take i) : Nat) - ((l.getD i default).size : Int) = left - (l.length : Int) - (sumOf ByteArray.size (l.take (i + 1)) : Nat) from by omega])
    · exact ret_z (szF_gt (by unfold wtSs; omega))
    · exact ⟨i + 1, rfl, ⟨by omega, by omega⟩, by omega⟩
    · omega
  · obtain rfl : i = l.length := by omega
    rw [List.take_length] at hs ⊢
    repeat' (first | (with_reducible refine jn_in ?_) | (with_reducible refine cl_ok (by assumption) rfl ?_) | (with_reducible refine cl_okP (by assumption) rfl ?_) | (with_reducible refine br_if (fun hbr => ?_) (fun hbr => ?_)) | (with_reducible refine br_ifn (fun hbr => ?_) (fun hbr => ?_)) | (with_reducible refine br_nb (fun hbr => ?_) (fun hbr => ?_)) | (with_reducible refine br_b (fun hbr => ?_) (fun hbr => ?_)) | simp (disch := first | omega | (simp only [List.length_take, List.length_drop, List.length_append, List.map_cons, List.map_nil, List.length_map, List.length_cons, List.length_nil, List.length_set, List.length_replicate]; omega) | (simp only [List.length_cons, List.length_nil, Nat.zero_add, Nat.reduceAdd])) only [go_sem, ↓reduceIte, Nat.reduceAdd, Int.reduceNeg, Int.reduceAdd, Int.reduceSub, Int.reduceMul, Int.reduceLT, Int.reduceLE, Int.reduceEq, Int.reduceToNat, Nat.reduceBEq, e_sle, e_sge, e_shl1, e_orI, e_andI, e_shr, wrapu, wrap8, tn1, nat1, ix_s, ix_z, st_s, st_z, fl_s, fl_z, fl1_s, fl1_z, map_s, map_z, true_and])
    all_goals first | omega | exact ret_z (by rw [szF_le (by unfold wtSs; omega)]; unfold wtSs; omega)
theorem toSs_m (l : List ByteArray) (h : l.length ≤ 1048576) : Meets Try.prog 41 [(false, [encSs l])] [(false, [encSs l], true)] := by
  refine meets_upf Try.func41 u_laws_toStringS_g rfl ?_; simp only [u_laws_toStringS_u]
  simp only [encSs]
  have hm := fun b (hb : b ≤ 140) => e_makeL (e := encS) (l := l) (el := 9) (k := 1) (b := b) (zz := [.sc (.string ⟨#[]⟩)]) (by omega) hb
  have hm1 := hm 16 (by decide)
  simp (disch := first | omega | (simp only [List.length_take, List.length_drop, List.length_append, List.map_cons, List.map_nil, List.length_map, List.length_cons, List.length_nil, List.length_set, List.length_replicate]; omega) | (simp only [List.length_cons, List.length_nil, Nat.zero_add, Nat.reduceAdd])) only [go_sem, ↓reduceIte, Nat.reduceAdd, Int.reduceNeg, Int.reduceAdd, Int.reduceSub, Int.reduceMul, Int.reduceLT, Int.reduceLE, Int.reduceEq, Int.reduceToNat, Nat.reduceBEq, e_sle, e_sge, e_shl1, e_orI, e_andI, e_shr, wrapu, wrap8, tn1, nat1, ix_s, ix_z, st_s, st_z, fl_s, fl_z, fl1_s, fl1_z, map_s, map_z, hm1]
  refine lp_n l.length (fun i => [.sc (.int .i64 i), .sl 9 1 (fillL (l.map encS) i [.sc (.string ⟨#[]⟩)])]) rfl fun i hi => ?_
  simp only [u_laws_toStringS_l0]
  by_cases hlt : i < l.length
  · have e1 := e_chkF (e := encS) (t := 9) (k := 1) (kd := .i64) (z := [.sc (.string ⟨#[]⟩)]) hlt
    have e2 := e_fill (e := encS) (t := 9) (k := 1) (kd := .i64) (z := [.sc (.string ⟨#[]⟩)]) rfl rfl (fun _ => rfl) hlt
    simp only [encS] at e2
    repeat' (first | (with_reducible refine jn_in ?_) | (with_reducible refine cl_ok (by assumption) rfl ?_) | (with_reducible refine cl_okP (by assumption) rfl ?_) | (with_reducible refine br_if (fun hbr => ?_) (fun hbr => ?_)) | (with_reducible refine br_ifn (fun hbr => ?_) (fun hbr => ?_)) | (with_reducible refine br_nb (fun hbr => ?_) (fun hbr => ?_)) | (with_reducible refine br_b (fun hbr => ?_) (fun hbr => ?_)) | simp (disch := first | omega | (simp only [List.length_take, List.length_drop, List.length_append, List.map_cons, List.map_nil, List.length_map, List.length_cons, List.length_nil, List.length_set, List.length_replicate]; omega) | (simp only [List.length_cons, List.length_nil, Nat.zero_add, Nat.reduceAdd])) only [go_sem, ↓reduceIte, Nat.reduceAdd, Int.reduceNeg, Int.reduceAdd, Int.reduceSub, Int.reduceMul, Int.reduceLT, Int.reduceLE, Int.reduceEq, Int.reduceToNat, Nat.reduceBEq, e_sle, e_sge, e_shl1, e_orI, e_andI, e_shr, wrapu, wrap8, tn1, nat1, ix_s, ix_z, st_s, st_z, fl_s, fl_z, fl1_s, fl1_z, map_s, map_z, e1, encS, e2])
    · omega
    · omega
  · obtain rfl : i = l.length := by omega
    repeat' (first | (with_reducible refine jn_in ?_) | (with_reducible refine cl_ok (by assumption) rfl ?_) | (with_reducible refine cl_okP (by assumption) rfl ?_) | (with_reducible refine br_if (fun hbr => ?_) (fun hbr => ?_)) | (with_reducible refine br_ifn (fun hbr => ?_) (fun hbr => ?_)) | (with_reducible refine br_nb (fun hbr => ?_) (fun hbr => ?_)) | (with_reducible refine br_b (fun hbr => ?_) (fun hbr => ?_)) | simp (disch := first | omega | (simp only [List.length_take, List.length_drop, List.length_append, List.map_cons, List.map_nil, List.length_map, List.length_cons, List.length_nil, List.length_set, List.length_replicate]; omega) | (simp only [List.length_cons, List.length_nil, Nat.zero_add, Nat.reduceAdd])) only [go_sem, ↓reduceIte, Nat.reduceAdd, Int.reduceNeg, Int.reduceAdd, Int.reduceSub, Int.reduceMul, Int.reduceLT, Int.reduceLE, Int.reduceEq, Int.reduceToNat, Nat.reduceBEq, e_sle, e_sge, e_shl1, e_orI, e_andI, e_shr, wrapu, wrap8, tn1, nat1, ix_s, ix_z, st_s, st_z, fl_s, fl_z, fl1_s, fl1_z, map_s, map_z, fillL_endm])
    · omega
    · rfl
theorem eqSs_m (l : List ByteArray) (h : l.length ≤ 100000000000) : Meets Try.prog 10 [(false, [encSs l]), (false, [encSs l])] [(false, [.sc (.bool true)], true)] := by
  refine meets_upf Try.func10 u_laws_eqStringS_g rfl ?_; simp only [u_laws_eqStringS_u]
  simp only [encSs]
  simp (disch := first | omega | (simp only [List.length_take, List.length_drop, List.length_append, List.map_cons, List.map_nil, List.length_map, List.length_cons, List.length_nil, List.length_set, List.length_replicate]; omega) | (simp only [List.length_cons, List.length_nil, Nat.zero_add, Nat.reduceAdd])) only [go_sem, ↓reduceIte, Nat.reduceAdd, Int.reduceNeg, Int.reduceAdd, Int.reduceSub, Int.reduceMul, Int.reduceLT, Int.reduceLE, Int.reduceEq, Int.reduceToNat, Nat.reduceBEq, e_sle, e_sge, e_shl1, e_orI, e_andI, e_shr, wrapu, wrap8, tn1, nat1, ix_s, ix_z, st_s, st_z, fl_s, fl_z, fl1_s, fl1_z, map_s, map_z, eq_self]
  refine lp_n l.length (fun i => [.sc (.int .i64 i)]) rfl fun i hi => ?_
  simp only [u_laws_eqStringS_l0]
  repeat' (first | (with_reducible refine jn_in ?_) | (with_reducible refine cl_ok (by assumption) rfl ?_) | (with_reducible refine cl_okP (by assumption) rfl ?_) | (with_reducible refine br_if (fun hbr => ?_) (fun hbr => ?_)) | (with_reducible refine br_ifn (fun hbr => ?_) (fun hbr => ?_)) | (with_reducible refine br_nb (fun hbr => ?_) (fun hbr => ?_)) | (with_reducible refine br_b (fun hbr => ?_) (fun hbr => ?_)) | simp (disch := first | omega | (simp only [List.length_take, List.length_drop, List.length_append, List.map_cons, List.map_nil, List.length_map, List.length_cons, List.length_nil, List.length_set, List.length_replicate]; omega) | (simp only [List.length_cons, List.length_nil, Nat.zero_add, Nat.reduceAdd])) only [go_sem, ↓reduceIte, Nat.reduceAdd, Int.reduceNeg, Int.reduceAdd, Int.reduceSub, Int.reduceMul, Int.reduceLT, Int.reduceLE, Int.reduceEq, Int.reduceToNat, Nat.reduceBEq, e_sle, e_sge, e_shl1, e_orI, e_andI, e_shr, wrapu, wrap8, tn1, nat1, ix_s, ix_z, st_s, st_z, fl_s, fl_z, fl1_s, fl1_z, map_s, map_z, eq_self])
  · omega
  · rfl
end Go.Proofs.Ytfdpkdfmkedkmaa

namespace Go.Proofs.Ytfdpkdfmkedkmaa
open Go.RowKit Go.ChangeShapes Go.WideShapes Go.Deep
set_option maxRecDepth 100000
structure Nod where
  kind : Int
  num : Int
  text : ByteArray
  labels : List ByteArray
  kids : Int
  deriving DecidableEq
instance : Inhabited Nod := ⟨⟨default, default, default, default, default⟩⟩
def encNod (x : Nod) : List DV := [.sc (.int .i64 x.kind), .sc (.int .i64 x.num), .sc (.string x.text), encSs x.labels, .sc (.int .i64 x.kids)]
def encNods (l : List Nod) : DV := .sl 41 5 (l.map encNod)
def encNodsL (l : List Nod) : DV := .sl 39 5 (l.map encNod)
def wtNod (x : Nod) : Nat := x.text.size + wtSs x.labels
def OkNod (x : Nod) : Prop := In64 x.kind ∧ In64 x.num ∧ x.text.size ≤ 9223372036854775807 ∧ OkSs x.labels ∧ In64 x.kids
def wtNods (l : List Nod) : Nat := l.length + sumOf wtNod l
def OkNods (l : List Nod) : Prop := l.length ≤ 9223372036854775807 ∧ ∀ x ∈ l, OkNod x
theorem ix_Nod {t : Nat} {l : List Nod} {kd : IntKind} {z : Int} (h : 0 ≤ z) (h1 : z < l.length) : eIdx 5 (some (.sl t 5 (l.map encNod))) (some (.sc (.int kd z))) = some (encNod (l.getD z.toNat default)) := e_idx_map (fun _ => rfl) h h1
theorem opD_Nod : OpD encNod OkNod Try.prog 39 := by
  intro H enc w base spare held fuel cs x h
  obtain ⟨hl, n, hf⟩ := open_flds Try.underlying39 h
  obtain ⟨y0, t0⟩ := hf 0 _ rfl
  obtain ⟨a0, r0, i0⟩ := opD_int Try.underlying3 H enc w base spare held n _ _ t0
  obtain ⟨y1, t1⟩ := hf 1 _ rfl
  obtain ⟨a1, r1, i1⟩ := opD_int Try.underlying3 H enc w base spare held n _ _ t1
  obtain ⟨y2, t2⟩ := hf 2 _ rfl
  obtain ⟨a2, r2, i2⟩ := opD_str Try.underlying9 H enc w base spare held n _ _ t2
  obtain ⟨y3, t3⟩ := hf 3 _ rfl
  obtain ⟨a3, r3, i3⟩ := opD_Ss H enc w base spare held n _ _ t3
  obtain ⟨y4, t4⟩ := hf 4 _ rfl
  obtain ⟨a4, r4, i4⟩ := opD_int Try.underlying3 H enc w base spare held n _ _ t4
  exact ⟨⟨a0, a1, a2, a3, a4⟩, repl_cut (o := 0) (k := 1) (repl_at r0 rfl (by kernel_rfl)) (repl_cut (o := 1) (k := 1) (repl_at r1 rfl (by kernel_rfl)) (repl_cut (o := 2) (k := 1) (repl_at r2 rfl (by kernel_rfl)) (repl_cut (o := 3) (k := 1) (repl_at r3 rfl (by kernel_rfl)) (repl_cut (o := 4) (k := 1) (repl_at r4 rfl (by kernel_rfl)) (repl_end hl (by kernel_rfl)))))), i0, i1, i2, i3, i4⟩
theorem opD_Nods : OpD (fun l => [encNodsL l]) OkNods Try.prog 22 := opD_slice (e := encNod) 39 Try.underlying22 (by kernel_rfl) (by decide) (fun _ => rfl) opD_Nod
theorem szNod_m (x : Nod) (left : Int) (ok : OkNod x) (h0 : 0 ≤ left) (h1 : left ≤ 1048576) : Meets Try.prog 20 [(true, encNod x), (false, [.sc (.int .i64 left)])] [(false, [.sc (.int .i64 (szF left (wtNod x)))], true)] := by
  obtain ⟨x0, x1, x2, x3, x4⟩ := x
  obtain ⟨k0, k1, k2, k3, k4⟩ := ok
  simp only at k0 k1 k2 k3 k4
  refine meets_upf Try.func20 u_laws_szNode_g rfl ?_; simp only [u_laws_szNode_u]
  simp only [encNod]
  simp (disch := first | omega | (simp only [List.length_take, List.length_drop, List.length_append, List.map_cons, List.map_nil, List.length_map, List.length_cons, List.length_nil, List.length_set, List.length_replicate]; omega) | (simp only [List.length_cons, List.length_nil, Nat.zero_add, Nat.reduceAdd])) only [go_sem, ↓reduceIte, Nat.reduceAdd, Int.reduceNeg, Int.reduceAdd, Int.reduceSub, Int.reduceMul, Int.reduceLT, Int.reduceLE, Int.reduceEq, Int.reduceToNat, Nat.reduceBEq, e_sle, e_sge, e_shl1, e_orI, e_andI, e_shr, wrapu, wrap8, tn1, nat1, ix_s, ix_z, st_s, st_z, fl_s, fl_z, fl1_s, fl1_z, map_s, map_z, true_and]
  refine br_if (fun hbr => ?_) (fun hbr => ?_)
  · simp (disch := first | omega | (simp only [List.length_take, List.length_drop, List.length_append, List.map_cons, List.map_nil, List.length_map, List.length_cons, List.length_nil, List.length_set, List.length_replicate]; omega) | (simp only [List.length_cons, List.length_nil, Nat.zero_add, Nat.reduceAdd])) only [go_sem, ↓reduceIte, Nat.reduceAdd, Int.reduceNeg, Int.reduceAdd, Int.reduceSub, Int.reduceMul, Int.reduceLT, Int.reduceLE, Int.reduceEq, Int.reduceToNat, Nat.reduceBEq, e_sle, e_sge, e_shl1, e_orI, e_andI, e_shr, wrapu, wrap8, tn1, nat1, ix_s, ix_z, st_s, st_z, fl_s, fl_z, fl1_s, fl1_z, map_s, map_z, true_and]
    exact ret_z (szF_gt (by simp only [wtNod]; omega))
  simp (disch := first | omega | (simp only [List.length_take, List.length_drop, List.length_append, List.map_cons, List.map_nil, List.length_map, List.length_cons, List.length_nil, List.length_set, List.length_replicate]; omega) | (simp only [List.length_cons, List.length_nil, Nat.zero_add, Nat.reduceAdd])) only [go_sem, ↓reduceIte, Nat.reduceAdd, Int.reduceNeg, Int.reduceAdd, Int.reduceSub, Int.reduceMul, Int.reduceLT, Int.reduceLE, Int.reduceEq, Int.reduceToNat, Nat.reduceBEq, e_sle, e_sge, e_shl1, e_orI, e_andI, e_shr, wrapu, wrap8, tn1, nat1, ix_s, ix_z, st_s, st_z, fl_s, fl_z, fl1_s, fl1_z, map_s, map_z, true_and]
  refine cl_ok (szSs_m x3 (left - ((x2.size : Nat) : Int)) k3 (by omega) (by omega)) rfl ?_
  by_cases hwlabels : ((wtSs x3 : Nat) : Int) ≤ left - ((x2.size : Nat) : Int)
  rotate_left
  · have hs := szF_gt (left := left - ((x2.size : Nat) : Int)) (wt := wtSs x3) (by omega)
    simp (disch := first | omega | (simp only [List.length_take, List.length_drop, List.length_append, List.map_cons, List.map_nil, List.length_map, List.length_cons, List.length_nil, List.length_set, List.length_replicate]; omega) | (simp only [List.length_cons, List.length_nil, Nat.zero_add, Nat.reduceAdd])) only [go_sem, ↓reduceIte, Nat.reduceAdd, Int.reduceNeg, Int.reduceAdd, Int.reduceSub, Int.reduceMul, Int.reduceLT, Int.reduceLE, Int.reduceEq, Int.reduceToNat, Nat.reduceBEq, e_sle, e_sge, e_shl1, e_orI, e_andI, e_shr, wrapu, wrap8, tn1, nat1, ix_s, ix_z, st_s, st_z, fl_s, fl_z, fl1_s, fl1_z, map_s, map_z, hs]
    exact ret_z (szF_gt (by simp only [wtNod]; omega))
  have hslabels := szF_le hwlabels
  have hdlabels : decide (left - ((x2.size : Nat) : Int) - ((wtSs x3 : Nat) : Int) < 0) = false := decide_eq_false (by omega)
  simp (disch := first | omega | (simp only [List.length_take, List.length_drop, List.length_append, List.map_cons, List.map_nil, List.length_map, List.length_cons, List.length_nil, List.length_set, List.length_replicate]; omega) | (simp only [List.length_cons, List.length_nil, Nat.zero_add, Nat.reduceAdd])) only [go_sem, ↓reduceIte, Nat.reduceAdd, Int.reduceNeg, Int.reduceAdd, Int.reduceSub, Int.reduceMul, Int.reduceLT, Int.reduceLE, Int.reduceEq, Int.reduceToNat, Nat.reduceBEq, e_sle, e_sge, e_shl1, e_orI, e_andI, e_shr, wrapu, wrap8, tn1, nat1, ix_s, ix_z, st_s, st_z, fl_s, fl_z, fl1_s, fl1_z, map_s, map_z, hslabels, hdlabels]
  exact ret_z (by rw [szF_le (by simp only [wtNod]; omega)] <;> (simp only [wtNod]; try omega))
theorem szNods_m (l : List Nod) (left : Int) (ok : OkNods l) (h0 : 0 ≤ left) (h1 : left ≤ 1048576) : Meets Try.prog 6 [(false, [encNodsL l]), (false, [.sc (.int .i64 left)])] [(false, [.sc (.int .i64 (szF left (wtNods l)))], true)] := by
  obtain ⟨k1, k2⟩ := ok
  refine meets_upf Try.func6 u_laws_szNodeS_g rfl ?_; simp only [u_laws_szNodeS_u]
  simp only [encNodsL]
  simp (disch := first | omega | (simp only [List.length_take, List.length_drop, List.length_append, List.map_cons, List.map_nil, List.length_map, List.length_cons, List.length_nil, List.length_set, List.length_replicate]; omega) | (simp only [List.length_cons, List.length_nil, Nat.zero_add, Nat.reduceAdd])) only [go_sem, ↓reduceIte, Nat.reduceAdd, Int.reduceNeg, Int.reduceAdd, Int.reduceSub, Int.reduceMul, Int.reduceLT, Int.reduceLE, Int.reduceEq, Int.reduceToNat, Nat.reduceBEq, e_sle, e_sge, e_shl1, e_orI, e_andI, e_shr, wrapu, wrap8, tn1, nat1, ix_s, ix_z, st_s, st_z, fl_s, fl_z, fl1_s, fl1_z, map_s, map_z, true_and]
  refine br_if (fun hbr => ?_) (fun hbr => ?_)
  · simp (disch := first | omega | (simp only [List.length_take, List.length_drop, List.length_append, List.map_cons, List.map_nil, List.length_map, List.length_cons, List.length_nil, List.length_set, List.length_replicate]; omega) | (simp only [List.length_cons, List.length_nil, Nat.zero_add, Nat.reduceAdd])) only [go_sem, ↓reduceIte, Nat.reduceAdd, Int.reduceNeg, Int.reduceAdd, Int.reduceSub, Int.reduceMul, Int.reduceLT, Int.reduceLE, Int.reduceEq, Int.reduceToNat, Nat.reduceBEq, e_sle, e_sge, e_shl1, e_orI, e_andI, e_shr, wrapu, wrap8, tn1, nat1, ix_s, ix_z, st_s, st_z, fl_s, fl_z, fl1_s, fl1_z, map_s, map_z, true_and]
    exact ret_z (szF_gt (by unfold wtNods; omega))
  simp (disch := first | omega | (simp only [List.length_take, List.length_drop, List.length_append, List.map_cons, List.map_nil, List.length_map, List.length_cons, List.length_nil, List.length_set, List.length_replicate]; omega) | (simp only [List.length_cons, List.length_nil, Nat.zero_add, Nat.reduceAdd])) only [go_sem, ↓reduceIte, Nat.reduceAdd, Int.reduceNeg, Int.reduceAdd, Int.reduceSub, Int.reduceMul, Int.reduceLT, Int.reduceLE, Int.reduceEq, Int.reduceToNat, Nat.reduceBEq, e_sle, e_sge, e_shl1, e_orI, e_andI, e_shr, wrapu, wrap8, tn1, nat1, ix_s, ix_z, st_s, st_z, fl_s, fl_z, fl1_s, fl1_z, map_s, map_z, true_and]
  refine lp (fun i : Nat => [.sc (.int .i64 i), .sc (.int .i64 (left - (l.length : Int) - (sumOf wtNod (l.take i) : Nat)))]) (fun i => i ≤ l.length ∧ (sumOf wtNod (l.take i) : Nat) ≤ left - (l.length : Int)) (fun i => l.length - i) 0 (by simp [gL, sumOf]) ⟨by omega, by simp [sumOf]; omega⟩ ?_
  rintro i ⟨hi, hs⟩
  simp only [u_laws_szNodeS_l0]
  by_cases hlt : i < l.length
  · have h3 := sumOf_take wtNod hlt
    have h5 := sumOf_le wtNod l (i + 1)
    have hx := k2 _ (getD_mem hlt)
    have hix : eIdx 5 (some (.sl 39 5 (l.map encNod))) (some (.sc (.int .i64 (i : Int)))) = some (encNod (l.getD i default)) := by rw [ix_Nod (by omega) (by omega), Int.toNat_natCast]
    generalize l.getD i default = x at h3 hx hix
    have hc := szNod_m x (left - (l.length : Int) - (sumOf wtNod (l.take i) : Nat)) hx (by omega) (by omega)
    simp only [encNod] at hc hix
    by_cases hw : ((wtNod x : Nat) : Int) ≤ left - (l.length : Int) - (sumOf wtNod (l.take i) : Nat)
    · have hs1 := szF_le hw
      rw [hs1] at hc
      repeat' (first | (with_reducible refine jn_in ?_) | (with_reducible refine cl_ok (by assumption) rfl ?_) | (with_reducible refine cl_okP (by assumption) rfl ?_) | (with_reducible refine br_if (fun hbr => ?_) (fun hbr => ?_)) | (with_reducible refine br_ifn (fun hbr => ?_) (fun hbr => ?_)) | (with_reducible refine br_nb (fun hbr => ?_) (fun hbr => ?_)) | (with_reducible refine br_b (fun hbr => ?_) (fun hbr => ?_)) | simp (disch := first | omega | (simp only [List.length_take, List.length_drop, List.length_append, List.map_cons, List.map_nil, List.length_map, List.length_cons, List.length_nil, List.length_set, List.length_replicate]; omega) | (simp only [List.length_cons, List.length_nil, Nat.zero_add, Nat.reduceAdd])) only [go_sem, ↓reduceIte, Nat.reduceAdd, Int.reduceNeg, Int.reduceAdd, Int.reduceSub, Int.reduceMul, Int.reduceLT, Int.reduceLE, Int.reduceEq, Int.reduceToNat, Nat.reduceBEq, e_sle, e_sge, e_shl1, e_orI, e_andI, e_shr, wrapu, wrap8, tn1, nat1, ix_s, ix_z, st_s, st_z, fl_s, fl_z, fl1_s, fl1_z, map_s, map_z, hix])
      all_goals first | omega | exact ret_z (szF_gt (by unfold wtNods; omega)) | exact ⟨i + 1, by congr 4; omega, ⟨by omega, by omega⟩, by omega⟩
    · have hs1 := szF_gt (left := left - (l.length : Int) - (sumOf wtNod (l.take i) : Nat)) (wt := wtNod x) (by omega)
      rw [hs1] at hc
      repeat' (first | (with_reducible refine jn_in ?_) | (with_reducible refine cl_ok (by assumption) rfl ?_) | (with_reducible refine cl_okP (by assumption) rfl ?_) | (with_reducible refine br_if (fun hbr => ?_) (fun hbr => ?_)) | (with_reducible refine br_ifn (fun hbr => ?_) (fun hbr => ?_)) | (with_reducible refine br_nb (fun hbr => ?_) (fun hbr => ?_)) | (with_reducible refine br_b (fun hbr => ?_) (fun hbr => ?_)) | simp (disch := first | omega | (simp only [List.length_take, List.length_drop, List.length_append, List.map_cons, List.map_nil, List.length_map, List.length_cons, List.length_nil, List.length_set, List.length_replicate]; omega) | (simp only [List.length_cons, List.length_nil, Nat.zero_add, Nat.reduceAdd])) only [go_sem, ↓reduceIte, Nat.reduceAdd, Int.reduceNeg, Int.reduceAdd, Int.reduceSub, Int.reduceMul, Int.reduceLT, Int.reduceLE, Int.reduceEq, Int.reduceToNat, Nat.reduceBEq, e_sle, e_sge, e_shl1, e_orI, e_andI, e_shr, wrapu, wrap8, tn1, nat1, ix_s, ix_z, st_s, st_z, fl_s, fl_z, fl1_s, fl1_z, map_s, map_z, hix])
      all_goals first | omega | exact ret_z (szF_gt (by unfold wtNods; omega))
  · obtain rfl : i = l.length := by omega
    rw [List.take_length] at hs ⊢
    repeat' (first | (with_reducible refine jn_in ?_) | (with_reducible refine cl_ok (by assumption) rfl ?_) | (with_reducible refine cl_okP (by assumption) rfl ?_) | (with_reducible refine br_if (fun hbr => ?_) (fun hbr => ?_)) | (with_reducible refine br_ifn (fun hbr => ?_) (fun hbr => ?_)) | (with_reducible refine br_nb (fun hbr => ?_) (fun hbr => ?_)) | (with_reducible refine br_b (fun hbr => ?_) (fun hbr => ?_)) | simp (disch := first | omega | (simp only [List.length_take, List.length_drop, List.length_append, List.map_cons, List.map_nil, List.length_map, List.length_cons, List.length_nil, List.length_set, List.length_replicate]; omega) | (simp only [List.length_cons, List.length_nil, Nat.zero_add, Nat.reduceAdd])) only [go_sem, ↓reduceIte, Nat.reduceAdd, Int.reduceNeg, Int.reduceAdd, Int.reduceSub, Int.reduceMul, Int.reduceLT, Int.reduceLE, Int.reduceEq, Int.reduceToNat, Nat.reduceBEq, e_sle, e_sge, e_shl1, e_orI, e_andI, e_shr, wrapu, wrap8, tn1, nat1, ix_s, ix_z, st_s, st_z, fl_s, fl_z, fl1_s, fl1_z, map_s, map_z, true_and])
    all_goals first | omega | exact ret_z (by rw [szF_le (by unfold wtNods; omega)]; unfold wtNods; omega)
theorem toNod_m (x : Nod) (hw : wtNod x ≤ 1048576) : Meets Try.prog 24 [(true, encNod x)] [(true, encNod x, true)] := by
  obtain ⟨x0, x1, x2, x3, x4⟩ := x
  simp only [wtNod] at hw
  have clabels := toSs_m x3 (wtSs_len (n := 1048576) (by omega))
  refine meets_upf Try.func24 u_laws_toNode_g rfl ?_; simp only [u_laws_toNode_u]
  simp only [encNod]
  repeat' (first | (with_reducible refine jn_in ?_) | (with_reducible refine cl_ok (by assumption) rfl ?_) | (with_reducible refine cl_okP (by assumption) rfl ?_) | (with_reducible refine br_if (fun hbr => ?_) (fun hbr => ?_)) | (with_reducible refine br_ifn (fun hbr => ?_) (fun hbr => ?_)) | (with_reducible refine br_nb (fun hbr => ?_) (fun hbr => ?_)) | (with_reducible refine br_b (fun hbr => ?_) (fun hbr => ?_)) | simp (disch := first | omega | (simp only [List.length_take, List.length_drop, List.length_append, List.map_cons, List.map_nil, List.length_map, List.length_cons, List.length_nil, List.length_set, List.length_replicate]; omega) | (simp only [List.length_cons, List.length_nil, Nat.zero_add, Nat.reduceAdd])) only [go_sem, ↓reduceIte, Nat.reduceAdd, Int.reduceNeg, Int.reduceAdd, Int.reduceSub, Int.reduceMul, Int.reduceLT, Int.reduceLE, Int.reduceEq, Int.reduceToNat, Nat.reduceBEq, e_sle, e_sge, e_shl1, e_orI, e_andI, e_shr, wrapu, wrap8, tn1, nat1, ix_s, ix_z, st_s, st_z, fl_s, fl_z, fl1_s, fl1_z, map_s, map_z, true_and])
  rfl
theorem toNods_m (l : List Nod) (h : wtNods l ≤ 1048576) : Meets Try.prog 8 [(false, [encNodsL l])] [(false, [encNods l], true)] := by
  have hl : l.length ≤ 1048576 := by unfold wtNods at h; omega
  have hz : ∀ x ∈ l, wtNod x ≤ 1048576 := fun x hx => by have := sumOf_mem wtNod hx; unfold wtNods at h; omega
  refine meets_upf Try.func8 u_laws_toNodeS_g rfl ?_; simp only [u_laws_toNodeS_u]
  simp only [encNodsL, encNods]
  have hm := fun b (hb : b ≤ 140) => e_makeL (e := encNod) (l := l) (el := 41) (k := 5) (b := b) (zz := [.sc (.int .i64 0), .sc (.int .i64 0), .sc (.string ⟨#[]⟩), .sl 0 1 [], .sc (.int .i64 0)]) (by omega) hb
  have hm1 := hm 64 (by decide)
  simp (disch := first | omega | (simp only [List.length_take, List.length_drop, List.length_append, List.map_cons, List.map_nil, List.length_map, List.length_cons, List.length_nil, List.length_set, List.length_replicate]; omega) | (simp only [List.length_cons, List.length_nil, Nat.zero_add, Nat.reduceAdd])) only [go_sem, ↓reduceIte, Nat.reduceAdd, Int.reduceNeg, Int.reduceAdd, Int.reduceSub, Int.reduceMul, Int.reduceLT, Int.reduceLE, Int.reduceEq, Int.reduceToNat, Nat.reduceBEq, e_sle, e_sge, e_shl1, e_orI, e_andI, e_shr, wrapu, wrap8, tn1, nat1, ix_s, ix_z, st_s, st_z, fl_s, fl_z, fl1_s, fl1_z, map_s, map_z, hm1]
  refine lp_n l.length (fun i => [.sc (.int .i64 i), .sl 41 5 (fillL (l.map encNod) i [.sc (.int .i64 0), .sc (.int .i64 0), .sc (.string ⟨#[]⟩), .sl 0 1 [], .sc (.int .i64 0)])]) rfl fun i hi => ?_
  simp only [u_laws_toNodeS_l0]
  by_cases hlt : i < l.length
  · have e1 := e_chkF (e := encNod) (t := 41) (k := 5) (kd := .i64) (z := [.sc (.int .i64 0), .sc (.int .i64 0), .sc (.string ⟨#[]⟩), .sl 0 1 [], .sc (.int .i64 0)]) hlt
    have e2 := e_fill (e := encNod) (t := 41) (k := 5) (kd := .i64) (z := [.sc (.int .i64 0), .sc (.int .i64 0), .sc (.string ⟨#[]⟩), .sl 0 1 [], .sc (.int .i64 0)]) rfl rfl (fun _ => rfl) hlt
    have hc := toNod_m (l.getD i default) (hz _ (getD_mem hlt))
    have hix : eIdx 5 (some (.sl 39 5 (l.map encNod))) (some (.sc (.int .i64 (i : Int)))) = some (encNod (l.getD i default)) := by rw [ix_Nod (by omega) (by omega), Int.toNat_natCast]
    simp only [encNod, encSs, encZs] at e2 hc hix
    repeat' (first | (with_reducible refine jn_in ?_) | (with_reducible refine cl_ok (by assumption) rfl ?_) | (with_reducible refine cl_okP (by assumption) rfl ?_) | (with_reducible refine br_if (fun hbr => ?_) (fun hbr => ?_)) | (with_reducible refine br_ifn (fun hbr => ?_) (fun hbr => ?_)) | (with_reducible refine br_nb (fun hbr => ?_) (fun hbr => ?_)) | (with_reducible refine br_b (fun hbr => ?_) (fun hbr => ?_)) | simp (disch := first | omega | (simp only [List.length_take, List.length_drop, List.length_append, List.map_cons, List.map_nil, List.length_map, List.length_cons, List.length_nil, List.length_set, List.length_replicate]; omega) | (simp only [List.length_cons, List.length_nil, Nat.zero_add, Nat.reduceAdd])) only [go_sem, ↓reduceIte, Nat.reduceAdd, Int.reduceNeg, Int.reduceAdd, Int.reduceSub, Int.reduceMul, Int.reduceLT, Int.reduceLE, Int.reduceEq, Int.reduceToNat, Nat.reduceBEq, e_sle, e_sge, e_shl1, e_orI, e_andI, e_shr, wrapu, wrap8, tn1, nat1, ix_s, ix_z, st_s, st_z, fl_s, fl_z, fl1_s, fl1_z, map_s, map_z, e1, e2, hix])
    all_goals omega
  · obtain rfl : i = l.length := by omega
    repeat' (first | (with_reducible refine jn_in ?_) | (with_reducible refine cl_ok (by assumption) rfl ?_) | (with_reducible refine cl_okP (by assumption) rfl ?_) | (with_reducible refine br_if (fun hbr => ?_) (fun hbr => ?_)) | (with_reducible refine br_ifn (fun hbr => ?_) (fun hbr => ?_)) | (with_reducible refine br_nb (fun hbr => ?_) (fun hbr => ?_)) | (with_reducible refine br_b (fun hbr => ?_) (fun hbr => ?_)) | simp (disch := first | omega | (simp only [List.length_take, List.length_drop, List.length_append, List.map_cons, List.map_nil, List.length_map, List.length_cons, List.length_nil, List.length_set, List.length_replicate]; omega) | (simp only [List.length_cons, List.length_nil, Nat.zero_add, Nat.reduceAdd])) only [go_sem, ↓reduceIte, Nat.reduceAdd, Int.reduceNeg, Int.reduceAdd, Int.reduceSub, Int.reduceMul, Int.reduceLT, Int.reduceLE, Int.reduceEq, Int.reduceToNat, Nat.reduceBEq, e_sle, e_sge, e_shl1, e_orI, e_andI, e_shr, wrapu, wrap8, tn1, nat1, ix_s, ix_z, st_s, st_z, fl_s, fl_z, fl1_s, fl1_z, map_s, map_z, fillL_endm])
    · omega
    · rfl
theorem eqNod_m (x : Nod) (hw : wtNod x ≤ 10000000000) : Meets Try.prog 28 [(true, encNod x), (true, encNod x)] [(false, [.sc (.bool true)], true)] := by
  obtain ⟨x0, x1, x2, x3, x4⟩ := x
  simp only [wtNod] at hw
  have clabels := eqSs_m x3 (wtSs_len (n := 100000000000) (by omega))
  refine meets_upf Try.func28 u_laws_eqNode_g rfl ?_; simp only [u_laws_eqNode_u]
  simp only [encNod]
  repeat' (first | (with_reducible refine jn_in ?_) | (with_reducible refine cl_ok (by assumption) rfl ?_) | (with_reducible refine cl_okP (by assumption) rfl ?_) | (with_reducible refine br_if (fun hbr => ?_) (fun hbr => ?_)) | (with_reducible refine br_ifn (fun hbr => ?_) (fun hbr => ?_)) | (with_reducible refine br_nb (fun hbr => ?_) (fun hbr => ?_)) | (with_reducible refine br_b (fun hbr => ?_) (fun hbr => ?_)) | simp (disch := first | omega | (simp only [List.length_take, List.length_drop, List.length_append, List.map_cons, List.map_nil, List.length_map, List.length_cons, List.length_nil, List.length_set, List.length_replicate]; omega) | (simp only [List.length_cons, List.length_nil, Nat.zero_add, Nat.reduceAdd])) only [go_sem, ↓reduceIte, Nat.reduceAdd, Int.reduceNeg, Int.reduceAdd, Int.reduceSub, Int.reduceMul, Int.reduceLT, Int.reduceLE, Int.reduceEq, Int.reduceToNat, Nat.reduceBEq, e_sle, e_sge, e_shl1, e_orI, e_andI, e_shr, wrapu, wrap8, tn1, nat1, ix_s, ix_z, st_s, st_z, fl_s, fl_z, fl1_s, fl1_z, map_s, map_z, eq_self])
  rfl
theorem eqNods_m (l : List Nod) (h : wtNods l ≤ 10000000000) : Meets Try.prog 11 [(false, [encNods l]), (false, [encNods l])] [(false, [.sc (.bool true)], true)] := by
  have hl : l.length ≤ 10000000000 := by unfold wtNods at h; omega
  have hz : ∀ x ∈ l, wtNod x ≤ 10000000000 := fun x hx => by have := sumOf_mem wtNod hx; unfold wtNods at h; omega
  refine meets_upf Try.func11 u_laws_eqNodeS_g rfl ?_; simp only [u_laws_eqNodeS_u]
  simp only [encNods]
  simp (disch := first | omega | (simp only [List.length_take, List.length_drop, List.length_append, List.map_cons, List.map_nil, List.length_map, List.length_cons, List.length_nil, List.length_set, List.length_replicate]; omega) | (simp only [List.length_cons, List.length_nil, Nat.zero_add, Nat.reduceAdd])) only [go_sem, ↓reduceIte, Nat.reduceAdd, Int.reduceNeg, Int.reduceAdd, Int.reduceSub, Int.reduceMul, Int.reduceLT, Int.reduceLE, Int.reduceEq, Int.reduceToNat, Nat.reduceBEq, e_sle, e_sge, e_shl1, e_orI, e_andI, e_shr, wrapu, wrap8, tn1, nat1, ix_s, ix_z, st_s, st_z, fl_s, fl_z, fl1_s, fl1_z, map_s, map_z, eq_self]
  refine lp_n l.length (fun i => [.sc (.int .i64 i)]) rfl fun i hi => ?_
  simp only [u_laws_eqNodeS_l0]
  by_cases hlt : i < l.length
  · have hc := eqNod_m (l.getD i default) (hz _ (getD_mem hlt))
    have hix : eIdx 5 (some (.sl 41 5 (l.map encNod))) (some (.sc (.int .i64 (i : Int)))) = some (encNod (l.getD i default)) := by rw [ix_Nod (by omega) (by omega), Int.toNat_natCast]
    simp only [encNod, encSs, encZs] at hc hix
    repeat' (first | (with_reducible refine jn_in ?_) | (with_reducible refine cl_ok (by assumption) rfl ?_) | (with_reducible refine cl_okP (by assumption) rfl ?_) | (with_reducible refine br_if (fun hbr => ?_) (fun hbr => ?_)) | (with_reducible refine br_ifn (fun hbr => ?_) (fun hbr => ?_)) | (with_reducible refine br_nb (fun hbr => ?_) (fun hbr => ?_)) | (with_reducible refine br_b (fun hbr => ?_) (fun hbr => ?_)) | simp (disch := first | omega | (simp only [List.length_take, List.length_drop, List.length_append, List.map_cons, List.map_nil, List.length_map, List.length_cons, List.length_nil, List.length_set, List.length_replicate]; omega) | (simp only [List.length_cons, List.length_nil, Nat.zero_add, Nat.reduceAdd])) only [go_sem, ↓reduceIte, Nat.reduceAdd, Int.reduceNeg, Int.reduceAdd, Int.reduceSub, Int.reduceMul, Int.reduceLT, Int.reduceLE, Int.reduceEq, Int.reduceToNat, Nat.reduceBEq, e_sle, e_sge, e_shl1, e_orI, e_andI, e_shr, wrapu, wrap8, tn1, nat1, ix_s, ix_z, st_s, st_z, fl_s, fl_z, fl1_s, fl1_z, map_s, map_z, hix])
    all_goals omega
  · obtain rfl : i = l.length := by omega
    repeat' (first | (with_reducible refine jn_in ?_) | (with_reducible refine cl_ok (by assumption) rfl ?_) | (with_reducible refine cl_okP (by assumption) rfl ?_) | (with_reducible refine br_if (fun hbr => ?_) (fun hbr => ?_)) | (with_reducible refine br_ifn (fun hbr => ?_) (fun hbr => ?_)) | (with_reducible refine br_nb (fun hbr => ?_) (fun hbr => ?_)) | (with_reducible refine br_b (fun hbr => ?_) (fun hbr => ?_)) | simp (disch := first | omega | (simp only [List.length_take, List.length_drop, List.length_append, List.map_cons, List.map_nil, List.length_map, List.length_cons, List.length_nil, List.length_set, List.length_replicate]; omega) | (simp only [List.length_cons, List.length_nil, Nat.zero_add, Nat.reduceAdd])) only [go_sem, ↓reduceIte, Nat.reduceAdd, Int.reduceNeg, Int.reduceAdd, Int.reduceSub, Int.reduceMul, Int.reduceLT, Int.reduceLE, Int.reduceEq, Int.reduceToNat, Nat.reduceBEq, e_sle, e_sge, e_shl1, e_orI, e_andI, e_shr, wrapu, wrap8, tn1, nat1, ix_s, ix_z, st_s, st_z, fl_s, fl_z, fl1_s, fl1_z, map_s, map_z, true_and])
    · omega
    · rfl
end Go.Proofs.Ytfdpkdfmkedkmaa

namespace Go.Proofs.Ytfdpkdfmkedkmaa
open Go.RowKit
set_option maxRecDepth 100000
def cntK (k : Int) : Int := if k ∈ [0, 8, 9, 15, 16] then -1 else if k ∈ [10, 14, 21, 22, 23, 26, 27, 31, 33] then 1 else if k ∈ [11, 12, 13, 17, 18, 24, 25, 28, 29, 30] then 2 else 0
def namK (k : Int) : Bool := decide (k ∈ [7, 18, 22, 23, 24, 25, 26, 27, 28, 29, 30, 31, 32, 34])
def binL : List ByteArray := [⟨#[43]⟩, ⟨#[45]⟩, ⟨#[42]⟩, ⟨#[47]⟩, ⟨#[94]⟩, ⟨#[37, 37]⟩, ⟨#[37, 47, 37]⟩, ⟨#[61, 61]⟩, ⟨#[33, 61]⟩, ⟨#[60]⟩, ⟨#[60, 61]⟩, ⟨#[62]⟩, ⟨#[62, 61]⟩, ⟨#[38]⟩, ⟨#[124]⟩, ⟨#[38, 38]⟩, ⟨#[124, 124]⟩, ⟨#[58]⟩, ⟨#[126]⟩]
def unaL : List ByteArray := [⟨#[45]⟩, ⟨#[33]⟩, ⟨#[126]⟩]
def txtR (k : Int) (s : ByteArray) : Bool :=
  if k = 3 then decide ((s.size : Int) ≤ 60) else if k = 10 then hasB unaL s else if k = 11 then hasB binL s else if k = 14 then decide (1 ≤ (s.size : Int) ∧ (s.size : Int) ≤ 60) else nameB s
def txtB (k : Int) (s : ByteArray) : Bool := if k ∈ [3, 10, 11, 14] ∨ namK k = true then txtR k s else decide (s = ⟨#[]⟩)
theorem unaH (s : ByteArray) : hasB unaL s = decide (s = ⟨#[45]⟩ ∨ s = ⟨#[33]⟩ ∨ s = ⟨#[126]⟩) := by
  rw [Bool.eq_iff_iff, hasB_iff, decide_eq_true_eq]
  simp [unaL]
theorem specCnt_m (k : Int) : Meets Try.prog 61 [(false, [.sc (.int .i64 k)])] [(false, [.sc (.int .i64 (cntK k))], true)] := by
  refine meets_upf Try.func61 u_spec_l16Count_g rfl ?_; simp only [u_spec_l16Count_u]
  repeat' (first | (with_reducible refine jn_in ?_) | (with_reducible refine cl_ok (by assumption) rfl ?_) | (with_reducible refine cl_okP (by assumption) rfl ?_) | (with_reducible refine br_if (fun hbr => ?_) (fun hbr => ?_)) | (with_reducible refine br_ifn (fun hbr => ?_) (fun hbr => ?_)) | (with_reducible refine br_nb (fun hbr => ?_) (fun hbr => ?_)) | (with_reducible refine br_b (fun hbr => ?_) (fun hbr => ?_)) | simp (disch := first | omega | (simp only [List.length_take, List.length_drop, List.length_append, List.map_cons, List.map_nil, List.length_map, List.length_cons, List.length_nil, List.length_set, List.length_replicate]; omega) | (simp only [List.length_cons, List.length_nil, Nat.zero_add, Nat.reduceAdd])) only [go_sem, ↓reduceIte, Nat.reduceAdd, Int.reduceNeg, Int.reduceAdd, Int.reduceSub, Int.reduceMul, Int.reduceLT, Int.reduceLE, Int.reduceEq, Int.reduceToNat, Nat.reduceBEq, e_sle, e_sge, e_shl1, e_orI, e_andI, e_shr, wrapu, wrap8, tn1, nat1, ix_s, ix_z, st_s, st_z, fl_s, fl_z, fl1_s, fl1_z, map_s, map_z, true_and])
  all_goals first
    | (exfalso; omega)
    | (subst_vars; exact ret_z (by decide))
    | exact ret_z (by simp [cntK, *])
    | skip
theorem specBin_m : Meets Try.prog 84 [] [(false, [encSs binL], true)] := by
  refine meets_upf Try.func84 u_spec_l16Binary_g rfl ?_; simp only [u_spec_l16Binary_u]
  repeat' (first | (with_reducible refine jn_in ?_) | (with_reducible refine cl_ok (by assumption) rfl ?_) | (with_reducible refine cl_okP (by assumption) rfl ?_) | (with_reducible refine br_if (fun hbr => ?_) (fun hbr => ?_)) | (with_reducible refine br_ifn (fun hbr => ?_) (fun hbr => ?_)) | (with_reducible refine br_nb (fun hbr => ?_) (fun hbr => ?_)) | (with_reducible refine br_b (fun hbr => ?_) (fun hbr => ?_)) | simp (disch := first | omega | (simp only [List.length_take, List.length_drop, List.length_append, List.map_cons, List.map_nil, List.length_map, List.length_cons, List.length_nil, List.length_set, List.length_replicate]; omega) | (simp only [List.length_cons, List.length_nil, Nat.zero_add, Nat.reduceAdd])) only [go_sem, ↓reduceIte, Nat.reduceAdd, Int.reduceNeg, Int.reduceAdd, Int.reduceSub, Int.reduceMul, Int.reduceLT, Int.reduceLE, Int.reduceEq, Int.reduceToNat, Nat.reduceBEq, e_sle, e_sge, e_shl1, e_orI, e_andI, e_shr, wrapu, wrap8, tn1, nat1, ix_s, ix_z, st_s, st_z, fl_s, fl_z, fl1_s, fl1_z, map_s, map_z, true_and])
  rfl
theorem implBin_m (s : ByteArray) : Meets Try.prog 85 [(false, [.sc (.string s)])] [(false, [.sc (.bool (hasB binL s))], true)] := by
  have h := hasText_m 9 binL s (by decide)
  simp only [binL, encS, List.map_cons, List.map_nil] at h
  refine meets_upf Try.func85 u_impl_isBinary_g rfl ?_; simp only [u_impl_isBinary_u]
  repeat' (first | (with_reducible refine jn_in ?_) | (with_reducible refine cl_ok (by assumption) rfl ?_) | (with_reducible refine cl_okP (by assumption) rfl ?_) | (with_reducible refine br_if (fun hbr => ?_) (fun hbr => ?_)) | (with_reducible refine br_ifn (fun hbr => ?_) (fun hbr => ?_)) | (with_reducible refine br_nb (fun hbr => ?_) (fun hbr => ?_)) | (with_reducible refine br_b (fun hbr => ?_) (fun hbr => ?_)) | simp (disch := first | omega | (simp only [List.length_take, List.length_drop, List.length_append, List.map_cons, List.map_nil, List.length_map, List.length_cons, List.length_nil, List.length_set, List.length_replicate]; omega) | (simp only [List.length_cons, List.length_nil, Nat.zero_add, Nat.reduceAdd])) only [go_sem, ↓reduceIte, Nat.reduceAdd, Int.reduceNeg, Int.reduceAdd, Int.reduceSub, Int.reduceMul, Int.reduceLT, Int.reduceLE, Int.reduceEq, Int.reduceToNat, Nat.reduceBEq, e_sle, e_sge, e_shl1, e_orI, e_andI, e_shr, wrapu, wrap8, tn1, nat1, ix_s, ix_z, st_s, st_z, fl_s, fl_z, fl1_s, fl1_z, map_s, map_z, true_and])
  rfl
theorem specTxt_m (k n c : Int) (s : ByteArray) (L : List ByteArray) (hs : s.size ≤ 100000000000) : Meets Try.prog 62 [(true, encNod ⟨k, n, s, L, c⟩)] [(false, [.sc (.bool (txtB k s))], true)] := by
  have h1 := l1In_m (s.size : Int) 1 60
  have h2 := specName_m s hs
  have h3 := l1Has_m 9 unaL s (by decide)
  have h4 := l1Has_m 9 binL s (by decide)
  have h5 := specBin_m
  simp only [unaL, encS, List.map_cons, List.map_nil] at h3
  simp only [encSs] at h5
  refine meets_upf Try.func62 u_spec_l16Text_g rfl ?_; simp only [u_spec_l16Text_u]
  simp only [encNod, encSs]
  repeat' (first | (with_reducible refine jn_in ?_) | (with_reducible refine cl_ok (by assumption) rfl ?_) | (with_reducible refine cl_okP (by assumption) rfl ?_) | (with_reducible refine br_if (fun hbr => ?_) (fun hbr => ?_)) | (with_reducible refine br_ifn (fun hbr => ?_) (fun hbr => ?_)) | (with_reducible refine br_nb (fun hbr => ?_) (fun hbr => ?_)) | (with_reducible refine br_b (fun hbr => ?_) (fun hbr => ?_)) | simp (disch := first | omega | (simp only [List.length_take, List.length_drop, List.length_append, List.map_cons, List.map_nil, List.length_map, List.length_cons, List.length_nil, List.length_set, List.length_replicate]; omega) | (simp only [List.length_cons, List.length_nil, Nat.zero_add, Nat.reduceAdd])) only [go_sem, ↓reduceIte, Nat.reduceAdd, Int.reduceNeg, Int.reduceAdd, Int.reduceSub, Int.reduceMul, Int.reduceLT, Int.reduceLE, Int.reduceEq, Int.reduceToNat, Nat.reduceBEq, e_sle, e_sge, e_shl1, e_orI, e_andI, e_shr, wrapu, wrap8, tn1, nat1, ix_s, ix_z, st_s, st_z, fl_s, fl_z, fl1_s, fl1_z, map_s, map_z, u_spec_l16Text_j0])
  all_goals first
    | (exfalso; omega)
    | (subst_vars; exact ret_b (by first | rfl | (simp [txtB, txtR, namK, unaL, *]; done)))
    | exact ret_b (by rw [txtB, if_neg (by simp [namK, *])])
    | skip
theorem implTxt_m (k n c : Int) (s : ByteArray) (L : List ByteArray) (hs : s.size ≤ 100000000000) : Meets Try.prog 65 [(true, encNod ⟨k, n, s, L, c⟩)] [(false, [.sc (.bool (txtR k s))], true)] := by
  have h2 := implName_m s hs
  have h4 := implBin_m s
  refine meets_upf Try.func65 u_impl_textRight_g rfl ?_; simp only [u_impl_textRight_u]
  simp only [encNod, encSs]
  repeat' (first | (with_reducible refine jn_in ?_) | (with_reducible refine cl_ok (by assumption) rfl ?_) | (with_reducible refine cl_okP (by assumption) rfl ?_) | (with_reducible refine br_if (fun hbr => ?_) (fun hbr => ?_)) | (with_reducible refine br_ifn (fun hbr => ?_) (fun hbr => ?_)) | (with_reducible refine br_nb (fun hbr => ?_) (fun hbr => ?_)) | (with_reducible refine br_b (fun hbr => ?_) (fun hbr => ?_)) | simp (disch := first | omega | (simp only [List.length_take, List.length_drop, List.length_append, List.map_cons, List.map_nil, List.length_map, List.length_cons, List.length_nil, List.length_set, List.length_replicate]; omega) | (simp only [List.length_cons, List.length_nil, Nat.zero_add, Nat.reduceAdd])) only [go_sem, ↓reduceIte, Nat.reduceAdd, Int.reduceNeg, Int.reduceAdd, Int.reduceSub, Int.reduceMul, Int.reduceLT, Int.reduceLE, Int.reduceEq, Int.reduceToNat, Nat.reduceBEq, e_sle, e_sge, e_shl1, e_orI, e_andI, e_shr, wrapu, wrap8, tn1, nat1, ix_s, ix_z, st_s, st_z, fl_s, fl_z, fl1_s, fl1_z, map_s, map_z, true_and])
  all_goals first
    | (exfalso; omega)
    | exact ret_b (by rw [txtR, if_pos ‹k = 3›])
    | exact ret_b (by rw [txtR, if_neg ‹¬ k = 3›, if_pos ‹k = 10›, unaH]; simp [*])
    | exact ret_b (by rw [txtR, if_neg ‹¬ k = 3›, if_neg ‹¬ k = 10›, if_pos ‹k = 11›])
    | exact ret_b (by rw [txtR, if_neg ‹¬ k = 3›, if_neg ‹¬ k = 10›, if_neg ‹¬ k = 11›, if_pos ‹k = 14›]; simp [*])
    | exact ret_b (by rw [txtR, if_neg ‹¬ k = 3›, if_neg ‹¬ k = 10›, if_neg ‹¬ k = 11›, if_neg ‹¬ k = 14›])
    | skip
end Go.Proofs.Ytfdpkdfmkedkmaa

namespace Go.Proofs.Ytfdpkdfmkedkmaa
open Go.RowKit
set_option maxRecDepth 100000
def usN (k : Int) : Bool := decide (k ∈ [2, 4, 5])
def usT (k : Int) : Bool := decide (k ∈ [3, 10, 11, 14] ∨ namK k = true)
def usL (k : Int) : Bool := decide (k ∈ [8, 9, 26, 27])
def kidB (k c : Int) (n : Nat) : Bool :=
  if k ∈ [0, 15] then decide (0 ≤ c) else if k ∈ [1, 2, 3, 4, 5, 6, 19, 20, 35, 7, 32, 34] then decide (c = 0) else if k ∈ [8, 9] then decide (c = (n : Int) + 1)
  else if k ∈ [10, 14, 21, 33, 22, 23, 26, 27, 31] then decide (c = 1) else if k = 16 then decide (c = 2 ∨ c = 3) else decide (c = 2)
def labN (L : List ByteArray) (i : Nat) : Bool := nameB (L.getD i default) && !decide (find1 L (L.getD i default) < i)
def labS (L : List ByteArray) (i : Nat) : Bool := decide (((L.getD i default).size : Int) ≤ 60)
def labR (k : Int) (L : List ByteArray) : Bool :=
  if k = 8 then allB (labN L) L.length else if k = 9 then allB (labS L) L.length
  else if k = 26 then decide (L.length = 1) && decide (1 ≤ ((L.getD 0 default).size : Int) ∧ ((L.getD 0 default).size : Int) ≤ 60)
  else if k = 27 then decide (L.length = 1) && (nameB (L.getD 0 default) && nameB (L.getD 0 default ++ ⟨#[60, 45]⟩)) else true
theorem implUses_m (k : Int) : Meets Try.prog 64 [(false, [.sc (.int .i64 k)])] [(false, [.sc (.bool (usN k))], true), (false, [.sc (.bool (usT k))], true), (false, [.sc (.bool (usL k))], true)] := by
  refine meets_upf Try.func64 u_impl_uses_g rfl ?_; simp only [u_impl_uses_u]
  have key : ∀ a b c a' b' c' : Bool, a = a' → b = b' → c = c' → isRes [(false, [.sc (.bool a)], true), (false, [.sc (.bool b)], true), (false, [.sc (.bool c)], true)] [(false, [.sc (.bool a')]), (false, [.sc (.bool b')]), (false, [.sc (.bool c')])] := by
    rintro a b c _ _ _ rfl rfl rfl; rfl
  repeat' (first | (with_reducible refine jn_in ?_) | (with_reducible refine cl_ok (by assumption) rfl ?_) | (with_reducible refine cl_okP (by assumption) rfl ?_) | (with_reducible refine br_if (fun hbr => ?_) (fun hbr => ?_)) | (with_reducible refine br_ifn (fun hbr => ?_) (fun hbr => ?_)) | (with_reducible refine br_nb (fun hbr => ?_) (fun hbr => ?_)) | (with_reducible refine br_b (fun hbr => ?_) (fun hbr => ?_)) | simp (disch := first | omega | (simp only [List.length_take, List.length_drop, List.length_append, List.map_cons, List.map_nil, List.length_map, List.length_cons, List.length_nil, List.length_set, List.length_replicate]; omega) | (simp only [List.length_cons, List.length_nil, Nat.zero_add, Nat.reduceAdd])) only [go_sem, ↓reduceIte, Nat.reduceAdd, Int.reduceNeg, Int.reduceAdd, Int.reduceSub, Int.reduceMul, Int.reduceLT, Int.reduceLE, Int.reduceEq, Int.reduceToNat, Nat.reduceBEq, e_sle, e_sge, e_shl1, e_orI, e_andI, e_shr, wrapu, wrap8, tn1, nat1, ix_s, ix_z, st_s, st_z, fl_s, fl_z, fl1_s, fl1_z, map_s, map_z, u_impl_uses_j0])
  all_goals first
    | (exfalso; omega)
    | (subst_vars; exact key _ _ _ _ _ _ (by decide) (by decide) (by decide))
    | exact key _ _ _ _ _ _ (by simp [usN, *]) (by simp [usT, namK, *]) (by simp [usL, *])
    | skip
theorem implKids_m (k n c : Int) (s : ByteArray) (L : List ByteArray) (hL : L.length ≤ 1048576) : Meets Try.prog 63 [(true, encNod ⟨k, n, s, L, c⟩)] [(false, [.sc (.bool (kidB k c L.length))], true)] := by
  have b1 : ∀ {a b : Bool}, a = b → [DV.sc (.bool a)] = [.sc (.bool b)] := fun h => by rw [h]
  refine meets_upf Try.func63 u_impl_kidsRight_g rfl ?_; simp only [u_impl_kidsRight_u]
  simp only [encNod, encSs]
  simp (disch := first | omega | (simp only [List.length_take, List.length_drop, List.length_append, List.map_cons, List.map_nil, List.length_map, List.length_cons, List.length_nil, List.length_set, List.length_replicate]; omega) | (simp only [List.length_cons, List.length_nil, Nat.zero_add, Nat.reduceAdd])) only [go_sem, ↓reduceIte, Nat.reduceAdd, Int.reduceNeg, Int.reduceAdd, Int.reduceSub, Int.reduceMul, Int.reduceLT, Int.reduceLE, Int.reduceEq, Int.reduceToNat, Nat.reduceBEq, e_sle, e_sge, e_shl1, e_orI, e_andI, e_shr, wrapu, wrap8, tn1, nat1, ix_s, ix_z, st_s, st_z, fl_s, fl_z, fl1_s, fl1_z, map_s, map_z, true_and]
  refine br_if (fun h0 => ?_) (fun h0 => ?_)
  · repeat' (first | (with_reducible refine jn_in ?_) | (with_reducible refine cl_ok (by assumption) rfl ?_) | (with_reducible refine cl_okP (by assumption) rfl ?_) | (with_reducible refine br_if (fun hbr => ?_) (fun hbr => ?_)) | (with_reducible refine br_ifn (fun hbr => ?_) (fun hbr => ?_)) | (with_reducible refine br_nb (fun hbr => ?_) (fun hbr => ?_)) | (with_reducible refine br_b (fun hbr => ?_) (fun hbr => ?_)) | simp (disch := first | omega | (simp only [List.length_take, List.length_drop, List.length_append, List.map_cons, List.map_nil, List.length_map, List.length_cons, List.length_nil, List.length_set, List.length_replicate]; omega) | (simp only [List.length_cons, List.length_nil, Nat.zero_add, Nat.reduceAdd])) only [go_sem, ↓reduceIte, Nat.reduceAdd, Int.reduceNeg, Int.reduceAdd, Int.reduceSub, Int.reduceMul, Int.reduceLT, Int.reduceLE, Int.reduceEq, Int.reduceToNat, Nat.reduceBEq, e_sle, e_sge, e_shl1, e_orI, e_andI, e_shr, wrapu, wrap8, tn1, nat1, ix_s, ix_z, st_s, st_z, fl_s, fl_z, fl1_s, fl1_z, map_s, map_z, true_and])
    subst h0; exact ret_b (by simp [kidB])
  simp (disch := first | omega | (simp only [List.length_take, List.length_drop, List.length_append, List.map_cons, List.map_nil, List.length_map, List.length_cons, List.length_nil, List.length_set, List.length_replicate]; omega) | (simp only [List.length_cons, List.length_nil, Nat.zero_add, Nat.reduceAdd])) only [go_sem, ↓reduceIte, Nat.reduceAdd, Int.reduceNeg, Int.reduceAdd, Int.reduceSub, Int.reduceMul, Int.reduceLT, Int.reduceLE, Int.reduceEq, Int.reduceToNat, Nat.reduceBEq, e_sle, e_sge, e_shl1, e_orI, e_andI, e_shr, wrapu, wrap8, tn1, nat1, ix_s, ix_z, st_s, st_z, fl_s, fl_z, fl1_s, fl1_z, map_s, map_z, true_and]
  refine br_if (fun h15 => ?_) (fun h15 => ?_)
  · repeat' (first | (with_reducible refine jn_in ?_) | (with_reducible refine cl_ok (by assumption) rfl ?_) | (with_reducible refine cl_okP (by assumption) rfl ?_) | (with_reducible refine br_if (fun hbr => ?_) (fun hbr => ?_)) | (with_reducible refine br_ifn (fun hbr => ?_) (fun hbr => ?_)) | (with_reducible refine br_nb (fun hbr => ?_) (fun hbr => ?_)) | (with_reducible refine br_b (fun hbr => ?_) (fun hbr => ?_)) | simp (disch := first | omega | (simp only [List.length_take, List.length_drop, List.length_append, List.map_cons, List.map_nil, List.length_map, List.length_cons, List.length_nil, List.length_set, List.length_replicate]; omega) | (simp only [List.length_cons, List.length_nil, Nat.zero_add, Nat.reduceAdd])) only [go_sem, ↓reduceIte, Nat.reduceAdd, Int.reduceNeg, Int.reduceAdd, Int.reduceSub, Int.reduceMul, Int.reduceLT, Int.reduceLE, Int.reduceEq, Int.reduceToNat, Nat.reduceBEq, e_sle, e_sge, e_shl1, e_orI, e_andI, e_shr, wrapu, wrap8, tn1, nat1, ix_s, ix_z, st_s, st_z, fl_s, fl_z, fl1_s, fl1_z, map_s, map_z, true_and])
    subst h15; exact ret_b (by simp [kidB])
  simp (disch := first | omega | (simp only [List.length_take, List.length_drop, List.length_append, List.map_cons, List.map_nil, List.length_map, List.length_cons, List.length_nil, List.length_set, List.length_replicate]; omega) | (simp only [List.length_cons, List.length_nil, Nat.zero_add, Nat.reduceAdd])) only [go_sem, ↓reduceIte, Nat.reduceAdd, Int.reduceNeg, Int.reduceAdd, Int.reduceSub, Int.reduceMul, Int.reduceLT, Int.reduceLE, Int.reduceEq, Int.reduceToNat, Nat.reduceBEq, e_sle, e_sge, e_shl1, e_orI, e_andI, e_shr, wrapu, wrap8, tn1, nat1, ix_s, ix_z, st_s, st_z, fl_s, fl_z, fl1_s, fl1_z, map_s, map_z, true_and]
  refine jn_eq [.sc (.bool (decide (k ∈ [1, 2, 3, 4, 5, 6, 19, 20, 35, 7, 32, 34])))] ?_ ?_
  · repeat' (first | (with_reducible refine jn_in ?_) | (with_reducible refine cl_ok (by assumption) rfl ?_) | (with_reducible refine cl_okP (by assumption) rfl ?_) | (with_reducible refine br_if (fun hbr => ?_) (fun hbr => ?_)) | (with_reducible refine br_ifn (fun hbr => ?_) (fun hbr => ?_)) | (with_reducible refine br_nb (fun hbr => ?_) (fun hbr => ?_)) | (with_reducible refine br_b (fun hbr => ?_) (fun hbr => ?_)) | simp (disch := first | omega | (simp only [List.length_take, List.length_drop, List.length_append, List.map_cons, List.map_nil, List.length_map, List.length_cons, List.length_nil, List.length_set, List.length_replicate]; omega) | (simp only [List.length_cons, List.length_nil, Nat.zero_add, Nat.reduceAdd])) only [go_sem, ↓reduceIte, Nat.reduceAdd, Int.reduceNeg, Int.reduceAdd, Int.reduceSub, Int.reduceMul, Int.reduceLT, Int.reduceLE, Int.reduceEq, Int.reduceToNat, Nat.reduceBEq, e_sle, e_sge, e_shl1, e_orI, e_andI, e_shr, wrapu, wrap8, tn1, nat1, ix_s, ix_z, st_s, st_z, fl_s, fl_z, fl1_s, fl1_z, map_s, map_z, true_and])
    all_goals first
      | (subst_vars; exact b1 (by decide))
      | exact b1 (by simp [*])
      | skip
  simp only [u_impl_kidsRight_j1]
  refine br_b (fun h1 => ?_) (fun h1 => ?_)
  · have h1 := of_decide_eq_true h1
    repeat' (first | (with_reducible refine jn_in ?_) | (with_reducible refine cl_ok (by assumption) rfl ?_) | (with_reducible refine cl_okP (by assumption) rfl ?_) | (with_reducible refine br_if (fun hbr => ?_) (fun hbr => ?_)) | (with_reducible refine br_ifn (fun hbr => ?_) (fun hbr => ?_)) | (with_reducible refine br_nb (fun hbr => ?_) (fun hbr => ?_)) | (with_reducible refine br_b (fun hbr => ?_) (fun hbr => ?_)) | simp (disch := first | omega | (simp only [List.length_take, List.length_drop, List.length_append, List.map_cons, List.map_nil, List.length_map, List.length_cons, List.length_nil, List.length_set, List.length_replicate]; omega) | (simp only [List.length_cons, List.length_nil, Nat.zero_add, Nat.reduceAdd])) only [go_sem, ↓reduceIte, Nat.reduceAdd, Int.reduceNeg, Int.reduceAdd, Int.reduceSub, Int.reduceMul, Int.reduceLT, Int.reduceLE, Int.reduceEq, Int.reduceToNat, Nat.reduceBEq, e_sle, e_sge, e_shl1, e_orI, e_andI, e_shr, wrapu, wrap8, tn1, nat1, ix_s, ix_z, st_s, st_z, fl_s, fl_z, fl1_s, fl1_z, map_s, map_z, true_and])
    exact ret_b (by rw [kidB, if_neg (by simp [h0, h15]), if_pos h1])
  have h1 := of_decide_eq_false h1
  simp (disch := first | omega | (simp only [List.length_take, List.length_drop, List.length_append, List.map_cons, List.map_nil, List.length_map, List.length_cons, List.length_nil, List.length_set, List.length_replicate]; omega) | (simp only [List.length_cons, List.length_nil, Nat.zero_add, Nat.reduceAdd])) only [go_sem, ↓reduceIte, Nat.reduceAdd, Int.reduceNeg, Int.reduceAdd, Int.reduceSub, Int.reduceMul, Int.reduceLT, Int.reduceLE, Int.reduceEq, Int.reduceToNat, Nat.reduceBEq, e_sle, e_sge, e_shl1, e_orI, e_andI, e_shr, wrapu, wrap8, tn1, nat1, ix_s, ix_z, st_s, st_z, fl_s, fl_z, fl1_s, fl1_z, map_s, map_z, true_and]
  refine br_if (fun h8 => ?_) (fun h8 => ?_)
  · repeat' (first | (with_reducible refine jn_in ?_) | (with_reducible refine cl_ok (by assumption) rfl ?_) | (with_reducible refine cl_okP (by assumption) rfl ?_) | (with_reducible refine br_if (fun hbr => ?_) (fun hbr => ?_)) | (with_reducible refine br_ifn (fun hbr => ?_) (fun hbr => ?_)) | (with_reducible refine br_nb (fun hbr => ?_) (fun hbr => ?_)) | (with_reducible refine br_b (fun hbr => ?_) (fun hbr => ?_)) | simp (disch := first | omega | (simp only [List.length_take, List.length_drop, List.length_append, List.map_cons, List.map_nil, List.length_map, List.length_cons, List.length_nil, List.length_set, List.length_replicate]; omega) | (simp only [List.length_cons, List.length_nil, Nat.zero_add, Nat.reduceAdd])) only [go_sem, ↓reduceIte, Nat.reduceAdd, Int.reduceNeg, Int.reduceAdd, Int.reduceSub, Int.reduceMul, Int.reduceLT, Int.reduceLE, Int.reduceEq, Int.reduceToNat, Nat.reduceBEq, e_sle, e_sge, e_shl1, e_orI, e_andI, e_shr, wrapu, wrap8, tn1, nat1, ix_s, ix_z, st_s, st_z, fl_s, fl_z, fl1_s, fl1_z, map_s, map_z, true_and])
    subst h8; exact ret_b (by simp [kidB])
  simp (disch := first | omega | (simp only [List.length_take, List.length_drop, List.length_append, List.map_cons, List.map_nil, List.length_map, List.length_cons, List.length_nil, List.length_set, List.length_replicate]; omega) | (simp only [List.length_cons, List.length_nil, Nat.zero_add, Nat.reduceAdd])) only [go_sem, ↓reduceIte, Nat.reduceAdd, Int.reduceNeg, Int.reduceAdd, Int.reduceSub, Int.reduceMul, Int.reduceLT, Int.reduceLE, Int.reduceEq, Int.reduceToNat, Nat.reduceBEq, e_sle, e_sge, e_shl1, e_orI, e_andI, e_shr, wrapu, wrap8, tn1, nat1, ix_s, ix_z, st_s, st_z, fl_s, fl_z, fl1_s, fl1_z, map_s, map_z, true_and]
  refine br_if (fun h9 => ?_) (fun h9 => ?_)
  · repeat' (first | (with_reducible refine jn_in ?_) | (with_reducible refine cl_ok (by assumption) rfl ?_) | (with_reducible refine cl_okP (by assumption) rfl ?_) | (with_reducible refine br_if (fun hbr => ?_) (fun hbr => ?_)) | (with_reducible refine br_ifn (fun hbr => ?_) (fun hbr => ?_)) | (with_reducible refine br_nb (fun hbr => ?_) (fun hbr => ?_)) | (with_reducible refine br_b (fun hbr => ?_) (fun hbr => ?_)) | simp (disch := first | omega | (simp only [List.length_take, List.length_drop, List.length_append, List.map_cons, List.map_nil, List.length_map, List.length_cons, List.length_nil, List.length_set, List.length_replicate]; omega) | (simp only [List.length_cons, List.length_nil, Nat.zero_add, Nat.reduceAdd])) only [go_sem, ↓reduceIte, Nat.reduceAdd, Int.reduceNeg, Int.reduceAdd, Int.reduceSub, Int.reduceMul, Int.reduceLT, Int.reduceLE, Int.reduceEq, Int.reduceToNat, Nat.reduceBEq, e_sle, e_sge, e_shl1, e_orI, e_andI, e_shr, wrapu, wrap8, tn1, nat1, ix_s, ix_z, st_s, st_z, fl_s, fl_z, fl1_s, fl1_z, map_s, map_z, true_and])
    subst h9; exact ret_b (by simp [kidB])
  simp (disch := first | omega | (simp only [List.length_take, List.length_drop, List.length_append, List.map_cons, List.map_nil, List.length_map, List.length_cons, List.length_nil, List.length_set, List.length_replicate]; omega) | (simp only [List.length_cons, List.length_nil, Nat.zero_add, Nat.reduceAdd])) only [go_sem, ↓reduceIte, Nat.reduceAdd, Int.reduceNeg, Int.reduceAdd, Int.reduceSub, Int.reduceMul, Int.reduceLT, Int.reduceLE, Int.reduceEq, Int.reduceToNat, Nat.reduceBEq, e_sle, e_sge, e_shl1, e_orI, e_andI, e_shr, wrapu, wrap8, tn1, nat1, ix_s, ix_z, st_s, st_z, fl_s, fl_z, fl1_s, fl1_z, map_s, map_z, true_and]
  refine jn_eq [.sc (.bool (decide (k ∈ [10, 14, 21, 33, 22, 23, 26, 27, 31])))] ?_ ?_
  · repeat' (first | (with_reducible refine jn_in ?_) | (with_reducible refine cl_ok (by assumption) rfl ?_) | (with_reducible refine cl_okP (by assumption) rfl ?_) | (with_reducible refine br_if (fun hbr => ?_) (fun hbr => ?_)) | (with_reducible refine br_ifn (fun hbr => ?_) (fun hbr => ?_)) | (with_reducible refine br_nb (fun hbr => ?_) (fun hbr => ?_)) | (with_reducible refine br_b (fun hbr => ?_) (fun hbr => ?_)) | simp (disch := first | omega | (simp only [List.length_take, List.length_drop, List.length_append, List.map_cons, List.map_nil, List.length_map, List.length_cons, List.length_nil, List.length_set, List.length_replicate]; omega) | (simp only [List.length_cons, List.length_nil, Nat.zero_add, Nat.reduceAdd])) only [go_sem, ↓reduceIte, Nat.reduceAdd, Int.reduceNeg, Int.reduceAdd, Int.reduceSub, Int.reduceMul, Int.reduceLT, Int.reduceLE, Int.reduceEq, Int.reduceToNat, Nat.reduceBEq, e_sle, e_sge, e_shl1, e_orI, e_andI, e_shr, wrapu, wrap8, tn1, nat1, ix_s, ix_z, st_s, st_z, fl_s, fl_z, fl1_s, fl1_z, map_s, map_z, true_and])
    all_goals first
      | (subst_vars; exact b1 (by decide))
      | exact b1 (by simp [*])
      | skip
  simp only [u_impl_kidsRight_j0]
  have h89 : ¬ k ∈ [8, 9] := by simp [h8, h9]
  refine br_b (fun h2 => ?_) (fun h2 => ?_)
  · have h2 := of_decide_eq_true h2
    repeat' (first | (with_reducible refine jn_in ?_) | (with_reducible refine cl_ok (by assumption) rfl ?_) | (with_reducible refine cl_okP (by assumption) rfl ?_) | (with_reducible refine br_if (fun hbr => ?_) (fun hbr => ?_)) | (with_reducible refine br_ifn (fun hbr => ?_) (fun hbr => ?_)) | (with_reducible refine br_nb (fun hbr => ?_) (fun hbr => ?_)) | (with_reducible refine br_b (fun hbr => ?_) (fun hbr => ?_)) | simp (disch := first | omega | (simp only [List.length_take, List.length_drop, List.length_append, List.map_cons, List.map_nil, List.length_map, List.length_cons, List.length_nil, List.length_set, List.length_replicate]; omega) | (simp only [List.length_cons, List.length_nil, Nat.zero_add, Nat.reduceAdd])) only [go_sem, ↓reduceIte, Nat.reduceAdd, Int.reduceNeg, Int.reduceAdd, Int.reduceSub, Int.reduceMul, Int.reduceLT, Int.reduceLE, Int.reduceEq, Int.reduceToNat, Nat.reduceBEq, e_sle, e_sge, e_shl1, e_orI, e_andI, e_shr, wrapu, wrap8, tn1, nat1, ix_s, ix_z, st_s, st_z, fl_s, fl_z, fl1_s, fl1_z, map_s, map_z, true_and])
    exact ret_b (by rw [kidB, if_neg (by simp [h0, h15]), if_neg h1, if_neg h89, if_pos h2])
  have h2 := of_decide_eq_false h2
  have hk : kidB k c L.length = if k = 16 then decide (c = 2 ∨ c = 3) else decide (c = 2) := by rw [kidB, if_neg (by simp [h0, h15]), if_neg h1, if_neg h89, if_neg h2]
  rw [hk]
  repeat' (first | (with_reducible refine jn_in ?_) | (with_reducible refine cl_ok (by assumption) rfl ?_) | (with_reducible refine cl_okP (by assumption) rfl ?_) | (with_reducible refine br_if (fun hbr => ?_) (fun hbr => ?_)) | (with_reducible refine br_ifn (fun hbr => ?_) (fun hbr => ?_)) | (with_reducible refine br_nb (fun hbr => ?_) (fun hbr => ?_)) | (with_reducible refine br_b (fun hbr => ?_) (fun hbr => ?_)) | simp (disch := first | omega | (simp only [List.length_take, List.length_drop, List.length_append, List.map_cons, List.map_nil, List.length_map, List.length_cons, List.length_nil, List.length_set, List.length_replicate]; omega) | (simp only [List.length_cons, List.length_nil, Nat.zero_add, Nat.reduceAdd])) only [go_sem, ↓reduceIte, Nat.reduceAdd, Int.reduceNeg, Int.reduceAdd, Int.reduceSub, Int.reduceMul, Int.reduceLT, Int.reduceLE, Int.reduceEq, Int.reduceToNat, Nat.reduceBEq, e_sle, e_sge, e_shl1, e_orI, e_andI, e_shr, wrapu, wrap8, tn1, nat1, ix_s, ix_z, st_s, st_z, fl_s, fl_z, fl1_s, fl1_z, map_s, map_z, true_and])
  all_goals first
    | (exfalso; omega)
    | exact ret_b (by simp [*])
    | skip
end Go.Proofs.Ytfdpkdfmkedkmaa

namespace Go.Proofs.Ytfdpkdfmkedkmaa
open Go.RowKit
set_option maxRecDepth 100000
theorem labR8 {k : Int} {L : List ByteArray} (h : k = 8) : labR k L = allB (labN L) L.length := by unfold labR; rw [if_pos h]
theorem labR9 {k : Int} {L : List ByteArray} (h : k = 9) : labR k L = allB (labS L) L.length := by subst h; rfl
theorem labR26 {k : Int} {L : List ByteArray} (h : k = 26) : labR k L = (decide (L.length = 1) && decide (1 ≤ ((L.getD 0 default).size : Int) ∧ ((L.getD 0 default).size : Int) ≤ 60)) := by subst h; rfl
theorem labR27 {k : Int} {L : List ByteArray} (h : k = 27) : labR k L = (decide (L.length = 1) && (nameB (L.getD 0 default) && nameB (L.getD 0 default ++ ⟨#[60, 45]⟩))) := by subst h; rfl
theorem labR_e {k : Int} {L : List ByteArray} (h1 : ¬ k = 8) (h2 : ¬ k = 9) (h3 : ¬ k = 26) (h4 : ¬ k = 27) : labR k L = true := by unfold labR; rw [if_neg h1, if_neg h2, if_neg h3, if_neg h4]
theorem implLab_m (k n c : Int) (s : ByteArray) (L : List ByteArray) (hL : L.length ≤ 1048576) (hs : ∀ x ∈ L, x.size ≤ 1048576) : Meets Try.prog 66 [(true, encNod ⟨k, n, s, L, c⟩)] [(false, [.sc (.bool (labR k L))], true)] := by
  have hN := fun i => implName_m (L.getD i default) (by have := getD_le hs i; omega)
  have hN2 := implName_m (L.getD 0 default ++ ⟨#[60, 45]⟩) (by have := getD_le hs 0; rw [ByteArray.size_append]; show _ + 2 ≤ _; omega)
  have hH := fun i s => hasText_m 9 (L.take i) s (by rw [List.length_take]; omega)
  refine meets_upf Try.func66 u_impl_labelsRight_g rfl ?_; simp only [u_impl_labelsRight_u]
  simp only [encNod, encSs]
  simp (disch := first | omega | (simp only [List.length_take, List.length_drop, List.length_append, List.map_cons, List.map_nil, List.length_map, List.length_cons, List.length_nil, List.length_set, List.length_replicate]; omega) | (simp only [List.length_cons, List.length_nil, Nat.zero_add, Nat.reduceAdd])) only [go_sem, ↓reduceIte, Nat.reduceAdd, Int.reduceNeg, Int.reduceAdd, Int.reduceSub, Int.reduceMul, Int.reduceLT, Int.reduceLE, Int.reduceEq, Int.reduceToNat, Nat.reduceBEq, e_sle, e_sge, e_shl1, e_orI, e_andI, e_shr, wrapu, wrap8, tn1, nat1, ix_s, ix_z, st_s, st_z, fl_s, fl_z, fl1_s, fl1_z, map_s, map_z, true_and]
  refine br_if (fun h8 => ?_) (fun h8 => ?_)
  · rw [labR8 h8]
    simp (disch := first | omega | (simp only [List.length_take, List.length_drop, List.length_append, List.map_cons, List.map_nil, List.length_map, List.length_cons, List.length_nil, List.length_set, List.length_replicate]; omega) | (simp only [List.length_cons, List.length_nil, Nat.zero_add, Nat.reduceAdd])) only [go_sem, ↓reduceIte, Nat.reduceAdd, Int.reduceNeg, Int.reduceAdd, Int.reduceSub, Int.reduceMul, Int.reduceLT, Int.reduceLE, Int.reduceEq, Int.reduceToNat, Nat.reduceBEq, e_sle, e_sge, e_shl1, e_orI, e_andI, e_shr, wrapu, wrap8, tn1, nat1, ix_s, ix_z, st_s, st_z, fl_s, fl_z, fl1_s, fl1_z, map_s, map_z, true_and]
    refine lp (fun i : Nat => [.sc (.int .i64 i)]) (fun i => i ≤ L.length ∧ allB (labN L) i = true) (fun i => L.length - i) 0 rfl ⟨by omega, rfl⟩ ?_
    rintro i ⟨hi, hb⟩
    simp only [u_impl_labelsRight_l0]
    by_cases hlt : i < L.length
    · have hNi := hN i
      have hHi := hH i (L.getD i default)
      rw [hasB_take hlt] at hHi
      repeat' (first | (with_reducible refine jn_in ?_) | (with_reducible refine cl_ok (by assumption) rfl ?_) | (with_reducible refine cl_okP (by assumption) rfl ?_) | (with_reducible refine br_if (fun hbr => ?_) (fun hbr => ?_)) | (with_reducible refine br_ifn (fun hbr => ?_) (fun hbr => ?_)) | (with_reducible refine br_nb (fun hbr => ?_) (fun hbr => ?_)) | (with_reducible refine br_b (fun hbr => ?_) (fun hbr => ?_)) | simp (disch := first | omega | (simp only [List.length_take, List.length_drop, List.length_append, List.map_cons, List.map_nil, List.length_map, List.length_cons, List.length_nil, List.length_set, List.length_replicate]; omega) | (simp only [List.length_cons, List.length_nil, Nat.zero_add, Nat.reduceAdd])) only [go_sem, ↓reduceIte, Nat.reduceAdd, Int.reduceNeg, Int.reduceAdd, Int.reduceSub, Int.reduceMul, Int.reduceLT, Int.reduceLE, Int.reduceEq, Int.reduceToNat, Nat.reduceBEq, e_sle, e_sge, e_shl1, e_orI, e_andI, e_shr, wrapu, wrap8, tn1, nat1, ix_s, ix_z, st_s, st_z, fl_s, fl_z, fl1_s, fl1_z, map_s, map_z, true_and])
      all_goals first
        | omega
        | exact ret_b (allB_no hlt (by (first | (simp [-List.getD_eq_getElem?_getD, labN, *]; done) | (simp_all [-List.getD_eq_getElem?_getD, labN]; done) | (simp [-List.getD_eq_getElem?_getD, labN, *]; omega) | (simp_all [-List.getD_eq_getElem?_getD, labN]; omega) | omega)))
        | exact ⟨i + 1, rfl, ⟨by omega, allB_step hb (by (first | (simp [-List.getD_eq_getElem?_getD, labN, *]; done) | (simp_all [-List.getD_eq_getElem?_getD, labN]; done) | (simp [-List.getD_eq_getElem?_getD, labN, *]; omega) | (simp_all [-List.getD_eq_getElem?_getD, labN]; omega) | omega))⟩, by omega⟩
        | skip
    · obtain rfl : i = L.length := by omega
      repeat' (first | (with_reducible refine jn_in ?_) | (with_reducible refine cl_ok (by assumption) rfl ?_) | (with_reducible refine cl_okP (by assumption) rfl ?_) | (with_reducible refine br_if (fun hbr => ?_) (fun hbr => ?_)) | (with_reducible refine br_ifn (fun hbr => ?_) (fun hbr => ?_)) | (with_reducible refine br_nb (fun hbr => ?_) (fun hbr => ?_)) | (with_reducible refine br_b (fun hbr => ?_) (fun hbr => ?_)) | simp (disch := first | omega | (simp only [List.length_take, List.length_drop, List.length_append, List.map_cons, List.map_nil, List.length_map, List.length_cons, List.length_nil, List.length_set, List.length_replicate]; omega) | (simp only [List.length_cons, List.length_nil, Nat.zero_add, Nat.reduceAdd])) only [go_sem, ↓reduceIte, Nat.reduceAdd, Int.reduceNeg, Int.reduceAdd, Int.reduceSub, Int.reduceMul, Int.reduceLT, Int.reduceLE, Int.reduceEq, Int.reduceToNat, Nat.reduceBEq, e_sle, e_sge, e_shl1, e_orI, e_andI, e_shr, wrapu, wrap8, tn1, nat1, ix_s, ix_z, st_s, st_z, fl_s, fl_z, fl1_s, fl1_z, map_s, map_z, true_and])
      all_goals first | omega | exact ret_b hb | skip
  simp (disch := first | omega | (simp only [List.length_take, List.length_drop, List.length_append, List.map_cons, List.map_nil, List.length_map, List.length_cons, List.length_nil, List.length_set, List.length_replicate]; omega) | (simp only [List.length_cons, List.length_nil, Nat.zero_add, Nat.reduceAdd])) only [go_sem, ↓reduceIte, Nat.reduceAdd, Int.reduceNeg, Int.reduceAdd, Int.reduceSub, Int.reduceMul, Int.reduceLT, Int.reduceLE, Int.reduceEq, Int.reduceToNat, Nat.reduceBEq, e_sle, e_sge, e_shl1, e_orI, e_andI, e_shr, wrapu, wrap8, tn1, nat1, ix_s, ix_z, st_s, st_z, fl_s, fl_z, fl1_s, fl1_z, map_s, map_z, true_and]
  refine br_if (fun h9 => ?_) (fun h9 => ?_)
  · rw [labR9 h9]
    simp (disch := first | omega | (simp only [List.length_take, List.length_drop, List.length_append, List.map_cons, List.map_nil, List.length_map, List.length_cons, List.length_nil, List.length_set, List.length_replicate]; omega) | (simp only [List.length_cons, List.length_nil, Nat.zero_add, Nat.reduceAdd])) only [go_sem, ↓reduceIte, Nat.reduceAdd, Int.reduceNeg, Int.reduceAdd, Int.reduceSub, Int.reduceMul, Int.reduceLT, Int.reduceLE, Int.reduceEq, Int.reduceToNat, Nat.reduceBEq, e_sle, e_sge, e_shl1, e_orI, e_andI, e_shr, wrapu, wrap8, tn1, nat1, ix_s, ix_z, st_s, st_z, fl_s, fl_z, fl1_s, fl1_z, map_s, map_z, true_and]
    refine lp (fun i : Nat => [.sc (.int .i64 i)]) (fun i => i ≤ L.length ∧ allB (labS L) i = true) (fun i => L.length - i) 0 rfl ⟨by omega, rfl⟩ ?_
    rintro i ⟨hi, hb⟩
    simp only [u_impl_labelsRight_l1]
    by_cases hlt : i < L.length
    · repeat' (first | (with_reducible refine jn_in ?_) | (with_reducible refine cl_ok (by assumption) rfl ?_) | (with_reducible refine cl_okP (by assumption) rfl ?_) | (with_reducible refine br_if (fun hbr => ?_) (fun hbr => ?_)) | (with_reducible refine br_ifn (fun hbr => ?_) (fun hbr => ?_)) | (with_reducible refine br_nb (fun hbr => ?_) (fun hbr => ?_)) | (with_reducible refine br_b (fun hbr => ?_) (fun hbr => ?_)) | simp (disch := first | omega | (simp only [List.length_take, List.length_drop, List.length_append, List.map_cons, List.map_nil, List.length_map, List.length_cons, List.length_nil, List.length_set, List.length_replicate]; omega) | (simp only [List.length_cons, List.length_nil, Nat.zero_add, Nat.reduceAdd])) only [go_sem, ↓reduceIte, Nat.reduceAdd, Int.reduceNeg, Int.reduceAdd, Int.reduceSub, Int.reduceMul, Int.reduceLT, Int.reduceLE, Int.reduceEq, Int.reduceToNat, Nat.reduceBEq, e_sle, e_sge, e_shl1, e_orI, e_andI, e_shr, wrapu, wrap8, tn1, nat1, ix_s, ix_z, st_s, st_z, fl_s, fl_z, fl1_s, fl1_z, map_s, map_z, true_and])
      all_goals first
        | omega
        | exact ret_b (allB_no hlt (by (first | (simp [-List.getD_eq_getElem?_getD, labS, *]; done) | (simp_all [-List.getD_eq_getElem?_getD, labS]; done) | (simp [-List.getD_eq_getElem?_getD, labS, *]; omega) | (simp_all [-List.getD_eq_getElem?_getD, labS]; omega) | omega)))
        | exact ⟨i + 1, rfl, ⟨by omega, allB_step hb (by (first | (simp [-List.getD_eq_getElem?_getD, labS, *]; done) | (simp_all [-List.getD_eq_getElem?_getD, labS]; done) | (simp [-List.getD_eq_getElem?_getD, labS, *]; omega) | (simp_all [-List.getD_eq_getElem?_getD, labS]; omega) | omega))⟩, by omega⟩
        | skip
    · obtain rfl : i = L.length := by omega
      repeat' (first | (with_reducible refine jn_in ?_) | (with_reducible refine cl_ok (by assumption) rfl ?_) | (with_reducible refine cl_okP (by assumption) rfl ?_) | (with_reducible refine br_if (fun hbr => ?_) (fun hbr => ?_)) | (with_reducible refine br_ifn (fun hbr => ?_) (fun hbr => ?_)) | (with_reducible refine br_nb (fun hbr => ?_) (fun hbr => ?_)) | (with_reducible refine br_b (fun hbr => ?_) (fun hbr => ?_)) | simp (disch := first | omega | (simp only [List.length_take, List.length_drop, List.length_append, List.map_cons, List.map_nil, List.length_map, List.length_cons, List.length_nil, List.length_set, List.length_replicate]; omega) | (simp only [List.length_cons, List.length_nil, Nat.zero_add, Nat.reduceAdd])) only [go_sem, ↓reduceIte, Nat.reduceAdd, Int.reduceNeg, Int.reduceAdd, Int.reduceSub, Int.reduceMul, Int.reduceLT, Int.reduceLE, Int.reduceEq, Int.reduceToNat, Nat.reduceBEq, e_sle, e_sge, e_shl1, e_orI, e_andI, e_shr, wrapu, wrap8, tn1, nat1, ix_s, ix_z, st_s, st_z, fl_s, fl_z, fl1_s, fl1_z, map_s, map_z, true_and])
      all_goals first | omega | exact ret_b hb | skip
  simp (disch := first | omega | (simp only [List.length_take, List.length_drop, List.length_append, List.map_cons, List.map_nil, List.length_map, List.length_cons, List.length_nil, List.length_set, List.length_replicate]; omega) | (simp only [List.length_cons, List.length_nil, Nat.zero_add, Nat.reduceAdd])) only [go_sem, ↓reduceIte, Nat.reduceAdd, Int.reduceNeg, Int.reduceAdd, Int.reduceSub, Int.reduceMul, Int.reduceLT, Int.reduceLE, Int.reduceEq, Int.reduceToNat, Nat.reduceBEq, e_sle, e_sge, e_shl1, e_orI, e_andI, e_shr, wrapu, wrap8, tn1, nat1, ix_s, ix_z, st_s, st_z, fl_s, fl_z, fl1_s, fl1_z, map_s, map_z, true_and]
  refine br_if (fun h26 => ?_) (fun h26 => ?_)
  · rw [labR26 h26]
    repeat' (first | (with_reducible refine jn_in ?_) | (with_reducible refine cl_ok (by assumption) rfl ?_) | (with_reducible refine cl_okP (by assumption) rfl ?_) | (with_reducible refine br_if (fun hbr => ?_) (fun hbr => ?_)) | (with_reducible refine br_ifn (fun hbr => ?_) (fun hbr => ?_)) | (with_reducible refine br_nb (fun hbr => ?_) (fun hbr => ?_)) | (with_reducible refine br_b (fun hbr => ?_) (fun hbr => ?_)) | simp (disch := first | omega | (simp only [List.length_take, List.length_drop, List.length_append, List.map_cons, List.map_nil, List.length_map, List.length_cons, List.length_nil, List.length_set, List.length_replicate]; omega) | (simp only [List.length_cons, List.length_nil, Nat.zero_add, Nat.reduceAdd])) only [go_sem, ↓reduceIte, Nat.reduceAdd, Int.reduceNeg, Int.reduceAdd, Int.reduceSub, Int.reduceMul, Int.reduceLT, Int.reduceLE, Int.reduceEq, Int.reduceToNat, Nat.reduceBEq, e_sle, e_sge, e_shl1, e_orI, e_andI, e_shr, wrapu, wrap8, tn1, nat1, ix_s, ix_z, st_s, st_z, fl_s, fl_z, fl1_s, fl1_z, map_s, map_z, Int.toNat_zero])
    all_goals first
      | omega
      | exact ret_b (by rw [Bool.eq_iff_iff]; simp only [Bool.and_eq_true, decide_eq_true_eq, Bool.false_eq_true, iff_false]; omega)
      | skip
  simp (disch := first | omega | (simp only [List.length_take, List.length_drop, List.length_append, List.map_cons, List.map_nil, List.length_map, List.length_cons, List.length_nil, List.length_set, List.length_replicate]; omega) | (simp only [List.length_cons, List.length_nil, Nat.zero_add, Nat.reduceAdd])) only [go_sem, ↓reduceIte, Nat.reduceAdd, Int.reduceNeg, Int.reduceAdd, Int.reduceSub, Int.reduceMul, Int.reduceLT, Int.reduceLE, Int.reduceEq, Int.reduceToNat, Nat.reduceBEq, e_sle, e_sge, e_shl1, e_orI, e_andI, e_shr, wrapu, wrap8, tn1, nat1, ix_s, ix_z, st_s, st_z, fl_s, fl_z, fl1_s, fl1_z, map_s, map_z, true_and]
  refine br_if (fun h27 => ?_) (fun h27 => ?_)
  · rw [labR27 h27]
    have hN0 := hN 0
    have h0s := getD_le hs 0
    have e1 : (L.getD 0 default).size + (⟨#[60, 45]⟩ : ByteArray).size ≤ maxLen := by show _ + 2 ≤ _; unfold maxLen; omega
    repeat' (first | (with_reducible refine jn_in ?_) | (with_reducible refine cl_ok (by assumption) rfl ?_) | (with_reducible refine cl_okP (by assumption) rfl ?_) | (with_reducible refine br_if (fun hbr => ?_) (fun hbr => ?_)) | (with_reducible refine br_ifn (fun hbr => ?_) (fun hbr => ?_)) | (with_reducible refine br_nb (fun hbr => ?_) (fun hbr => ?_)) | (with_reducible refine br_b (fun hbr => ?_) (fun hbr => ?_)) | simp (disch := first | omega | (simp only [List.length_take, List.length_drop, List.length_append, List.map_cons, List.map_nil, List.length_map, List.length_cons, List.length_nil, List.length_set, List.length_replicate]; omega) | (simp only [List.length_cons, List.length_nil, Nat.zero_add, Nat.reduceAdd])) only [go_sem, ↓reduceIte, Nat.reduceAdd, Int.reduceNeg, Int.reduceAdd, Int.reduceSub, Int.reduceMul, Int.reduceLT, Int.reduceLE, Int.reduceEq, Int.reduceToNat, Nat.reduceBEq, e_sle, e_sge, e_shl1, e_orI, e_andI, e_shr, wrapu, wrap8, tn1, nat1, ix_s, ix_z, st_s, st_z, fl_s, fl_z, fl1_s, fl1_z, map_s, map_z, Int.toNat_zero, e_cat e1])
    all_goals first
      | omega
      | exact ret_b (by rw [decide_eq_false (by omega), Bool.false_and])
      | exact ret_b (by rw [decide_eq_true (by omega), Bool.true_and]; simp [-List.getD_eq_getElem?_getD, *]; done)
      | skip
  rw [labR_e h8 h9 h26 h27]
  repeat' (first | (with_reducible refine jn_in ?_) | (with_reducible refine cl_ok (by assumption) rfl ?_) | (with_reducible refine cl_okP (by assumption) rfl ?_) | (with_reducible refine br_if (fun hbr => ?_) (fun hbr => ?_)) | (with_reducible refine br_ifn (fun hbr => ?_) (fun hbr => ?_)) | (with_reducible refine br_nb (fun hbr => ?_) (fun hbr => ?_)) | (with_reducible refine br_b (fun hbr => ?_) (fun hbr => ?_)) | simp (disch := first | omega | (simp only [List.length_take, List.length_drop, List.length_append, List.map_cons, List.map_nil, List.length_map, List.length_cons, List.length_nil, List.length_set, List.length_replicate]; omega) | (simp only [List.length_cons, List.length_nil, Nat.zero_add, Nat.reduceAdd])) only [go_sem, ↓reduceIte, Nat.reduceAdd, Int.reduceNeg, Int.reduceAdd, Int.reduceSub, Int.reduceMul, Int.reduceLT, Int.reduceLE, Int.reduceEq, Int.reduceToNat, Nat.reduceBEq, e_sle, e_sge, e_shl1, e_orI, e_andI, e_shr, wrapu, wrap8, tn1, nat1, ix_s, ix_z, st_s, st_z, fl_s, fl_z, fl1_s, fl1_z, map_s, map_z, true_and])
  rfl
def topK (k : Int) : Int := if k = 2 then 999999999 else if k = 4 then 2 else if k = 5 then 1 else 0
def nodB (k n : Int) (s : ByteArray) (L : List ByteArray) (c : Int) : Bool :=
  decide (0 ≤ k ∧ k ≤ 35) && (kidB k c L.length && (decide (0 ≤ n ∧ n ≤ topK k) && (txtB k s && (if usL k = true then labR k L else decide (L.length = 0)))))
theorem usN_top {k : Int} (h : usN k = false) : topK k = 0 := by
  unfold usN at h
  have h := of_decide_eq_false h
  simp only [List.mem_cons, List.not_mem_nil, or_false, not_or] at h
  unfold topK; rw [if_neg h.1, if_neg h.2.1, if_neg h.2.2]
theorem usT_1 {k : Int} {s : ByteArray} (h : usT k = true) : txtB k s = txtR k s := by unfold txtB; rw [if_pos (of_decide_eq_true h)]
theorem usT_0 {k : Int} {s : ByteArray} (h : usT k = false) : txtB k s = decide (s = ⟨#[]⟩) := by unfold txtB; rw [if_neg (of_decide_eq_false h)]
def badB (k n : Int) (s : ByteArray) (L : List ByteArray) : Bool := (!usN k && !decide (n = 0)) || ((!usT k && !decide (s = ⟨#[]⟩)) || (!usL k && decide (0 < (L.length : Int))))
theorem bad_nod {k n c : Int} {s : ByteArray} {L : List ByteArray} (h : badB k n s L = true) : nodB k n s L c = false := by
  unfold badB at h
  simp only [Bool.or_eq_true, Bool.and_eq_true, Bool.not_eq_true', decide_eq_false_iff_not, decide_eq_true_eq] at h
  unfold nodB
  rcases h with ⟨h1, h2⟩ | ⟨h1, h2⟩ | ⟨h1, h2⟩
  · rw [usN_top h1, decide_eq_false (p := 0 ≤ n ∧ n ≤ 0) (by omega)]; simp
  · rw [usT_0 h1, decide_eq_false h2]; simp
  · rw [h1, decide_eq_false (p := L.length = 0) (by omega)]; simp
theorem good_nod {k n c : Int} {s : ByteArray} {L : List ByteArray} (h : badB k n s L = false) (h0 : 0 ≤ k ∧ k ≤ 35) (hk : kidB k c L.length = true) :
    nodB k n s L c = (decide (0 ≤ n ∧ n ≤ topK k) && ((!usT k || txtR k s) && (!usL k || labR k L))) := by
  unfold badB at h
  simp only [Bool.or_eq_false_iff, Bool.and_eq_false_iff, Bool.not_eq_false', decide_eq_false_iff_not, decide_eq_true_eq] at h
  obtain ⟨h1, h2, h3⟩ := h
  unfold nodB
  rw [decide_eq_true h0, hk, Bool.true_and, Bool.true_and]
  congr 1
  cases ht : usT k
  · rw [ht] at h2
    have h2 : s = ⟨#[]⟩ := h2.resolve_left (by decide)
    rw [usT_0 ht, decide_eq_true h2]
    cases hl : usL k
    · rw [hl] at h3
      have : L.length = 0 := by have h3 := h3.resolve_left (by decide); omega
      simp [this]
    · simp
  · rw [usT_1 ht]
    cases hl : usL k
    · rw [hl] at h3
      have : L.length = 0 := by have h3 := h3.resolve_left (by decide); omega
      simp [this]
    · simp
set_option maxHeartbeats 2000000 in
theorem implNod_m (k n c : Int) (s : ByteArray) (L : List ByteArray) (hz : s.size ≤ 1048576) (hL : L.length ≤ 1048576) (hs : ∀ x ∈ L, x.size ≤ 1048576) : Meets Try.prog 42 [(true, encNod ⟨k, n, s, L, c⟩)] [(false, [.sc (.bool (nodB k n s L c))], true)] := by
  have hK := implKids_m k n c s L hL
  have hU := implUses_m k
  have hT := implTxt_m k n c s L (by omega)
  have hB := implLab_m k n c s L hL hs
  have b1 : ∀ {a b : Bool}, a = b → [DV.sc (.bool a)] = [.sc (.bool b)] := fun h => by rw [h]
  refine meets_upf Try.func42 u_impl_nodeRight_g rfl ?_; simp only [u_impl_nodeRight_u]
  simp only [encNod, encSs] at hK hT hB ⊢
  simp (disch := first | omega | (simp only [List.length_take, List.length_drop, List.length_append, List.map_cons, List.map_nil, List.length_map, List.length_cons, List.length_nil, List.length_set, List.length_replicate]; omega) | (simp only [List.length_cons, List.length_nil, Nat.zero_add, Nat.reduceAdd])) only [go_sem, ↓reduceIte, Nat.reduceAdd, Int.reduceNeg, Int.reduceAdd, Int.reduceSub, Int.reduceMul, Int.reduceLT, Int.reduceLE, Int.reduceEq, Int.reduceToNat, Nat.reduceBEq, e_sle, e_sge, e_shl1, e_orI, e_andI, e_shr, wrapu, wrap8, tn1, nat1, ix_s, ix_z, st_s, st_z, fl_s, fl_z, fl1_s, fl1_z, map_s, map_z, true_and]
  refine br_if (fun h1 => ?_) (fun h1 => ?_)
  · repeat' (first | (with_reducible refine jn_in ?_) | (with_reducible refine cl_ok (by assumption) rfl ?_) | (with_reducible refine cl_okP (by assumption) rfl ?_) | (with_reducible refine br_if (fun hbr => ?_) (fun hbr => ?_)) | (with_reducible refine br_ifn (fun hbr => ?_) (fun hbr => ?_)) | (with_reducible refine br_nb (fun hbr => ?_) (fun hbr => ?_)) | (with_reducible refine br_b (fun hbr => ?_) (fun hbr => ?_)) | simp (disch := first | omega | (simp only [List.length_take, List.length_drop, List.length_append, List.map_cons, List.map_nil, List.length_map, List.length_cons, List.length_nil, List.length_set, List.length_replicate]; omega) | (simp only [List.length_cons, List.length_nil, Nat.zero_add, Nat.reduceAdd])) only [go_sem, ↓reduceIte, Nat.reduceAdd, Int.reduceNeg, Int.reduceAdd, Int.reduceSub, Int.reduceMul, Int.reduceLT, Int.reduceLE, Int.reduceEq, Int.reduceToNat, Nat.reduceBEq, e_sle, e_sge, e_shl1, e_orI, e_andI, e_shr, wrapu, wrap8, tn1, nat1, ix_s, ix_z, st_s, st_z, fl_s, fl_z, fl1_s, fl1_z, map_s, map_z, true_and])
    exact ret_b (by unfold nodB; rw [decide_eq_false (by omega), Bool.false_and])
  simp (disch := first | omega | (simp only [List.length_take, List.length_drop, List.length_append, List.map_cons, List.map_nil, List.length_map, List.length_cons, List.length_nil, List.length_set, List.length_replicate]; omega) | (simp only [List.length_cons, List.length_nil, Nat.zero_add, Nat.reduceAdd])) only [go_sem, ↓reduceIte, Nat.reduceAdd, Int.reduceNeg, Int.reduceAdd, Int.reduceSub, Int.reduceMul, Int.reduceLT, Int.reduceLE, Int.reduceEq, Int.reduceToNat, Nat.reduceBEq, e_sle, e_sge, e_shl1, e_orI, e_andI, e_shr, wrapu, wrap8, tn1, nat1, ix_s, ix_z, st_s, st_z, fl_s, fl_z, fl1_s, fl1_z, map_s, map_z, true_and]
  refine br_if (fun h2 => ?_) (fun h2 => ?_)
  · repeat' (first | (with_reducible refine jn_in ?_) | (with_reducible refine cl_ok (by assumption) rfl ?_) | (with_reducible refine cl_okP (by assumption) rfl ?_) | (with_reducible refine br_if (fun hbr => ?_) (fun hbr => ?_)) | (with_reducible refine br_ifn (fun hbr => ?_) (fun hbr => ?_)) | (with_reducible refine br_nb (fun hbr => ?_) (fun hbr => ?_)) | (with_reducible refine br_b (fun hbr => ?_) (fun hbr => ?_)) | simp (disch := first | omega | (simp only [List.length_take, List.length_drop, List.length_append, List.map_cons, List.map_nil, List.length_map, List.length_cons, List.length_nil, List.length_set, List.length_replicate]; omega) | (simp only [List.length_cons, List.length_nil, Nat.zero_add, Nat.reduceAdd])) only [go_sem, ↓reduceIte, Nat.reduceAdd, Int.reduceNeg, Int.reduceAdd, Int.reduceSub, Int.reduceMul, Int.reduceLT, Int.reduceLE, Int.reduceEq, Int.reduceToNat, Nat.reduceBEq, e_sle, e_sge, e_shl1, e_orI, e_andI, e_shr, wrapu, wrap8, tn1, nat1, ix_s, ix_z, st_s, st_z, fl_s, fl_z, fl1_s, fl1_z, map_s, map_z, true_and])
    exact ret_b (by unfold nodB; rw [decide_eq_false (by omega), Bool.false_and])
  simp (disch := first | omega | (simp only [List.length_take, List.length_drop, List.length_append, List.map_cons, List.map_nil, List.length_map, List.length_cons, List.length_nil, List.length_set, List.length_replicate]; omega) | (simp only [List.length_cons, List.length_nil, Nat.zero_add, Nat.reduceAdd])) only [go_sem, ↓reduceIte, Nat.reduceAdd, Int.reduceNeg, Int.reduceAdd, Int.reduceSub, Int.reduceMul, Int.reduceLT, Int.reduceLE, Int.reduceEq, Int.reduceToNat, Nat.reduceBEq, e_sle, e_sge, e_shl1, e_orI, e_andI, e_shr, wrapu, wrap8, tn1, nat1, ix_s, ix_z, st_s, st_z, fl_s, fl_z, fl1_s, fl1_z, map_s, map_z, true_and]
  refine cl_ok hK rfl ?_
  cases hk : kidB k c L.length
  · repeat' (first | (with_reducible refine jn_in ?_) | (with_reducible refine cl_ok (by assumption) rfl ?_) | (with_reducible refine cl_okP (by assumption) rfl ?_) | (with_reducible refine br_if (fun hbr => ?_) (fun hbr => ?_)) | (with_reducible refine br_ifn (fun hbr => ?_) (fun hbr => ?_)) | (with_reducible refine br_nb (fun hbr => ?_) (fun hbr => ?_)) | (with_reducible refine br_b (fun hbr => ?_) (fun hbr => ?_)) | simp (disch := first | omega | (simp only [List.length_take, List.length_drop, List.length_append, List.map_cons, List.map_nil, List.length_map, List.length_cons, List.length_nil, List.length_set, List.length_replicate]; omega) | (simp only [List.length_cons, List.length_nil, Nat.zero_add, Nat.reduceAdd])) only [go_sem, ↓reduceIte, Nat.reduceAdd, Int.reduceNeg, Int.reduceAdd, Int.reduceSub, Int.reduceMul, Int.reduceLT, Int.reduceLE, Int.reduceEq, Int.reduceToNat, Nat.reduceBEq, e_sle, e_sge, e_shl1, e_orI, e_andI, e_shr, wrapu, wrap8, tn1, nat1, ix_s, ix_z, st_s, st_z, fl_s, fl_z, fl1_s, fl1_z, map_s, map_z, true_and])
    exact ret_b (by unfold nodB; rw [hk, Bool.false_and, Bool.and_false])
  simp (disch := first | omega | (simp only [List.length_take, List.length_drop, List.length_append, List.map_cons, List.map_nil, List.length_map, List.length_cons, List.length_nil, List.length_set, List.length_replicate]; omega) | (simp only [List.length_cons, List.length_nil, Nat.zero_add, Nat.reduceAdd])) only [go_sem, ↓reduceIte, Nat.reduceAdd, Int.reduceNeg, Int.reduceAdd, Int.reduceSub, Int.reduceMul, Int.reduceLT, Int.reduceLE, Int.reduceEq, Int.reduceToNat, Nat.reduceBEq, e_sle, e_sge, e_shl1, e_orI, e_andI, e_shr, wrapu, wrap8, tn1, nat1, ix_s, ix_z, st_s, st_z, fl_s, fl_z, fl1_s, fl1_z, map_s, map_z, true_and]
  refine cl_ok hU rfl ?_
  simp (disch := first | omega | (simp only [List.length_take, List.length_drop, List.length_append, List.map_cons, List.map_nil, List.length_map, List.length_cons, List.length_nil, List.length_set, List.length_replicate]; omega) | (simp only [List.length_cons, List.length_nil, Nat.zero_add, Nat.reduceAdd])) only [go_sem, ↓reduceIte, Nat.reduceAdd, Int.reduceNeg, Int.reduceAdd, Int.reduceSub, Int.reduceMul, Int.reduceLT, Int.reduceLE, Int.reduceEq, Int.reduceToNat, Nat.reduceBEq, e_sle, e_sge, e_shl1, e_orI, e_andI, e_shr, wrapu, wrap8, tn1, nat1, ix_s, ix_z, st_s, st_z, fl_s, fl_z, fl1_s, fl1_z, map_s, map_z, true_and]
  refine jn_eq [.sc (.bool (badB k n s L))] ?_ ?_
  · unfold badB
    cases usN k <;> cases usT k <;> cases usL k
    all_goals
      repeat' (first | (with_reducible refine jn_in ?_) | (with_reducible refine cl_ok (by assumption) rfl ?_) | (with_reducible refine cl_okP (by assumption) rfl ?_) | (with_reducible refine br_if (fun hbr => ?_) (fun hbr => ?_)) | (with_reducible refine br_ifn (fun hbr => ?_) (fun hbr => ?_)) | (with_reducible refine br_nb (fun hbr => ?_) (fun hbr => ?_)) | (with_reducible refine br_b (fun hbr => ?_) (fun hbr => ?_)) | simp (disch := first | omega | (simp only [List.length_take, List.length_drop, List.length_append, List.map_cons, List.map_nil, List.length_map, List.length_cons, List.length_nil, List.length_set, List.length_replicate]; omega) | (simp only [List.length_cons, List.length_nil, Nat.zero_add, Nat.reduceAdd])) only [go_sem, ↓reduceIte, Nat.reduceAdd, Int.reduceNeg, Int.reduceAdd, Int.reduceSub, Int.reduceMul, Int.reduceLT, Int.reduceLE, Int.reduceEq, Int.reduceToNat, Nat.reduceBEq, e_sle, e_sge, e_shl1, e_orI, e_andI, e_shr, wrapu, wrap8, tn1, nat1, ix_s, ix_z, st_s, st_z, fl_s, fl_z, fl1_s, fl1_z, map_s, map_z, true_and])
      all_goals first
        | omega
        | exact b1 (by simp [*])
        | skip
  simp only [u_impl_nodeRight_j0]
  cases hbad : badB k n s L
  rotate_left
  · repeat' (first | (with_reducible refine jn_in ?_) | (with_reducible refine cl_ok (by assumption) rfl ?_) | (with_reducible refine cl_okP (by assumption) rfl ?_) | (with_reducible refine br_if (fun hbr => ?_) (fun hbr => ?_)) | (with_reducible refine br_ifn (fun hbr => ?_) (fun hbr => ?_)) | (with_reducible refine br_nb (fun hbr => ?_) (fun hbr => ?_)) | (with_reducible refine br_b (fun hbr => ?_) (fun hbr => ?_)) | simp (disch := first | omega | (simp only [List.length_take, List.length_drop, List.length_append, List.map_cons, List.map_nil, List.length_map, List.length_cons, List.length_nil, List.length_set, List.length_replicate]; omega) | (simp only [List.length_cons, List.length_nil, Nat.zero_add, Nat.reduceAdd])) only [go_sem, ↓reduceIte, Nat.reduceAdd, Int.reduceNeg, Int.reduceAdd, Int.reduceSub, Int.reduceMul, Int.reduceLT, Int.reduceLE, Int.reduceEq, Int.reduceToNat, Nat.reduceBEq, e_sle, e_sge, e_shl1, e_orI, e_andI, e_shr, wrapu, wrap8, tn1, nat1, ix_s, ix_z, st_s, st_z, fl_s, fl_z, fl1_s, fl1_z, map_s, map_z, true_and])
    exact ret_b (bad_nod hbad)
  have hg := good_nod hbad ⟨by omega, by omega⟩ hk
  rw [hg]
  simp (disch := first | omega | (simp only [List.length_take, List.length_drop, List.length_append, List.map_cons, List.map_nil, List.length_map, List.length_cons, List.length_nil, List.length_set, List.length_replicate]; omega) | (simp only [List.length_cons, List.length_nil, Nat.zero_add, Nat.reduceAdd])) only [go_sem, ↓reduceIte, Nat.reduceAdd, Int.reduceNeg, Int.reduceAdd, Int.reduceSub, Int.reduceMul, Int.reduceLT, Int.reduceLE, Int.reduceEq, Int.reduceToNat, Nat.reduceBEq, e_sle, e_sge, e_shl1, e_orI, e_andI, e_shr, wrapu, wrap8, tn1, nat1, ix_s, ix_z, st_s, st_z, fl_s, fl_z, fl1_s, fl1_z, map_s, map_z, true_and]
  refine br_if (fun h2 => ?_) (fun h2 => ?_)
  · repeat' (first | (with_reducible refine jn_in ?_) | (with_reducible refine cl_ok (by assumption) rfl ?_) | (with_reducible refine cl_okP (by assumption) rfl ?_) | (with_reducible refine br_if (fun hbr => ?_) (fun hbr => ?_)) | (with_reducible refine br_ifn (fun hbr => ?_) (fun hbr => ?_)) | (with_reducible refine br_nb (fun hbr => ?_) (fun hbr => ?_)) | (with_reducible refine br_b (fun hbr => ?_) (fun hbr => ?_)) | simp (disch := first | omega | (simp only [List.length_take, List.length_drop, List.length_append, List.map_cons, List.map_nil, List.length_map, List.length_cons, List.length_nil, List.length_set, List.length_replicate]; omega) | (simp only [List.length_cons, List.length_nil, Nat.zero_add, Nat.reduceAdd])) only [go_sem, ↓reduceIte, Nat.reduceAdd, Int.reduceNeg, Int.reduceAdd, Int.reduceSub, Int.reduceMul, Int.reduceLT, Int.reduceLE, Int.reduceEq, Int.reduceToNat, Nat.reduceBEq, e_sle, e_sge, e_shl1, e_orI, e_andI, e_shr, wrapu, wrap8, tn1, nat1, ix_s, ix_z, st_s, st_z, fl_s, fl_z, fl1_s, fl1_z, map_s, map_z, true_and])
    all_goals first
      | omega
      | (subst h2; exact ret_b (by rw [show usT 2 = false from by decide, show usL 2 = false from by decide, show topK 2 = 999999999 from by decide]; simp [*]; done))
      | (subst h2; exact ret_b (by rw [show topK 2 = 999999999 from by decide, decide_eq_false (by omega), Bool.false_and]))
      | skip
  simp (disch := first | omega | (simp only [List.length_take, List.length_drop, List.length_append, List.map_cons, List.map_nil, List.length_map, List.length_cons, List.length_nil, List.length_set, List.length_replicate]; omega) | (simp only [List.length_cons, List.length_nil, Nat.zero_add, Nat.reduceAdd])) only [go_sem, ↓reduceIte, Nat.reduceAdd, Int.reduceNeg, Int.reduceAdd, Int.reduceSub, Int.reduceMul, Int.reduceLT, Int.reduceLE, Int.reduceEq, Int.reduceToNat, Nat.reduceBEq, e_sle, e_sge, e_shl1, e_orI, e_andI, e_shr, wrapu, wrap8, tn1, nat1, ix_s, ix_z, st_s, st_z, fl_s, fl_z, fl1_s, fl1_z, map_s, map_z, true_and]
  refine br_if (fun h4 => ?_) (fun h4 => ?_)
  · repeat' (first | (with_reducible refine jn_in ?_) | (with_reducible refine cl_ok (by assumption) rfl ?_) | (with_reducible refine cl_okP (by assumption) rfl ?_) | (with_reducible refine br_if (fun hbr => ?_) (fun hbr => ?_)) | (with_reducible refine br_ifn (fun hbr => ?_) (fun hbr => ?_)) | (with_reducible refine br_nb (fun hbr => ?_) (fun hbr => ?_)) | (with_reducible refine br_b (fun hbr => ?_) (fun hbr => ?_)) | simp (disch := first | omega | (simp only [List.length_take, List.length_drop, List.length_append, List.map_cons, List.map_nil, List.length_map, List.length_cons, List.length_nil, List.length_set, List.length_replicate]; omega) | (simp only [List.length_cons, List.length_nil, Nat.zero_add, Nat.reduceAdd])) only [go_sem, ↓reduceIte, Nat.reduceAdd, Int.reduceNeg, Int.reduceAdd, Int.reduceSub, Int.reduceMul, Int.reduceLT, Int.reduceLE, Int.reduceEq, Int.reduceToNat, Nat.reduceBEq, e_sle, e_sge, e_shl1, e_orI, e_andI, e_shr, wrapu, wrap8, tn1, nat1, ix_s, ix_z, st_s, st_z, fl_s, fl_z, fl1_s, fl1_z, map_s, map_z, true_and])
    all_goals first
      | omega
      | (subst h4; exact ret_b (by rw [show usT 4 = false from by decide, show usL 4 = false from by decide, show topK 4 = 2 from by decide]; simp [*]; done))
      | (subst h4; exact ret_b (by rw [show topK 4 = 2 from by decide, decide_eq_false (by omega), Bool.false_and]))
      | skip
  simp (disch := first | omega | (simp only [List.length_take, List.length_drop, List.length_append, List.map_cons, List.map_nil, List.length_map, List.length_cons, List.length_nil, List.length_set, List.length_replicate]; omega) | (simp only [List.length_cons, List.length_nil, Nat.zero_add, Nat.reduceAdd])) only [go_sem, ↓reduceIte, Nat.reduceAdd, Int.reduceNeg, Int.reduceAdd, Int.reduceSub, Int.reduceMul, Int.reduceLT, Int.reduceLE, Int.reduceEq, Int.reduceToNat, Nat.reduceBEq, e_sle, e_sge, e_shl1, e_orI, e_andI, e_shr, wrapu, wrap8, tn1, nat1, ix_s, ix_z, st_s, st_z, fl_s, fl_z, fl1_s, fl1_z, map_s, map_z, true_and]
  refine br_if (fun h5 => ?_) (fun h5 => ?_)
  · repeat' (first | (with_reducible refine jn_in ?_) | (with_reducible refine cl_ok (by assumption) rfl ?_) | (with_reducible refine cl_okP (by assumption) rfl ?_) | (with_reducible refine br_if (fun hbr => ?_) (fun hbr => ?_)) | (with_reducible refine br_ifn (fun hbr => ?_) (fun hbr => ?_)) | (with_reducible refine br_nb (fun hbr => ?_) (fun hbr => ?_)) | (with_reducible refine br_b (fun hbr => ?_) (fun hbr => ?_)) | simp (disch := first | omega | (simp only [List.length_take, List.length_drop, List.length_append, List.map_cons, List.map_nil, List.length_map, List.length_cons, List.length_nil, List.length_set, List.length_replicate]; omega) | (simp only [List.length_cons, List.length_nil, Nat.zero_add, Nat.reduceAdd])) only [go_sem, ↓reduceIte, Nat.reduceAdd, Int.reduceNeg, Int.reduceAdd, Int.reduceSub, Int.reduceMul, Int.reduceLT, Int.reduceLE, Int.reduceEq, Int.reduceToNat, Nat.reduceBEq, e_sle, e_sge, e_shl1, e_orI, e_andI, e_shr, wrapu, wrap8, tn1, nat1, ix_s, ix_z, st_s, st_z, fl_s, fl_z, fl1_s, fl1_z, map_s, map_z, true_and])
    all_goals first
      | omega
      | (subst h5; exact ret_b (by rw [show usT 5 = false from by decide, show usL 5 = false from by decide, show topK 5 = 1 from by decide]; simp [*]; done))
      | (subst h5; exact ret_b (by rw [show topK 5 = 1 from by decide, decide_eq_false (by omega), Bool.false_and]))
      | skip
  have hn : decide (0 ≤ n ∧ n ≤ topK k) = true := by
    have hu : usN k = false := by simp [usN, *]
    unfold badB at hbad
    rw [hu] at hbad
    simp only [Bool.or_eq_false_iff, Bool.and_eq_false_iff, Bool.not_eq_false', decide_eq_false_iff_not, decide_eq_true_eq] at hbad
    have h0 := hbad.1.resolve_left (by decide)
    rw [usN_top hu, h0]; decide
  rw [hn, Bool.true_and]
  cases usT k <;> cases usL k
  all_goals
    repeat' (first | (with_reducible refine jn_in ?_) | (with_reducible refine cl_ok (by assumption) rfl ?_) | (with_reducible refine cl_okP (by assumption) rfl ?_) | (with_reducible refine br_if (fun hbr => ?_) (fun hbr => ?_)) | (with_reducible refine br_ifn (fun hbr => ?_) (fun hbr => ?_)) | (with_reducible refine br_nb (fun hbr => ?_) (fun hbr => ?_)) | (with_reducible refine br_b (fun hbr => ?_) (fun hbr => ?_)) | simp (disch := first | omega | (simp only [List.length_take, List.length_drop, List.length_append, List.map_cons, List.map_nil, List.length_map, List.length_cons, List.length_nil, List.length_set, List.length_replicate]; omega) | (simp only [List.length_cons, List.length_nil, Nat.zero_add, Nat.reduceAdd])) only [go_sem, ↓reduceIte, Nat.reduceAdd, Int.reduceNeg, Int.reduceAdd, Int.reduceSub, Int.reduceMul, Int.reduceLT, Int.reduceLE, Int.reduceEq, Int.reduceToNat, Nat.reduceBEq, e_sle, e_sge, e_shl1, e_orI, e_andI, e_shr, wrapu, wrap8, tn1, nat1, ix_s, ix_z, st_s, st_z, fl_s, fl_z, fl1_s, fl1_z, map_s, map_z, true_and])
    all_goals first
      | omega
      | rfl
      | exact ret_b (by rw [‹txtR k s = true›]; simp)
      | exact ret_b (by rw [‹txtR k s = false›]; simp)
      | exact ret_b (by simp)
      | trace_state
      | skip
end Go.Proofs.Ytfdpkdfmkedkmaa

namespace Go.Proofs.Ytfdpkdfmkedkmaa
open Go.RowKit
set_option maxRecDepth 100000
theorem kinds36 {k : Int} (h : 0 ≤ k ∧ k ≤ 35) (P : Int → Prop) (h0 : ∀ i : Nat, i < 36 → P (i : Int)) : P k := by
  obtain ⟨i, rfl⟩ := Int.eq_ofNat_of_zero_le h.1
  exact h0 i (by omega)
def kidC (k c : Int) (n : Nat) : Bool := if cntK k ≥ 0 then decide (c = cntK k) else if k = 8 ∨ k = 9 then decide (c = (n : Int) + 1) else if k = 16 then decide (2 ≤ c ∧ c ≤ 3) else decide (0 ≤ c)
theorem kid_cnt {k c : Int} {n : Nat} (h : 0 ≤ k ∧ k ≤ 35) : kidB k c n = kidC k c n := by
  have h16 : decide (c = 2 ∨ c = 3) = decide (2 ≤ c ∧ c ≤ 3) := by rw [decide_eq_decide]; omega
  refine kinds36 h (fun k => kidB k c n = kidC k c n) fun i hi => ?_
  match i, hi with
  | 0, _ | 1, _ | 2, _ | 3, _ | 4, _ | 5, _ | 6, _ | 7, _ | 8, _ | 9, _ | 10, _ | 11, _ | 12, _ | 13, _ | 14, _ | 15, _ | 17, _ | 18, _ | 19, _ | 20, _ | 21, _ | 22, _ | 23, _ | 24, _ | 25, _ | 26, _ | 27, _ | 28, _ | 29, _ | 30, _ | 31, _ | 32, _ | 33, _ | 34, _ | 35, _ => rfl
  | 16, _ => exact h16
  | i + 36, hi => omega
def labC (k c : Int) (L : List ByteArray) : Bool :=
  if k = 8 then allB (labN L) L.length && decide (c = (L.length : Int) + 1) else if k = 9 then allB (labS L) L.length && decide (c = (L.length : Int) + 1)
  else if k = 16 then decide (L.length = 0) && decide (2 ≤ c ∧ c ≤ 3)
  else if k = 26 then decide (L.length = 1) && decide (1 ≤ ((L.getD 0 default).size : Int) ∧ ((L.getD 0 default).size : Int) ≤ 60)
  else if k = 27 then decide (L.length = 1) && (nameB (L.getD 0 default) && nameB (L.getD 0 default ++ ⟨#[60, 45]⟩)) else decide (L.length = 0)
def spB (k n : Int) (s : ByteArray) (c : Int) : Bool := decide (0 ≤ k ∧ k ≤ 35) && (decide (0 ≤ n ∧ n ≤ topK k) && (txtB k s && (decide (0 ≤ c ∧ c ≤ 200) && !(decide (cntK k ≥ 0) && !decide (c = cntK k)))))
theorem shape_nod (k n c : Int) (s : ByteArray) (L : List ByteArray) : (nodB k n s L c && decide (c ≤ 200)) = (spB k n s c && labC k c L) := by
  unfold nodB spB
  by_cases h : 0 ≤ k ∧ k ≤ 35
  rotate_left
  · rw [decide_eq_false h]; simp
  rw [decide_eq_true h, kid_cnt h]
  generalize decide (0 ≤ n ∧ n ≤ topK k) = b1
  generalize txtB k s = b2
  simp only [Bool.true_and]
  have key : (kidC k c L.length && ((if usL k = true then labR k L else decide (L.length = 0)) && decide (c ≤ 200))) = ((decide (0 ≤ c ∧ c ≤ 200) && !(decide (cntK k ≥ 0) && !decide (c = cntK k))) && labC k c L) := by
    by_cases h8 : k = 8
    · subst h8
      have e1 : kidC 8 c L.length = decide (c = (L.length : Int) + 1) := rfl
      have e2 : (if usL 8 = true then labR 8 L else decide (L.length = 0)) = allB (labN L) L.length := rfl
      have e3 : labC 8 c L = (allB (labN L) L.length && decide (c = (L.length : Int) + 1)) := rfl
      have e4 : cntK 8 = -1 := by decide
      rw [e1, e2, e3, e4]
      generalize allB (labN L) L.length = x
      cases x
      · simp
      · rw [Bool.eq_iff_iff]; simp; omega
    by_cases h9 : k = 9
    · subst h9
      have e1 : kidC 9 c L.length = decide (c = (L.length : Int) + 1) := rfl
      have e2 : (if usL 9 = true then labR 9 L else decide (L.length = 0)) = allB (labS L) L.length := rfl
      have e3 : labC 9 c L = (allB (labS L) L.length && decide (c = (L.length : Int) + 1)) := rfl
      have e4 : cntK 9 = -1 := by decide
      rw [e1, e2, e3, e4]
      generalize allB (labS L) L.length = x
      cases x
      · simp
      · rw [Bool.eq_iff_iff]; simp; omega
    by_cases h16 : k = 16
    · subst h16
      have e1 : kidC 16 c L.length = decide (2 ≤ c ∧ c ≤ 3) := rfl
      have e2 : (if usL 16 = true then labR 16 L else decide (L.length = 0)) = decide (L.length = 0) := rfl
      have e3 : labC 16 c L = (decide (L.length = 0) && decide (2 ≤ c ∧ c ≤ 3)) := rfl
      have e4 : cntK 16 = -1 := by decide
      rw [e1, e2, e3, e4]
      rw [Bool.eq_iff_iff]; simp only [Bool.and_eq_true, decide_eq_true_eq, Bool.not_eq_true', Bool.and_eq_false_iff, decide_eq_false_iff_not, Bool.not_eq_false']; omega
    have hkc : kidC k c L.length = if cntK k ≥ 0 then decide (c = cntK k) else decide (0 ≤ c) := by unfold kidC; rw [if_neg (show ¬ (k = 8 ∨ k = 9) by omega), if_neg h16]
    have hc2 : cntK k ≤ 2 := by unfold cntK; split <;> (try split) <;> (try split) <;> omega
    have hlc : labC k c L = (if usL k = true then labR k L else decide (L.length = 0)) := by
      unfold labC
      rw [if_neg h8, if_neg h9, if_neg h16]
      by_cases h26 : k = 26
      · subst h26; rfl
      by_cases h27 : k = 27
      · subst h27; rfl
      rw [if_neg h26, if_neg h27, if_neg (show ¬ usL k = true by simp [usL, *])]
    rw [hlc, hkc]
    generalize (if usL k = true then labR k L else decide (L.length = 0)) = x
    generalize cntK k = m at *
    by_cases hm : m ≥ 0
    · rw [if_pos hm, decide_eq_true hm]
      cases x
      · simp
      · rw [Bool.eq_iff_iff]; simp; omega
    · rw [if_neg hm, decide_eq_false hm]
      cases x
      · simp
      · rw [Bool.eq_iff_iff]; simp
  cases b1 <;> cases b2 <;> simp only [Bool.false_and, Bool.true_and, Bool.and_false] 
  rw [← key, Bool.and_assoc]
theorem spB_bd {k n c : Int} {s : ByteArray} (h : spB k n s c = true) : 0 ≤ c ∧ c ≤ 200 := by
  unfold spB at h
  simp only [Bool.and_eq_true, decide_eq_true_eq] at h
  exact h.2.2.2.1
set_option maxHeartbeats 4000000 in
theorem specShape_m (k n c : Int) (s : ByteArray) (L : List ByteArray) (hz : s.size ≤ 1048576) (hL : L.length ≤ 1048576) (hs : ∀ x ∈ L, x.size ≤ 1048576) : Meets Try.prog 40 [(true, encNod ⟨k, n, s, L, c⟩)] [(false, [.sc (.bool (nodB k n s L c && decide (c ≤ 200)))], true)] := by
  have hC := specCnt_m k
  have hT := specTxt_m k n c s L (by omega)
  have hN := fun i => specName_m (L.getD i default) (by have := getD_le hs i; omega)
  have hN2 := specName_m (L.getD 0 default ++ ⟨#[60, 45]⟩) (by have := getD_le hs 0; rw [ByteArray.size_append]; show _ + 2 ≤ _; omega)
  have hK := fun s => l1Find_m 9 L s (by omega)
  have hI1 := l1In_m k 0 35
  have hI2 := l1In_m n 0 (topK k)
  have hI3 := l1In_m c 0 200
  have hI4 := l1In_m c 2 3
  have hI5 := l1In_m ((L.getD 0 default).size : Int) 1 60
  have b1 : ∀ {a b : Bool}, a = b → [DV.sc (.bool a)] = [.sc (.bool b)] := fun h => by rw [h]
  rw [shape_nod]
  refine meets_upf Try.func40 u_spec_l16Shape_g rfl ?_; simp only [u_spec_l16Shape_u]
  simp only [encNod, encSs] at hT ⊢
  simp (disch := first | omega | (simp only [List.length_take, List.length_drop, List.length_append, List.map_cons, List.map_nil, List.length_map, List.length_cons, List.length_nil, List.length_set, List.length_replicate]; omega) | (simp only [List.length_cons, List.length_nil, Nat.zero_add, Nat.reduceAdd])) only [go_sem, ↓reduceIte, Nat.reduceAdd, Int.reduceNeg, Int.reduceAdd, Int.reduceSub, Int.reduceMul, Int.reduceLT, Int.reduceLE, Int.reduceEq, Int.reduceToNat, Nat.reduceBEq, e_sle, e_sge, e_shl1, e_orI, e_andI, e_shr, wrapu, wrap8, tn1, nat1, ix_s, ix_z, st_s, st_z, fl_s, fl_z, fl1_s, fl1_z, map_s, map_z, true_and]
  refine jn (fun vs => ∃ y, vs = [.sc (.int .i64 (topK k)), y]) ?_ ?_
  · repeat' (first | (with_reducible refine jn_in ?_) | (with_reducible refine cl_ok (by assumption) rfl ?_) | (with_reducible refine cl_okP (by assumption) rfl ?_) | (with_reducible refine br_if (fun hbr => ?_) (fun hbr => ?_)) | (with_reducible refine br_ifn (fun hbr => ?_) (fun hbr => ?_)) | (with_reducible refine br_nb (fun hbr => ?_) (fun hbr => ?_)) | (with_reducible refine br_b (fun hbr => ?_) (fun hbr => ?_)) | simp (disch := first | omega | (simp only [List.length_take, List.length_drop, List.length_append, List.map_cons, List.map_nil, List.length_map, List.length_cons, List.length_nil, List.length_set, List.length_replicate]; omega) | (simp only [List.length_cons, List.length_nil, Nat.zero_add, Nat.reduceAdd])) only [go_sem, ↓reduceIte, Nat.reduceAdd, Int.reduceNeg, Int.reduceAdd, Int.reduceSub, Int.reduceMul, Int.reduceLT, Int.reduceLE, Int.reduceEq, Int.reduceToNat, Nat.reduceBEq, e_sle, e_sge, e_shl1, e_orI, e_andI, e_shr, wrapu, wrap8, tn1, nat1, ix_s, ix_z, st_s, st_z, fl_s, fl_z, fl1_s, fl1_z, map_s, map_z, true_and])
    all_goals first
      | (subst_vars; exact ⟨_, rfl⟩)
      | exact ⟨_, by rw [topK, if_neg ‹¬ k = 2›, if_neg ‹¬ k = 4›, if_neg ‹¬ k = 5›]⟩
      | skip
  rintro vs - ⟨y, rfl⟩
  simp only [u_spec_l16Shape_j4]
  simp (disch := first | omega | (simp only [List.length_take, List.length_drop, List.length_append, List.map_cons, List.map_nil, List.length_map, List.length_cons, List.length_nil, List.length_set, List.length_replicate]; omega) | (simp only [List.length_cons, List.length_nil, Nat.zero_add, Nat.reduceAdd])) only [go_sem, ↓reduceIte, Nat.reduceAdd, Int.reduceNeg, Int.reduceAdd, Int.reduceSub, Int.reduceMul, Int.reduceLT, Int.reduceLE, Int.reduceEq, Int.reduceToNat, Nat.reduceBEq, e_sle, e_sge, e_shl1, e_orI, e_andI, e_shr, wrapu, wrap8, tn1, nat1, ix_s, ix_z, st_s, st_z, fl_s, fl_z, fl1_s, fl1_z, map_s, map_z, true_and]
  refine cl_ok hC rfl ?_
  simp (disch := first | omega | (simp only [List.length_take, List.length_drop, List.length_append, List.map_cons, List.map_nil, List.length_map, List.length_cons, List.length_nil, List.length_set, List.length_replicate]; omega) | (simp only [List.length_cons, List.length_nil, Nat.zero_add, Nat.reduceAdd])) only [go_sem, ↓reduceIte, Nat.reduceAdd, Int.reduceNeg, Int.reduceAdd, Int.reduceSub, Int.reduceMul, Int.reduceLT, Int.reduceLE, Int.reduceEq, Int.reduceToNat, Nat.reduceBEq, e_sle, e_sge, e_shl1, e_orI, e_andI, e_shr, wrapu, wrap8, tn1, nat1, ix_s, ix_z, st_s, st_z, fl_s, fl_z, fl1_s, fl1_z, map_s, map_z, true_and]
  refine jn_eq [.sc (.bool (!spB k n s c))] ?_ ?_
  · unfold spB
    repeat' (first | (with_reducible refine jn_in ?_) | (with_reducible refine cl_ok (by assumption) rfl ?_) | (with_reducible refine cl_okP (by assumption) rfl ?_) | (with_reducible refine br_if (fun hbr => ?_) (fun hbr => ?_)) | (with_reducible refine br_ifn (fun hbr => ?_) (fun hbr => ?_)) | (with_reducible refine br_nb (fun hbr => ?_) (fun hbr => ?_)) | (with_reducible refine br_b (fun hbr => ?_) (fun hbr => ?_)) | simp (disch := first | omega | (simp only [List.length_take, List.length_drop, List.length_append, List.map_cons, List.map_nil, List.length_map, List.length_cons, List.length_nil, List.length_set, List.length_replicate]; omega) | (simp only [List.length_cons, List.length_nil, Nat.zero_add, Nat.reduceAdd])) only [go_sem, ↓reduceIte, Nat.reduceAdd, Int.reduceNeg, Int.reduceAdd, Int.reduceSub, Int.reduceMul, Int.reduceLT, Int.reduceLE, Int.reduceEq, Int.reduceToNat, Nat.reduceBEq, e_sle, e_sge, e_shl1, e_orI, e_andI, e_shr, wrapu, wrap8, tn1, nat1, ix_s, ix_z, st_s, st_z, fl_s, fl_z, fl1_s, fl1_z, map_s, map_z, true_and])
    all_goals first
      | exact b1 (by simp [*])
      | skip
  simp only [u_spec_l16Shape_j3]
  cases hsp : spB k n s c
  · repeat' (first | (with_reducible refine jn_in ?_) | (with_reducible refine cl_ok (by assumption) rfl ?_) | (with_reducible refine cl_okP (by assumption) rfl ?_) | (with_reducible refine br_if (fun hbr => ?_) (fun hbr => ?_)) | (with_reducible refine br_ifn (fun hbr => ?_) (fun hbr => ?_)) | (with_reducible refine br_nb (fun hbr => ?_) (fun hbr => ?_)) | (with_reducible refine br_b (fun hbr => ?_) (fun hbr => ?_)) | simp (disch := first | omega | (simp only [List.length_take, List.length_drop, List.length_append, List.map_cons, List.map_nil, List.length_map, List.length_cons, List.length_nil, List.length_set, List.length_replicate]; omega) | (simp only [List.length_cons, List.length_nil, Nat.zero_add, Nat.reduceAdd])) only [go_sem, ↓reduceIte, Nat.reduceAdd, Int.reduceNeg, Int.reduceAdd, Int.reduceSub, Int.reduceMul, Int.reduceLT, Int.reduceLE, Int.reduceEq, Int.reduceToNat, Nat.reduceBEq, e_sle, e_sge, e_shl1, e_orI, e_andI, e_shr, wrapu, wrap8, tn1, nat1, ix_s, ix_z, st_s, st_z, fl_s, fl_z, fl1_s, fl1_z, map_s, map_z, true_and])
    rfl
  have hbd := spB_bd hsp
  rw [Bool.true_and]
  simp (disch := first | omega | (simp only [List.length_take, List.length_drop, List.length_append, List.map_cons, List.map_nil, List.length_map, List.length_cons, List.length_nil, List.length_set, List.length_replicate]; omega) | (simp only [List.length_cons, List.length_nil, Nat.zero_add, Nat.reduceAdd])) only [go_sem, ↓reduceIte, Nat.reduceAdd, Int.reduceNeg, Int.reduceAdd, Int.reduceSub, Int.reduceMul, Int.reduceLT, Int.reduceLE, Int.reduceEq, Int.reduceToNat, Nat.reduceBEq, e_sle, e_sge, e_shl1, e_orI, e_andI, e_shr, wrapu, wrap8, tn1, nat1, ix_s, ix_z, st_s, st_z, fl_s, fl_z, fl1_s, fl1_z, map_s, map_z, true_and]
  refine br_if (fun h8 => ?_) (fun h8 => ?_)
  · have hl : labC k c L = (allB (labN L) L.length && decide (c = (L.length : Int) + 1)) := by subst h8; rfl
    rw [hl]
    simp (disch := first | omega | (simp only [List.length_take, List.length_drop, List.length_append, List.map_cons, List.map_nil, List.length_map, List.length_cons, List.length_nil, List.length_set, List.length_replicate]; omega) | (simp only [List.length_cons, List.length_nil, Nat.zero_add, Nat.reduceAdd])) only [go_sem, ↓reduceIte, Nat.reduceAdd, Int.reduceNeg, Int.reduceAdd, Int.reduceSub, Int.reduceMul, Int.reduceLT, Int.reduceLE, Int.reduceEq, Int.reduceToNat, Nat.reduceBEq, e_sle, e_sge, e_shl1, e_orI, e_andI, e_shr, wrapu, wrap8, tn1, nat1, ix_s, ix_z, st_s, st_z, fl_s, fl_z, fl1_s, fl1_z, map_s, map_z, true_and]
    refine lp (fun i : Nat => [.sc (.int .i64 i)]) (fun i => i ≤ L.length ∧ allB (labN L) i = true) (fun i => L.length - i) 0 rfl ⟨by omega, rfl⟩ ?_
    rintro i ⟨hi, hb⟩
    simp only [u_spec_l16Shape_l1]
    by_cases hlt : i < L.length
    · have hNi := hN i
      have hKi := hK (L.getD i default)
      repeat' (first | (with_reducible refine jn_in ?_) | (with_reducible refine cl_ok (by assumption) rfl ?_) | (with_reducible refine cl_okP (by assumption) rfl ?_) | (with_reducible refine br_if (fun hbr => ?_) (fun hbr => ?_)) | (with_reducible refine br_ifn (fun hbr => ?_) (fun hbr => ?_)) | (with_reducible refine br_nb (fun hbr => ?_) (fun hbr => ?_)) | (with_reducible refine br_b (fun hbr => ?_) (fun hbr => ?_)) | simp (disch := first | omega | (simp only [List.length_take, List.length_drop, List.length_append, List.map_cons, List.map_nil, List.length_map, List.length_cons, List.length_nil, List.length_set, List.length_replicate]; omega) | (simp only [List.length_cons, List.length_nil, Nat.zero_add, Nat.reduceAdd])) only [go_sem, ↓reduceIte, Nat.reduceAdd, Int.reduceNeg, Int.reduceAdd, Int.reduceSub, Int.reduceMul, Int.reduceLT, Int.reduceLE, Int.reduceEq, Int.reduceToNat, Nat.reduceBEq, e_sle, e_sge, e_shl1, e_orI, e_andI, e_shr, wrapu, wrap8, tn1, nat1, ix_s, ix_z, st_s, st_z, fl_s, fl_z, fl1_s, fl1_z, map_s, map_z, u_spec_l16Shape_j0])
      all_goals first
        | omega
        | exact ret_b (by rw [allB_no hlt (by (first | (simp [-List.getD_eq_getElem?_getD, labN, *]; done) | (simp_all [-List.getD_eq_getElem?_getD, labN]; done) | (simp [-List.getD_eq_getElem?_getD, labN, *]; omega) | (simp_all [-List.getD_eq_getElem?_getD, labN]; omega) | omega)), Bool.false_and])
        | exact ret_b (by rw [decide_eq_false (p := c = ((L.length + 1 : Nat) : Int)) (by omega), Bool.and_false])
        | exact ⟨i + 1, rfl, ⟨by omega, allB_step hb (by (first | (simp [-List.getD_eq_getElem?_getD, labN, *]; done) | (simp_all [-List.getD_eq_getElem?_getD, labN]; done) | (simp [-List.getD_eq_getElem?_getD, labN, *]; omega) | (simp_all [-List.getD_eq_getElem?_getD, labN]; omega) | omega))⟩, by omega⟩
        | skip
    · obtain rfl : i = L.length := by omega
      repeat' (first | (with_reducible refine jn_in ?_) | (with_reducible refine cl_ok (by assumption) rfl ?_) | (with_reducible refine cl_okP (by assumption) rfl ?_) | (with_reducible refine br_if (fun hbr => ?_) (fun hbr => ?_)) | (with_reducible refine br_ifn (fun hbr => ?_) (fun hbr => ?_)) | (with_reducible refine br_nb (fun hbr => ?_) (fun hbr => ?_)) | (with_reducible refine br_b (fun hbr => ?_) (fun hbr => ?_)) | simp (disch := first | omega | (simp only [List.length_take, List.length_drop, List.length_append, List.map_cons, List.map_nil, List.length_map, List.length_cons, List.length_nil, List.length_set, List.length_replicate]; omega) | (simp only [List.length_cons, List.length_nil, Nat.zero_add, Nat.reduceAdd])) only [go_sem, ↓reduceIte, Nat.reduceAdd, Int.reduceNeg, Int.reduceAdd, Int.reduceSub, Int.reduceMul, Int.reduceLT, Int.reduceLE, Int.reduceEq, Int.reduceToNat, Nat.reduceBEq, e_sle, e_sge, e_shl1, e_orI, e_andI, e_shr, wrapu, wrap8, tn1, nat1, ix_s, ix_z, st_s, st_z, fl_s, fl_z, fl1_s, fl1_z, map_s, map_z, true_and])
      all_goals first | omega | exact ret_b (by rw [hb, Bool.true_and]) | skip
  simp (disch := first | omega | (simp only [List.length_take, List.length_drop, List.length_append, List.map_cons, List.map_nil, List.length_map, List.length_cons, List.length_nil, List.length_set, List.length_replicate]; omega) | (simp only [List.length_cons, List.length_nil, Nat.zero_add, Nat.reduceAdd])) only [go_sem, ↓reduceIte, Nat.reduceAdd, Int.reduceNeg, Int.reduceAdd, Int.reduceSub, Int.reduceMul, Int.reduceLT, Int.reduceLE, Int.reduceEq, Int.reduceToNat, Nat.reduceBEq, e_sle, e_sge, e_shl1, e_orI, e_andI, e_shr, wrapu, wrap8, tn1, nat1, ix_s, ix_z, st_s, st_z, fl_s, fl_z, fl1_s, fl1_z, map_s, map_z, true_and]
  refine br_if (fun h9 => ?_) (fun h9 => ?_)
  · have hl : labC k c L = (allB (labS L) L.length && decide (c = (L.length : Int) + 1)) := by subst h9; rfl
    rw [hl]
    simp (disch := first | omega | (simp only [List.length_take, List.length_drop, List.length_append, List.map_cons, List.map_nil, List.length_map, List.length_cons, List.length_nil, List.length_set, List.length_replicate]; omega) | (simp only [List.length_cons, List.length_nil, Nat.zero_add, Nat.reduceAdd])) only [go_sem, ↓reduceIte, Nat.reduceAdd, Int.reduceNeg, Int.reduceAdd, Int.reduceSub, Int.reduceMul, Int.reduceLT, Int.reduceLE, Int.reduceEq, Int.reduceToNat, Nat.reduceBEq, e_sle, e_sge, e_shl1, e_orI, e_andI, e_shr, wrapu, wrap8, tn1, nat1, ix_s, ix_z, st_s, st_z, fl_s, fl_z, fl1_s, fl1_z, map_s, map_z, true_and]
    refine lp (fun i : Nat => [.sc (.int .i64 i)]) (fun i => i ≤ L.length ∧ allB (labS L) i = true) (fun i => L.length - i) 0 rfl ⟨by omega, rfl⟩ ?_
    rintro i ⟨hi, hb⟩
    simp only [u_spec_l16Shape_l2]
    by_cases hlt : i < L.length
    · repeat' (first | (with_reducible refine jn_in ?_) | (with_reducible refine cl_ok (by assumption) rfl ?_) | (with_reducible refine cl_okP (by assumption) rfl ?_) | (with_reducible refine br_if (fun hbr => ?_) (fun hbr => ?_)) | (with_reducible refine br_ifn (fun hbr => ?_) (fun hbr => ?_)) | (with_reducible refine br_nb (fun hbr => ?_) (fun hbr => ?_)) | (with_reducible refine br_b (fun hbr => ?_) (fun hbr => ?_)) | simp (disch := first | omega | (simp only [List.length_take, List.length_drop, List.length_append, List.map_cons, List.map_nil, List.length_map, List.length_cons, List.length_nil, List.length_set, List.length_replicate]; omega) | (simp only [List.length_cons, List.length_nil, Nat.zero_add, Nat.reduceAdd])) only [go_sem, ↓reduceIte, Nat.reduceAdd, Int.reduceNeg, Int.reduceAdd, Int.reduceSub, Int.reduceMul, Int.reduceLT, Int.reduceLE, Int.reduceEq, Int.reduceToNat, Nat.reduceBEq, e_sle, e_sge, e_shl1, e_orI, e_andI, e_shr, wrapu, wrap8, tn1, nat1, ix_s, ix_z, st_s, st_z, fl_s, fl_z, fl1_s, fl1_z, map_s, map_z, true_and])
      all_goals first
        | omega
        | exact ret_b (by rw [allB_no hlt (by (first | (simp [-List.getD_eq_getElem?_getD, labS, *]; done) | (simp_all [-List.getD_eq_getElem?_getD, labS]; done) | (simp [-List.getD_eq_getElem?_getD, labS, *]; omega) | (simp_all [-List.getD_eq_getElem?_getD, labS]; omega) | omega)), Bool.false_and])
        | exact ret_b (by rw [decide_eq_false (p := c = ((L.length + 1 : Nat) : Int)) (by omega), Bool.and_false])
        | exact ⟨i + 1, rfl, ⟨by omega, allB_step hb (by (first | (simp [-List.getD_eq_getElem?_getD, labS, *]; done) | (simp_all [-List.getD_eq_getElem?_getD, labS]; done) | (simp [-List.getD_eq_getElem?_getD, labS, *]; omega) | (simp_all [-List.getD_eq_getElem?_getD, labS]; omega) | omega))⟩, by omega⟩
        | skip
    · obtain rfl : i = L.length := by omega
      repeat' (first | (with_reducible refine jn_in ?_) | (with_reducible refine cl_ok (by assumption) rfl ?_) | (with_reducible refine cl_okP (by assumption) rfl ?_) | (with_reducible refine br_if (fun hbr => ?_) (fun hbr => ?_)) | (with_reducible refine br_ifn (fun hbr => ?_) (fun hbr => ?_)) | (with_reducible refine br_nb (fun hbr => ?_) (fun hbr => ?_)) | (with_reducible refine br_b (fun hbr => ?_) (fun hbr => ?_)) | simp (disch := first | omega | (simp only [List.length_take, List.length_drop, List.length_append, List.map_cons, List.map_nil, List.length_map, List.length_cons, List.length_nil, List.length_set, List.length_replicate]; omega) | (simp only [List.length_cons, List.length_nil, Nat.zero_add, Nat.reduceAdd])) only [go_sem, ↓reduceIte, Nat.reduceAdd, Int.reduceNeg, Int.reduceAdd, Int.reduceSub, Int.reduceMul, Int.reduceLT, Int.reduceLE, Int.reduceEq, Int.reduceToNat, Nat.reduceBEq, e_sle, e_sge, e_shl1, e_orI, e_andI, e_shr, wrapu, wrap8, tn1, nat1, ix_s, ix_z, st_s, st_z, fl_s, fl_z, fl1_s, fl1_z, map_s, map_z, true_and])
      all_goals first | omega | exact ret_b (by rw [hb, Bool.true_and]) | skip
  have hl : labC k c L = (if k = 16 then decide (L.length = 0) && decide (2 ≤ c ∧ c ≤ 3)
      else if k = 26 then decide (L.length = 1) && decide (1 ≤ ((L.getD 0 default).size : Int) ∧ ((L.getD 0 default).size : Int) ≤ 60)
      else if k = 27 then decide (L.length = 1) && (nameB (L.getD 0 default) && nameB (L.getD 0 default ++ ⟨#[60, 45]⟩)) else decide (L.length = 0)) := by unfold labC; rw [if_neg h8, if_neg h9]
  rw [hl]
  simp (disch := first | omega | (simp only [List.length_take, List.length_drop, List.length_append, List.map_cons, List.map_nil, List.length_map, List.length_cons, List.length_nil, List.length_set, List.length_replicate]; omega) | (simp only [List.length_cons, List.length_nil, Nat.zero_add, Nat.reduceAdd])) only [go_sem, ↓reduceIte, Nat.reduceAdd, Int.reduceNeg, Int.reduceAdd, Int.reduceSub, Int.reduceMul, Int.reduceLT, Int.reduceLE, Int.reduceEq, Int.reduceToNat, Nat.reduceBEq, e_sle, e_sge, e_shl1, e_orI, e_andI, e_shr, wrapu, wrap8, tn1, nat1, ix_s, ix_z, st_s, st_z, fl_s, fl_z, fl1_s, fl1_z, map_s, map_z, true_and]
  refine br_if (fun h16 => ?_) (fun h16 => ?_)
  · rw [if_pos h16]
    repeat' (first | (with_reducible refine jn_in ?_) | (with_reducible refine cl_ok (by assumption) rfl ?_) | (with_reducible refine cl_okP (by assumption) rfl ?_) | (with_reducible refine br_if (fun hbr => ?_) (fun hbr => ?_)) | (with_reducible refine br_ifn (fun hbr => ?_) (fun hbr => ?_)) | (with_reducible refine br_nb (fun hbr => ?_) (fun hbr => ?_)) | (with_reducible refine br_b (fun hbr => ?_) (fun hbr => ?_)) | simp (disch := first | omega | (simp only [List.length_take, List.length_drop, List.length_append, List.map_cons, List.map_nil, List.length_map, List.length_cons, List.length_nil, List.length_set, List.length_replicate]; omega) | (simp only [List.length_cons, List.length_nil, Nat.zero_add, Nat.reduceAdd])) only [go_sem, ↓reduceIte, Nat.reduceAdd, Int.reduceNeg, Int.reduceAdd, Int.reduceSub, Int.reduceMul, Int.reduceLT, Int.reduceLE, Int.reduceEq, Int.reduceToNat, Nat.reduceBEq, e_sle, e_sge, e_shl1, e_orI, e_andI, e_shr, wrapu, wrap8, tn1, nat1, ix_s, ix_z, st_s, st_z, fl_s, fl_z, fl1_s, fl1_z, map_s, map_z, true_and])
    all_goals first
      | omega
      | exact ret_b (by rw [decide_eq_true (p := L.length = 0) (by omega), Bool.true_and])
      | exact ret_b (by rw [decide_eq_false (p := L.length = 0) (by omega), Bool.false_and])
      | skip
  rw [if_neg h16]
  simp (disch := first | omega | (simp only [List.length_take, List.length_drop, List.length_append, List.map_cons, List.map_nil, List.length_map, List.length_cons, List.length_nil, List.length_set, List.length_replicate]; omega) | (simp only [List.length_cons, List.length_nil, Nat.zero_add, Nat.reduceAdd])) only [go_sem, ↓reduceIte, Nat.reduceAdd, Int.reduceNeg, Int.reduceAdd, Int.reduceSub, Int.reduceMul, Int.reduceLT, Int.reduceLE, Int.reduceEq, Int.reduceToNat, Nat.reduceBEq, e_sle, e_sge, e_shl1, e_orI, e_andI, e_shr, wrapu, wrap8, tn1, nat1, ix_s, ix_z, st_s, st_z, fl_s, fl_z, fl1_s, fl1_z, map_s, map_z, true_and]
  refine br_if (fun h26 => ?_) (fun h26 => ?_)
  · rw [if_pos h26]
    repeat' (first | (with_reducible refine jn_in ?_) | (with_reducible refine cl_ok (by assumption) rfl ?_) | (with_reducible refine cl_okP (by assumption) rfl ?_) | (with_reducible refine br_if (fun hbr => ?_) (fun hbr => ?_)) | (with_reducible refine br_ifn (fun hbr => ?_) (fun hbr => ?_)) | (with_reducible refine br_nb (fun hbr => ?_) (fun hbr => ?_)) | (with_reducible refine br_b (fun hbr => ?_) (fun hbr => ?_)) | simp (disch := first | omega | (simp only [List.length_take, List.length_drop, List.length_append, List.map_cons, List.map_nil, List.length_map, List.length_cons, List.length_nil, List.length_set, List.length_replicate]; omega) | (simp only [List.length_cons, List.length_nil, Nat.zero_add, Nat.reduceAdd])) only [go_sem, ↓reduceIte, Nat.reduceAdd, Int.reduceNeg, Int.reduceAdd, Int.reduceSub, Int.reduceMul, Int.reduceLT, Int.reduceLE, Int.reduceEq, Int.reduceToNat, Nat.reduceBEq, e_sle, e_sge, e_shl1, e_orI, e_andI, e_shr, wrapu, wrap8, tn1, nat1, ix_s, ix_z, st_s, st_z, fl_s, fl_z, fl1_s, fl1_z, map_s, map_z, Int.toNat_zero])
    all_goals first
      | omega
      | exact ret_b (by rw [decide_eq_true (p := L.length = 1) (by omega), Bool.true_and])
      | exact ret_b (by rw [decide_eq_false (p := L.length = 1) (by omega), Bool.false_and])
      | skip
  rw [if_neg h26]
  simp (disch := first | omega | (simp only [List.length_take, List.length_drop, List.length_append, List.map_cons, List.map_nil, List.length_map, List.length_cons, List.length_nil, List.length_set, List.length_replicate]; omega) | (simp only [List.length_cons, List.length_nil, Nat.zero_add, Nat.reduceAdd])) only [go_sem, ↓reduceIte, Nat.reduceAdd, Int.reduceNeg, Int.reduceAdd, Int.reduceSub, Int.reduceMul, Int.reduceLT, Int.reduceLE, Int.reduceEq, Int.reduceToNat, Nat.reduceBEq, e_sle, e_sge, e_shl1, e_orI, e_andI, e_shr, wrapu, wrap8, tn1, nat1, ix_s, ix_z, st_s, st_z, fl_s, fl_z, fl1_s, fl1_z, map_s, map_z, true_and]
  refine br_if (fun h27 => ?_) (fun h27 => ?_)
  · rw [if_pos h27]
    have hN0 := hN 0
    have h0s := getD_le hs 0
    have e1 : (L.getD 0 default).size + (⟨#[60, 45]⟩ : ByteArray).size ≤ maxLen := by show _ + 2 ≤ _; unfold maxLen; omega
    repeat' (first | (with_reducible refine jn_in ?_) | (with_reducible refine cl_ok (by assumption) rfl ?_) | (with_reducible refine cl_okP (by assumption) rfl ?_) | (with_reducible refine br_if (fun hbr => ?_) (fun hbr => ?_)) | (with_reducible refine br_ifn (fun hbr => ?_) (fun hbr => ?_)) | (with_reducible refine br_nb (fun hbr => ?_) (fun hbr => ?_)) | (with_reducible refine br_b (fun hbr => ?_) (fun hbr => ?_)) | simp (disch := first | omega | (simp only [List.length_take, List.length_drop, List.length_append, List.map_cons, List.map_nil, List.length_map, List.length_cons, List.length_nil, List.length_set, List.length_replicate]; omega) | (simp only [List.length_cons, List.length_nil, Nat.zero_add, Nat.reduceAdd])) only [go_sem, ↓reduceIte, Nat.reduceAdd, Int.reduceNeg, Int.reduceAdd, Int.reduceSub, Int.reduceMul, Int.reduceLT, Int.reduceLE, Int.reduceEq, Int.reduceToNat, Nat.reduceBEq, e_sle, e_sge, e_shl1, e_orI, e_andI, e_shr, wrapu, wrap8, tn1, nat1, ix_s, ix_z, st_s, st_z, fl_s, fl_z, fl1_s, fl1_z, map_s, map_z, Int.toNat_zero, e_cat e1])
    all_goals first
      | omega
      | exact ret_b (by rw [decide_eq_false (by omega), Bool.false_and])
      | exact ret_b (by rw [decide_eq_true (by omega), Bool.true_and]; simp [-List.getD_eq_getElem?_getD, *]; done)
      | skip
  rw [if_neg h27]
  repeat' (first | (with_reducible refine jn_in ?_) | (with_reducible refine cl_ok (by assumption) rfl ?_) | (with_reducible refine cl_okP (by assumption) rfl ?_) | (with_reducible refine br_if (fun hbr => ?_) (fun hbr => ?_)) | (with_reducible refine br_ifn (fun hbr => ?_) (fun hbr => ?_)) | (with_reducible refine br_nb (fun hbr => ?_) (fun hbr => ?_)) | (with_reducible refine br_b (fun hbr => ?_) (fun hbr => ?_)) | simp (disch := first | omega | (simp only [List.length_take, List.length_drop, List.length_append, List.map_cons, List.map_nil, List.length_map, List.length_cons, List.length_nil, List.length_set, List.length_replicate]; omega) | (simp only [List.length_cons, List.length_nil, Nat.zero_add, Nat.reduceAdd])) only [go_sem, ↓reduceIte, Nat.reduceAdd, Int.reduceNeg, Int.reduceAdd, Int.reduceSub, Int.reduceMul, Int.reduceLT, Int.reduceLE, Int.reduceEq, Int.reduceToNat, Nat.reduceBEq, e_sle, e_sge, e_shl1, e_orI, e_andI, e_shr, wrapu, wrap8, tn1, nat1, ix_s, ix_z, st_s, st_z, fl_s, fl_z, fl1_s, fl1_z, map_s, map_z, true_and])
  exact ret_b (by rw [decide_eq_decide]; omega)
end Go.Proofs.Ytfdpkdfmkedkmaa

namespace Go.Proofs.Ytfdpkdfmkedkmaa
open Go.RowKit
set_option maxRecDepth 100000
def nB (x : Nod) : Bool := nodB x.kind x.num x.text x.labels x.kids
def badT (t : List Nod) (i : Nat) (s : List Int) : Bool := !nB (t.getD i default) || (decide ((t.getD i default).kids > (s.length : Int)) || (decide ((t.getD i default).kind = 0) && decide ((i : Int) < (t.length : Int) - 1)))
def knd (t : List Nod) (s : List Int) (j : Nat) : Int := (t.getD (s.getD j default).toNat default).kind
def empT (t : List Nod) (x : Nod) (s : List Int) (j : Nat) : Bool := !(decide (knd t s (s.length - x.kids.toNat + j) = 1) && (decide (x.kind ≠ 8) || decide (j + 1 = x.kids.toNat)))
def stepT (t : List Nod) (i : Nat) (s : List Int) : Option (List Int) :=
  if badT t i s = true then none else if allB (empT t (t.getD i default) s) (t.getD i default).kids.toNat = true then some (s.take (s.length - (t.getD i default).kids.toNat) ++ [(i : Int)]) else none
def stkT (t : List Nod) : Nat → Option (List Int)
  | 0 => some []
  | i + 1 => match stkT t i with | none => none | some s => stepT t i s
def treeB (t : List Nod) : Bool := decide (1 ≤ t.length ∧ t.length ≤ 200) && (match stkT t t.length with | none => false | some s => decide (s.length = 1) && !decide ((t.getD (t.length - 1) default).kind = 1))
theorem stkT_none {t : List Nod} {i : Nat} (h : stkT t i = none) : ∀ {j}, i ≤ j → stkT t j = none := by
  intro j hj
  induction j with
  | zero => obtain rfl : i = 0 := by omega
            exact h
  | succ j ih =>
    rcases Nat.lt_or_ge i (j + 1) with h1 | h1
    · simp only [stkT, ih (by omega)]
    · obtain rfl : i = j + 1 := by omega
      exact h
theorem tree_no {t : List Nod} {i : Nat} {s : List Int} (hi : i < t.length) (h : stkT t i = some s) (h2 : stepT t i s = none) : treeB t = false := by
  have : stkT t (i + 1) = none := by simp only [stkT, h]; exact h2
  unfold treeB
  rw [stkT_none this hi]; simp
theorem stkT_inv {t : List Nod} : ∀ {i : Nat} {s : List Int}, stkT t i = some s → s.length ≤ i ∧ ∀ e ∈ s, 0 ≤ e ∧ e < (i : Int)
  | 0, s, h => by simp only [stkT] at h; injection h with h; subst h; simp
  | i + 1, s, h => by
    simp only [stkT] at h
    split at h
    · cases h
    · rename_i s0 h0
      obtain ⟨g1, g2⟩ := stkT_inv h0
      unfold stepT at h
      split at h
      · cases h
      · split at h
        · injection h with h; subst h
          refine ⟨by simp; omega, fun e he => ?_⟩
          rcases List.mem_append.1 he with he | he
          · have := g2 e (List.mem_of_mem_take he); omega
          · rw [List.mem_singleton.1 he]; omega
        · cases h
theorem nB_kids {x : Nod} (h : nB x = true) : 0 ≤ x.kids := by
  unfold nB nodB at h
  simp only [Bool.and_eq_true] at h
  have h := h.2.1
  unfold kidB at h
  split at h
  · exact of_decide_eq_true h
  · split at h
    · have := of_decide_eq_true h; omega
    · split at h
      · have := of_decide_eq_true h; omega
      · split at h
        · have := of_decide_eq_true h; omega
        · split at h
          · have := of_decide_eq_true h; omega
          · have := of_decide_eq_true h; omega
theorem wtNods_ok {l : List Nod} (h : wtNods l ≤ 1048576) : l.length ≤ 1048576 ∧ ∀ x ∈ l, x.text.size ≤ 1048576 ∧ x.labels.length ≤ 1048576 ∧ ∀ y ∈ x.labels, y.size ≤ 1048576 := by
  unfold wtNods at h
  refine ⟨by omega, fun x hx => ?_⟩
  have h1 := sumOf_mem wtNod hx
  have h2 : wtNod x = x.text.size + wtSs x.labels := rfl
  exact ⟨by omega, wtSs_len (by omega), wtSs_size (by omega)⟩
theorem mem_getD {l : List Int} {i : Nat} (h : i < l.length) : l.getD i default ∈ l := getD_mem h
set_option maxHeartbeats 4000000 in
theorem specTree_m (t : List Nod) (ht : t.length ≤ 1048576) (hx : ∀ x ∈ t, x.text.size ≤ 1048576 ∧ x.labels.length ≤ 1048576 ∧ ∀ y ∈ x.labels, y.size ≤ 1048576) : Meets Try.prog 21 [(false, [encNods t])] [(false, [.sc (.bool (treeB t))], true)] := by
  have hI := l1In_m (t.length : Int) 1 200
  have b1 : ∀ {a b : Bool}, a = b → [DV.sc (.bool a)] = [.sc (.bool b)] := fun h => by rw [h]
  refine meets_upf Try.func21 u_spec_IsTree_g rfl ?_; simp only [u_spec_IsTree_u]
  simp only [encNods]
  simp (disch := first | omega | (simp only [List.length_take, List.length_drop, List.length_append, List.map_cons, List.map_nil, List.length_map, List.length_cons, List.length_nil, List.length_set, List.length_replicate]; omega) | (simp only [List.length_cons, List.length_nil, Nat.zero_add, Nat.reduceAdd])) only [go_sem, ↓reduceIte, Nat.reduceAdd, Int.reduceNeg, Int.reduceAdd, Int.reduceSub, Int.reduceMul, Int.reduceLT, Int.reduceLE, Int.reduceEq, Int.reduceToNat, Nat.reduceBEq, e_sle, e_sge, e_shl1, e_orI, e_andI, e_shr, wrapu, wrap8, tn1, nat1, ix_s, ix_z, st_s, st_z, fl_s, fl_z, fl1_s, fl1_z, map_s, map_z, true_and]
  refine cl_ok hI rfl ?_
  by_cases hn : 1 ≤ (t.length : Int) ∧ (t.length : Int) ≤ 200
  rotate_left
  · simp (disch := first | omega | (simp only [List.length_take, List.length_drop, List.length_append, List.map_cons, List.map_nil, List.length_map, List.length_cons, List.length_nil, List.length_set, List.length_replicate]; omega) | (simp only [List.length_cons, List.length_nil, Nat.zero_add, Nat.reduceAdd])) only [go_sem, ↓reduceIte, Nat.reduceAdd, Int.reduceNeg, Int.reduceAdd, Int.reduceSub, Int.reduceMul, Int.reduceLT, Int.reduceLE, Int.reduceEq, Int.reduceToNat, Nat.reduceBEq, e_sle, e_sge, e_shl1, e_orI, e_andI, e_shr, wrapu, wrap8, tn1, nat1, ix_s, ix_z, st_s, st_z, fl_s, fl_z, fl1_s, fl1_z, map_s, map_z, hn]
    exact ret_b (by unfold treeB; rw [decide_eq_false (by omega)]; rfl)
  simp (disch := first | omega | (simp only [List.length_take, List.length_drop, List.length_append, List.map_cons, List.map_nil, List.length_map, List.length_cons, List.length_nil, List.length_set, List.length_replicate]; omega) | (simp only [List.length_cons, List.length_nil, Nat.zero_add, Nat.reduceAdd])) only [go_sem, ↓reduceIte, Nat.reduceAdd, Int.reduceNeg, Int.reduceAdd, Int.reduceSub, Int.reduceMul, Int.reduceLT, Int.reduceLE, Int.reduceEq, Int.reduceToNat, Nat.reduceBEq, e_sle, e_sge, e_shl1, e_orI, e_andI, e_shr, wrapu, wrap8, tn1, nat1, ix_s, ix_z, st_s, st_z, fl_s, fl_z, fl1_s, fl1_z, map_s, map_z, hn]
  refine lp (fun s : Nat × List Int => [.sc (.int .i64 (s.1 : Nat)), .sl 3 1 (s.2.map encZ)]) (fun s => s.1 ≤ t.length ∧ stkT t s.1 = some s.2) (fun s => t.length - s.1) (0, []) rfl ⟨by simp, rfl⟩ ?_
  rintro ⟨i, s⟩ ⟨g1, g2⟩
  simp only at g1 g2 ⊢
  obtain ⟨v1, v2⟩ := stkT_inv g2
  simp only [u_spec_IsTree_l3]
  by_cases hlt : i < t.length
  · have hno := tree_no hlt g2
    have hst : stkT t (i + 1) = stepT t i s := by simp only [stkT, g2]
    unfold stepT at hno hst
    obtain ⟨z1, z2, z3⟩ := hx _ (getD_mem hlt)
    have hS := specShape_m (t.getD i default).kind (t.getD i default).num (t.getD i default).kids (t.getD i default).text (t.getD i default).labels z1 z2 z3
    simp only [encNod, encSs] at hS
    simp (disch := first | omega | (simp only [List.length_take, List.length_drop, List.length_append, List.map_cons, List.map_nil, List.length_map, List.length_cons, List.length_nil, List.length_set, List.length_replicate]; omega) | (simp only [List.length_cons, List.length_nil, Nat.zero_add, Nat.reduceAdd])) only [go_sem, ↓reduceIte, Nat.reduceAdd, Int.reduceNeg, Int.reduceAdd, Int.reduceSub, Int.reduceMul, Int.reduceLT, Int.reduceLE, Int.reduceEq, Int.reduceToNat, Nat.reduceBEq, e_sle, e_sge, e_shl1, e_orI, e_andI, e_shr, wrapu, wrap8, tn1, nat1, ix_s, ix_z, st_s, st_z, fl_s, fl_z, fl1_s, fl1_z, map_s, map_z, ix_Nod, encNod, encSs]
    refine br_if (fun hbr => ?_) (fun hbr => absurd hbr (by omega))
    simp (disch := first | omega | (simp only [List.length_take, List.length_drop, List.length_append, List.map_cons, List.map_nil, List.length_map, List.length_cons, List.length_nil, List.length_set, List.length_replicate]; omega) | (simp only [List.length_cons, List.length_nil, Nat.zero_add, Nat.reduceAdd])) only [go_sem, ↓reduceIte, Nat.reduceAdd, Int.reduceNeg, Int.reduceAdd, Int.reduceSub, Int.reduceMul, Int.reduceLT, Int.reduceLE, Int.reduceEq, Int.reduceToNat, Nat.reduceBEq, e_sle, e_sge, e_shl1, e_orI, e_andI, e_shr, wrapu, wrap8, tn1, nat1, ix_s, ix_z, st_s, st_z, fl_s, fl_z, fl1_s, fl1_z, map_s, map_z, ix_Nod, encNod, encSs]
    refine jn_eq [.sc (.bool (badT t i s))] ?_ ?_
    · refine cl_ok hS rfl ?_
      unfold badT nB
      cases hnb : nodB (t.getD i default).kind (t.getD i default).num (t.getD i default).text (t.getD i default).labels (t.getD i default).kids
      · repeat' (first | (with_reducible refine jn_in ?_) | (with_reducible refine cl_ok (by assumption) rfl ?_) | (with_reducible refine cl_okP (by assumption) rfl ?_) | (with_reducible refine br_if (fun hbr => ?_) (fun hbr => ?_)) | (with_reducible refine br_ifn (fun hbr => ?_) (fun hbr => ?_)) | (with_reducible refine br_nb (fun hbr => ?_) (fun hbr => ?_)) | (with_reducible refine br_b (fun hbr => ?_) (fun hbr => ?_)) | simp (disch := first | omega | (simp only [List.length_take, List.length_drop, List.length_append, List.map_cons, List.map_nil, List.length_map, List.length_cons, List.length_nil, List.length_set, List.length_replicate]; omega) | (simp only [List.length_cons, List.length_nil, Nat.zero_add, Nat.reduceAdd])) only [go_sem, ↓reduceIte, Nat.reduceAdd, Int.reduceNeg, Int.reduceAdd, Int.reduceSub, Int.reduceMul, Int.reduceLT, Int.reduceLE, Int.reduceEq, Int.reduceToNat, Nat.reduceBEq, e_sle, e_sge, e_shl1, e_orI, e_andI, e_shr, wrapu, wrap8, tn1, nat1, ix_s, ix_z, st_s, st_z, fl_s, fl_z, fl1_s, fl1_z, map_s, map_z, Bool.false_and])
        all_goals first | exact b1 (by simp [*]; done) | skip
      · by_cases h200 : (t.getD i default).kids ≤ 200
        · repeat' (first | (with_reducible refine jn_in ?_) | (with_reducible refine cl_ok (by assumption) rfl ?_) | (with_reducible refine cl_okP (by assumption) rfl ?_) | (with_reducible refine br_if (fun hbr => ?_) (fun hbr => ?_)) | (with_reducible refine br_ifn (fun hbr => ?_) (fun hbr => ?_)) | (with_reducible refine br_nb (fun hbr => ?_) (fun hbr => ?_)) | (with_reducible refine br_b (fun hbr => ?_) (fun hbr => ?_)) | simp (disch := first | omega | (simp only [List.length_take, List.length_drop, List.length_append, List.map_cons, List.map_nil, List.length_map, List.length_cons, List.length_nil, List.length_set, List.length_replicate]; omega) | (simp only [List.length_cons, List.length_nil, Nat.zero_add, Nat.reduceAdd])) only [go_sem, ↓reduceIte, Nat.reduceAdd, Int.reduceNeg, Int.reduceAdd, Int.reduceSub, Int.reduceMul, Int.reduceLT, Int.reduceLE, Int.reduceEq, Int.reduceToNat, Nat.reduceBEq, e_sle, e_sge, e_shl1, e_orI, e_andI, e_shr, wrapu, wrap8, tn1, nat1, ix_s, ix_z, st_s, st_z, fl_s, fl_z, fl1_s, fl1_z, map_s, map_z, h200])
          all_goals first
            | omega
            | exact b1 (by simp [-List.getD_eq_getElem?_getD, *]; done)
            | skip
        · repeat' (first | (with_reducible refine jn_in ?_) | (with_reducible refine cl_ok (by assumption) rfl ?_) | (with_reducible refine cl_okP (by assumption) rfl ?_) | (with_reducible refine br_if (fun hbr => ?_) (fun hbr => ?_)) | (with_reducible refine br_ifn (fun hbr => ?_) (fun hbr => ?_)) | (with_reducible refine br_nb (fun hbr => ?_) (fun hbr => ?_)) | (with_reducible refine br_b (fun hbr => ?_) (fun hbr => ?_)) | simp (disch := first | omega | (simp only [List.length_take, List.length_drop, List.length_append, List.map_cons, List.map_nil, List.length_map, List.length_cons, List.length_nil, List.length_set, List.length_replicate]; omega) | (simp only [List.length_cons, List.length_nil, Nat.zero_add, Nat.reduceAdd])) only [go_sem, ↓reduceIte, Nat.reduceAdd, Int.reduceNeg, Int.reduceAdd, Int.reduceSub, Int.reduceMul, Int.reduceLT, Int.reduceLE, Int.reduceEq, Int.reduceToNat, Nat.reduceBEq, e_sle, e_sge, e_shl1, e_orI, e_andI, e_shr, wrapu, wrap8, tn1, nat1, ix_s, ix_z, st_s, st_z, fl_s, fl_z, fl1_s, fl1_z, map_s, map_z, h200])
          all_goals first
            | omega
            | exact b1 (by rw [decide_eq_true (p := (t.getD i default).kids > (s.length : Int)) (by omega)]; simp)
            | skip
    simp only [u_spec_IsTree_j2]
    cases hbad : badT t i s
    rotate_left
    · rw [hbad] at hno
      have hno := hno rfl
      repeat' (first | (with_reducible refine jn_in ?_) | (with_reducible refine cl_ok (by assumption) rfl ?_) | (with_reducible refine cl_okP (by assumption) rfl ?_) | (with_reducible refine br_if (fun hbr => ?_) (fun hbr => ?_)) | (with_reducible refine br_ifn (fun hbr => ?_) (fun hbr => ?_)) | (with_reducible refine br_nb (fun hbr => ?_) (fun hbr => ?_)) | (with_reducible refine br_b (fun hbr => ?_) (fun hbr => ?_)) | simp (disch := first | omega | (simp only [List.length_take, List.length_drop, List.length_append, List.map_cons, List.map_nil, List.length_map, List.length_cons, List.length_nil, List.length_set, List.length_replicate]; omega) | (simp only [List.length_cons, List.length_nil, Nat.zero_add, Nat.reduceAdd])) only [go_sem, ↓reduceIte, Nat.reduceAdd, Int.reduceNeg, Int.reduceAdd, Int.reduceSub, Int.reduceMul, Int.reduceLT, Int.reduceLE, Int.reduceEq, Int.reduceToNat, Nat.reduceBEq, e_sle, e_sge, e_shl1, e_orI, e_andI, e_shr, wrapu, wrap8, tn1, nat1, ix_s, ix_z, st_s, st_z, fl_s, fl_z, fl1_s, fl1_z, map_s, map_z, true_and])
      exact ret_b hno
    rw [hbad] at hno hst
    simp only [Bool.false_eq_true, if_false] at hno hst
    unfold badT at hbad
    simp only [Bool.or_eq_false_iff, Bool.not_eq_false', decide_eq_false_iff_not] at hbad
    obtain ⟨hb1, hb2, -⟩ := hbad
    have hk0 := nB_kids hb1
    generalize hxx : t.getD i default = x at *
    obtain ⟨kN, hkN⟩ := Int.eq_ofNat_of_zero_le hk0
    rw [hkN, Int.toNat_natCast] at hst hno
    rw [hkN] at hb2
    have e1 : (s.length : Int) - (kN : Int) = ((s.length - kN : Nat) : Int) := by omega
    simp (disch := first | omega | (simp only [List.length_take, List.length_drop, List.length_append, List.map_cons, List.map_nil, List.length_map, List.length_cons, List.length_nil, List.length_set, List.length_replicate]; omega) | (simp only [List.length_cons, List.length_nil, Nat.zero_add, Nat.reduceAdd])) only [go_sem, ↓reduceIte, Nat.reduceAdd, Int.reduceNeg, Int.reduceAdd, Int.reduceSub, Int.reduceMul, Int.reduceLT, Int.reduceLE, Int.reduceEq, Int.reduceToNat, Nat.reduceBEq, e_sle, e_sge, e_shl1, e_orI, e_andI, e_shr, wrapu, wrap8, tn1, nat1, ix_s, ix_z, st_s, st_z, fl_s, fl_z, fl1_s, fl1_z, map_s, map_z, hkN, e1]
    refine lp (fun j : Nat => [.sc (.int .i64 ((s.length - kN + j : Nat) : Int))]) (fun j => j ≤ kN ∧ allB (empT t x s) j = true) (fun j => kN - j) 0 rfl ⟨by omega, rfl⟩ ?_
    rintro j ⟨w1, w2⟩
    simp only [u_spec_IsTree_l1]
    by_cases hj : j < kN
    · obtain ⟨m1, m2⟩ := v2 _ (mem_getD (l := s) (i := s.length - kN + j) (by omega))
      have hEj : empT t x s j = !(decide (knd t s (s.length - kN + j) = 1) && (decide (x.kind ≠ 8) || decide (j + 1 = kN))) := by unfold empT; rw [hkN]; rfl
      have hkd : (t.getD (s.getD (s.length - kN + j) default).toNat default).kind = knd t s (s.length - kN + j) := rfl
      have ret0 : empT t x s j = false → treeB t = false := fun h => hno (by rw [allB_no hj h]; rfl)
      repeat' (first | (with_reducible refine jn_in ?_) | (with_reducible refine cl_ok (by assumption) rfl ?_) | (with_reducible refine cl_okP (by assumption) rfl ?_) | (with_reducible refine br_if (fun hbr => ?_) (fun hbr => ?_)) | (with_reducible refine br_ifn (fun hbr => ?_) (fun hbr => ?_)) | (with_reducible refine br_nb (fun hbr => ?_) (fun hbr => ?_)) | (with_reducible refine br_b (fun hbr => ?_) (fun hbr => ?_)) | simp (disch := first | omega | (simp only [List.length_take, List.length_drop, List.length_append, List.map_cons, List.map_nil, List.length_map, List.length_cons, List.length_nil, List.length_set, List.length_replicate]; omega) | (simp only [List.length_cons, List.length_nil, Nat.zero_add, Nat.reduceAdd])) only [go_sem, ↓reduceIte, Nat.reduceAdd, Int.reduceNeg, Int.reduceAdd, Int.reduceSub, Int.reduceMul, Int.reduceLT, Int.reduceLE, Int.reduceEq, Int.reduceToNat, Nat.reduceBEq, e_sle, e_sge, e_shl1, e_orI, e_andI, e_shr, wrapu, wrap8, tn1, nat1, ix_s, ix_z, st_s, st_z, fl_s, fl_z, fl1_s, fl1_z, map_s, map_z, ix_z, ix_Nod, encNod, encSs, hkd, u_spec_IsTree_j0])
      all_goals first
        | (exfalso; omega)
        | exact ret_b (ret0 (by rw [hEj, decide_eq_true ‹knd t s (s.length - kN + j) = 1›, decide_eq_false (p := x.kind ≠ 8) (fun h => h ‹x.kind = 8›), decide_eq_true (p := j + 1 = kN) (by omega)]; rfl))
        | exact ret_b (ret0 (by rw [hEj, decide_eq_true ‹knd t s (s.length - kN + j) = 1›, decide_eq_true (p := x.kind ≠ 8) ‹¬ x.kind = 8›]; rfl))
        | exact ⟨j + 1, rfl, ⟨hj, allB_step w2 (by rw [hEj, decide_eq_true ‹knd t s (s.length - kN + j) = 1›, decide_eq_false (p := x.kind ≠ 8) (fun h => h ‹x.kind = 8›), decide_eq_false (p := j + 1 = kN) (by omega)]; rfl)⟩, by omega⟩
        | exact ⟨j + 1, rfl, ⟨hj, allB_step w2 (by rw [hEj, decide_eq_false (p := knd t s (s.length - kN + j) = 1) ‹_›]; rfl)⟩, by omega⟩
        | skip
    · obtain rfl : kN = j := by omega
      rw [if_pos w2] at hst
      have hsl : (s.take (s.length - kN)).length ≤ 1048576 := by rw [List.length_take]; omega
      repeat' (first | (with_reducible refine jn_in ?_) | (with_reducible refine cl_ok (by assumption) rfl ?_) | (with_reducible refine cl_okP (by assumption) rfl ?_) | (with_reducible refine br_if (fun hbr => ?_) (fun hbr => ?_)) | (with_reducible refine br_ifn (fun hbr => ?_) (fun hbr => ?_)) | (with_reducible refine br_nb (fun hbr => ?_) (fun hbr => ?_)) | (with_reducible refine br_b (fun hbr => ?_) (fun hbr => ?_)) | simp (disch := first | omega | (simp only [List.length_take, List.length_drop, List.length_append, List.map_cons, List.map_nil, List.length_map, List.length_cons, List.length_nil, List.length_set, List.length_replicate]; omega) | (simp only [List.length_cons, List.length_nil, Nat.zero_add, Nat.reduceAdd])) only [go_sem, ↓reduceIte, Nat.reduceAdd, Int.reduceNeg, Int.reduceAdd, Int.reduceSub, Int.reduceMul, Int.reduceLT, Int.reduceLE, Int.reduceEq, Int.reduceToNat, Nat.reduceBEq, e_sle, e_sge, e_shl1, e_orI, e_andI, e_shr, wrapu, wrap8, tn1, nat1, ix_s, ix_z, st_s, st_z, fl_s, fl_z, fl1_s, fl1_z, map_s, map_z, hkN, e1])
      all_goals first
        | (exfalso; omega)
        | exact ⟨(i + 1, s.take (s.length - kN) ++ [(i : Int)]), rfl, ⟨hlt, hst⟩, by simp only; omega⟩
        | trace_state
  · obtain rfl : i = t.length := by omega
    have hT : treeB t = (decide (s.length = 1) && !decide ((t.getD (t.length - 1) default).kind = 1)) := by unfold treeB; rw [decide_eq_true (by omega), g2]; rfl
    rw [hT]
    have e2 : ((t.length : Int) - 1).toNat = t.length - 1 := by omega
    repeat' (first | (with_reducible refine jn_in ?_) | (with_reducible refine cl_ok (by assumption) rfl ?_) | (with_reducible refine cl_okP (by assumption) rfl ?_) | (with_reducible refine br_if (fun hbr => ?_) (fun hbr => ?_)) | (with_reducible refine br_ifn (fun hbr => ?_) (fun hbr => ?_)) | (with_reducible refine br_nb (fun hbr => ?_) (fun hbr => ?_)) | (with_reducible refine br_b (fun hbr => ?_) (fun hbr => ?_)) | simp (disch := first | omega | (simp only [List.length_take, List.length_drop, List.length_append, List.map_cons, List.map_nil, List.length_map, List.length_cons, List.length_nil, List.length_set, List.length_replicate]; omega) | (simp only [List.length_cons, List.length_nil, Nat.zero_add, Nat.reduceAdd])) only [go_sem, ↓reduceIte, Nat.reduceAdd, Int.reduceNeg, Int.reduceAdd, Int.reduceSub, Int.reduceMul, Int.reduceLT, Int.reduceLE, Int.reduceEq, Int.reduceToNat, Nat.reduceBEq, e_sle, e_sge, e_shl1, e_orI, e_andI, e_shr, wrapu, wrap8, tn1, nat1, ix_s, ix_z, st_s, st_z, fl_s, fl_z, fl1_s, fl1_z, map_s, map_z, ix_Nod, encNod, encSs, e2])
    all_goals first
      | omega
      | exact ret_b (by rw [decide_eq_true (p := s.length = 1) (by omega), Bool.true_and])
      | exact ret_b (by rw [decide_eq_false (p := s.length = 1) (by omega), Bool.false_and])
      | trace_state
end Go.Proofs.Ytfdpkdfmkedkmaa

namespace Go.Proofs.Ytfdpkdfmkedkmaa
open Go.RowKit
set_option maxRecDepth 100000
def lenT (t : List Nod) (j : Nat) : Nat := match stkT t j with | some s => s.length | none => 0
theorem tree_all {t : List Nod} (h : treeB t = true) {j : Nat} (hj : j ≤ t.length) : ∃ s, stkT t j = some s := by
  cases h' : stkT t j with
  | some s => exact ⟨s, rfl⟩
  | none =>
    unfold treeB at h
    rw [stkT_none h' hj] at h
    simp at h
theorem tree_len {t : List Nod} (h : treeB t = true) : 1 ≤ t.length ∧ t.length ≤ 200 := by
  unfold treeB at h
  simp only [Bool.and_eq_true, decide_eq_true_eq] at h
  exact h.1
theorem lenT_step {t : List Nod} (h : treeB t = true) {j : Nat} (hj : j < t.length) : ∃ k : Nat, (t.getD j default).kids = (k : Int) ∧ k ≤ lenT t j ∧ lenT t (j + 1) + k = lenT t j + 1 ∧ nB (t.getD j default) = true := by
  obtain ⟨s, hs⟩ := tree_all h (Nat.le_of_lt hj)
  obtain ⟨s', hs'⟩ := tree_all h (j := j + 1) hj
  have hs2 := hs'
  simp only [stkT, hs] at hs2
  unfold stepT at hs2
  split at hs2
  · cases hs2
  · rename_i hb
    split at hs2
    · injection hs2 with hs2
      unfold badT at hb
      simp only [Bool.not_eq_true, Bool.or_eq_false_iff, Bool.not_eq_false', decide_eq_false_iff_not] at hb
      obtain ⟨hb1, hb2, -⟩ := hb
      have hk0 := nB_kids hb1
      obtain ⟨k, hk⟩ := Int.eq_ofNat_of_zero_le hk0
      refine ⟨k, hk, ?_, ?_, hb1⟩
      · unfold lenT; rw [hs]; simp only; omega
      · unfold lenT; rw [hs, hs']; simp only
        rw [← hs2, hk, List.length_append, List.length_take]
        simp; omega
    · cases hs2
end Go.Proofs.Ytfdpkdfmkedkmaa

namespace Go.Proofs.Ytfdpkdfmkedkmaa
open Go.RowKit
set_option maxRecDepth 100000
def putB (l : List ByteArray) (s : ByteArray) : List ByteArray := if hasB l s = true then l else l ++ [s]
theorem putB_len (l : List ByteArray) (s : ByteArray) : (putB l s).length ≤ l.length + 1 := by
  unfold putB
  split
  · omega
  · simp
theorem fold_take {α β : Type} [Inhabited α] (f : β → α → β) (b : β) {L : List α} {i : Nat} (h : i < L.length) : (L.take (i + 1)).foldl f b = f ((L.take i).foldl f b) (L.getD i default) := by
  rw [List.take_succ_eq_append_getElem h, List.foldl_append, List.getD_eq_getElem?_getD, List.getElem?_eq_getElem h]; rfl
theorem fold_len {α : Type} {f : List ByteArray → α → List ByteArray} {g : α → Nat} (h : ∀ l x, (f l x).length ≤ l.length + g x) : ∀ (L : List α) (l : List ByteArray), (L.foldl f l).length ≤ l.length + sumOf g L
  | [], l => by simp [sumOf]
  | x :: L, l => by
    have h1 := fold_len h L (f l x)
    have h2 := h l x
    simp only [List.foldl_cons, sumOf]
    omega
def c1 (x : Nod) : Nat := 1 + x.labels.length
theorem tree_nB {t : List Nod} (h : treeB t = true) {i : Nat} (hi : i < t.length) : nB (t.getD i default) = true := by
  obtain ⟨k, -, -, -, h⟩ := lenT_step h hi
  exact h
theorem nB_name {x : Nod} (h : nB x = true) (hk : namK x.kind = true) : nameB x.text = true := by
  unfold nB nodB at h
  simp only [Bool.and_eq_true] at h
  have h := h.2.2.2.1
  unfold txtB at h
  rw [if_pos (.inr hk)] at h
  unfold namK at hk
  have hk := of_decide_eq_true hk
  unfold txtR at h
  rw [if_neg (by rintro e; rw [e] at hk; revert hk; decide), if_neg (by rintro e; rw [e] at hk; revert hk; decide), if_neg (by rintro e; rw [e] at hk; revert hk; decide), if_neg (by rintro e; rw [e] at hk; revert hk; decide)] at h
  exact h
theorem nB_labs {x : Nod} (h : nB x = true) (hk : x.kind = 8) {i : Nat} (hi : i < x.labels.length) : nameB (x.labels.getD i default) = true := by
  unfold nB nodB at h
  simp only [Bool.and_eq_true] at h
  have h := h.2.2.2.2
  rw [if_pos (by rw [hk]; decide)] at h
  unfold labR at h
  rw [if_pos hk] at h
  have := allB_iff.1 h i hi
  unfold labN at this
  simp only [Bool.and_eq_true] at this
  exact this.1
theorem nB_lab0 {x : Nod} (h : nB x = true) (hk : x.kind = 27) : x.labels.length = 1 ∧ nameB (x.labels.getD 0 default) = true := by
  unfold nB nodB at h
  simp only [Bool.and_eq_true] at h
  have h := h.2.2.2.2
  rw [if_pos (by rw [hk]; decide)] at h
  unfold labR at h
  rw [if_neg (by omega), if_neg (by omega), if_neg (by omega), if_pos hk] at h
  simp only [Bool.and_eq_true, decide_eq_true_eq] at h
  exact ⟨h.1, h.2.1⟩
theorem flat_s (l : List ByteArray) : Flat (l.map encS).flatten := flat_map (fun x d hd => by simp [encS] at hd; exact ⟨_, hd⟩) l
theorem implPut_m (l : List ByteArray) (s : ByteArray) (hl : l.length ≤ 10000000000) : MeetsP Try.prog 27 [(false, [encSs l]), (false, [.sc (.string s)])] [(false, [encSs (putB l s)], true)] := by
  have h := hasText_m 9 l s (by omega)
  refine meets_uppf Try.func27 u_impl_addText_g rfl (flat_s l) (by simp) ?_; simp only [u_impl_addText_u]
  simp only [encSs]
  unfold putB
  cases hb : hasB l s
  · rw [hb] at h
    repeat' (first | (with_reducible refine jn_in ?_) | (with_reducible refine cl_ok (by assumption) rfl ?_) | (with_reducible refine cl_okP (by assumption) rfl ?_) | (with_reducible refine br_if (fun hbr => ?_) (fun hbr => ?_)) | (with_reducible refine br_ifn (fun hbr => ?_) (fun hbr => ?_)) | (with_reducible refine br_nb (fun hbr => ?_) (fun hbr => ?_)) | (with_reducible refine br_b (fun hbr => ?_) (fun hbr => ?_)) | simp (disch := first | omega | (simp only [List.length_take, List.length_drop, List.length_append, List.map_cons, List.map_nil, List.length_map, List.length_cons, List.length_nil, List.length_set, List.length_replicate]; omega) | (simp only [List.length_cons, List.length_nil, Nat.zero_add, Nat.reduceAdd])) only [go_sem, ↓reduceIte, Nat.reduceAdd, Int.reduceNeg, Int.reduceAdd, Int.reduceSub, Int.reduceMul, Int.reduceLT, Int.reduceLE, Int.reduceEq, Int.reduceToNat, Nat.reduceBEq, e_sle, e_sge, e_shl1, e_orI, e_andI, e_shr, wrapu, wrap8, tn1, nat1, ix_s, ix_z, st_s, st_z, fl_s, fl_z, fl1_s, fl1_z, map_s, map_z, true_and])
    rfl
  · rw [hb] at h
    repeat' (first | (with_reducible refine jn_in ?_) | (with_reducible refine cl_ok (by assumption) rfl ?_) | (with_reducible refine cl_okP (by assumption) rfl ?_) | (with_reducible refine br_if (fun hbr => ?_) (fun hbr => ?_)) | (with_reducible refine br_ifn (fun hbr => ?_) (fun hbr => ?_)) | (with_reducible refine br_nb (fun hbr => ?_) (fun hbr => ?_)) | (with_reducible refine br_b (fun hbr => ?_) (fun hbr => ?_)) | simp (disch := first | omega | (simp only [List.length_take, List.length_drop, List.length_append, List.map_cons, List.map_nil, List.length_map, List.length_cons, List.length_nil, List.length_set, List.length_replicate]; omega) | (simp only [List.length_cons, List.length_nil, Nat.zero_add, Nat.reduceAdd])) only [go_sem, ↓reduceIte, Nat.reduceAdd, Int.reduceNeg, Int.reduceAdd, Int.reduceSub, Int.reduceMul, Int.reduceLT, Int.reduceLE, Int.reduceEq, Int.reduceToNat, Nat.reduceBEq, e_sle, e_sge, e_shl1, e_orI, e_andI, e_shr, wrapu, wrap8, tn1, nat1, ix_s, ix_z, st_s, st_z, fl_s, fl_z, fl1_s, fl1_z, map_s, map_z, true_and])
    rfl
theorem specPut_m (l : List ByteArray) (s : ByteArray) (hl : l.length ≤ 10000000000) (hs : s ≠ ⟨#[]⟩) : MeetsP Try.prog 23 [(false, [encSs l]), (false, [.sc (.string s)])] [(false, [encSs (putB l s)], true)] := by
  have h := l1Has_m 9 l s (by omega)
  refine meets_uppf Try.func23 u_spec_l19Put_g rfl (flat_s l) (by simp) ?_; simp only [u_spec_l19Put_u]
  simp only [encSs]
  unfold putB
  cases hb : hasB l s
  · rw [hb] at h
    repeat' (first | (with_reducible refine jn_in ?_) | (with_reducible refine cl_ok (by assumption) rfl ?_) | (with_reducible refine cl_okP (by assumption) rfl ?_) | (with_reducible refine br_if (fun hbr => ?_) (fun hbr => ?_)) | (with_reducible refine br_ifn (fun hbr => ?_) (fun hbr => ?_)) | (with_reducible refine br_nb (fun hbr => ?_) (fun hbr => ?_)) | (with_reducible refine br_b (fun hbr => ?_) (fun hbr => ?_)) | simp (disch := first | omega | (simp only [List.length_take, List.length_drop, List.length_append, List.map_cons, List.map_nil, List.length_map, List.length_cons, List.length_nil, List.length_set, List.length_replicate]; omega) | (simp only [List.length_cons, List.length_nil, Nat.zero_add, Nat.reduceAdd])) only [go_sem, ↓reduceIte, Nat.reduceAdd, Int.reduceNeg, Int.reduceAdd, Int.reduceSub, Int.reduceMul, Int.reduceLT, Int.reduceLE, Int.reduceEq, Int.reduceToNat, Nat.reduceBEq, e_sle, e_sge, e_shl1, e_orI, e_andI, e_shr, wrapu, wrap8, tn1, nat1, ix_s, ix_z, st_s, st_z, fl_s, fl_z, fl1_s, fl1_z, map_s, map_z, hs])
    all_goals first | rfl | contradiction
  · rw [hb] at h
    repeat' (first | (with_reducible refine jn_in ?_) | (with_reducible refine cl_ok (by assumption) rfl ?_) | (with_reducible refine cl_okP (by assumption) rfl ?_) | (with_reducible refine br_if (fun hbr => ?_) (fun hbr => ?_)) | (with_reducible refine br_ifn (fun hbr => ?_) (fun hbr => ?_)) | (with_reducible refine br_nb (fun hbr => ?_) (fun hbr => ?_)) | (with_reducible refine br_b (fun hbr => ?_) (fun hbr => ?_)) | simp (disch := first | omega | (simp only [List.length_take, List.length_drop, List.length_append, List.map_cons, List.map_nil, List.length_map, List.length_cons, List.length_nil, List.length_set, List.length_replicate]; omega) | (simp only [List.length_cons, List.length_nil, Nat.zero_add, Nat.reduceAdd])) only [go_sem, ↓reduceIte, Nat.reduceAdd, Int.reduceNeg, Int.reduceAdd, Int.reduceSub, Int.reduceMul, Int.reduceLT, Int.reduceLE, Int.reduceEq, Int.reduceToNat, Nat.reduceBEq, e_sle, e_sge, e_shl1, e_orI, e_andI, e_shr, wrapu, wrap8, tn1, nat1, ix_s, ix_z, st_s, st_z, fl_s, fl_z, fl1_s, fl1_z, map_s, map_z, hs])
    all_goals first | rfl | contradiction
end Go.Proofs.Ytfdpkdfmkedkmaa

namespace Go.Proofs.Ytfdpkdfmkedkmaa
open Go.RowKit
set_option maxRecDepth 100000
def u_impl_IsTree_h : List Hint := [⟨2000003, 2, ⟨[(77, .p false [.d 31]), (8, .p false [.d 32]), (7, .p false [.d 29]), (56, .p false [.d 30]), (55, .p false [.d 29]), (54, .p false [.d 27]), (53, .p false [.sub 0 0 1 26 27]), (6, .p false [.sub 0 0 1 26 27]), (45, .p false [.d 23]), (4, .p false [.d 11]), (5, .p false [.ptr 1 1 0]), (20, .p false [.d 13]), (3, .p false [.own 0 0]), (19, .p false [.d 11]), (18, .p false [.d 8]), (17, .p false [.d 0]), (16, .p false [.d 7]), (2, .p false [.d 1]), (0, .p false [.d 0])], [(0, .row 0 3 1 12), (1, .var 1 41 [.d 14, .d 15, .d 16, .d 17, .d 18])], 2, 2, 33, [(30, true), (23, false), (13, true), (7, false), (4, false), (1, false)]⟩, []⟩, ⟨3000011, 1, ⟨[(55, .p false [.d 29]), (54, .p false [.d 27]), (53, .p false [.sub 0 0 1 26 27]), (6, .p false [.sub 0 0 1 26 27]), (45, .p false [.d 23]), (4, .p false [.d 11]), (5, .p false [.ptr 1 1 0]), (20, .p false [.d 13]), (3, .p false [.own 0 0]), (19, .p false [.d 11]), (18, .p false [.d 8]), (17, .p false [.d 0]), (16, .p false [.d 7]), (2, .p false [.d 1]), (0, .p false [.d 0])], [(0, .row 0 3 1 12), (1, .var 1 41 [.d 14, .d 15, .d 16, .d 17, .d 18])], 2, 2, 30, [(23, false), (13, true), (7, false), (4, false), (1, false)]⟩, []⟩, ⟨7, 1, ⟨[(45, .p false [.d 23]), (4, .p false [.d 11]), (5, .p false [.ptr 1 1 0]), (20, .p false [.d 13]), (3, .p false [.own 0 0]), (19, .p false [.d 11]), (18, .p false [.d 8]), (17, .p false [.d 0]), (16, .p false [.d 7]), (2, .p false [.d 1]), (0, .p false [.d 0])], [(0, .row 0 3 1 12), (1, .var 1 41 [.d 14, .d 15, .d 16, .d 17, .d 18])], 2, 2, 24, [(13, true), (7, false), (4, false), (1, false)]⟩, []⟩, ⟨3000005, 2, ⟨[(3, .p false [.own 0 0]), (19, .p false [.d 11]), (18, .p false [.d 8]), (17, .p false [.d 0]), (16, .p false [.d 7]), (2, .p false [.d 1]), (0, .p false [.d 0])], [(0, .row 0 3 1 12)], 1, 1, 13, [(7, false), (4, false), (1, false)]⟩, [⟨true, 3, 0, 3, 1⟩]⟩]
def u_impl_IsTree_d : List (Nat × Nat × Bool × List Nat) := []
def u_impl_IsTree_j0 : UP := .po (.k (.int .i64 1)) <| .po (.bin .add false 3 0) <| .jump 1 [0]
def u_impl_IsTree_l1 : UP := .po (.bin .lss false 0 2) <| .ite 0 (.sel [1, 3, 4, 6, 7, 9] <| .join 2 u_impl_IsTree_j0 <| .po (.isI 0) <| .po (.atJ 2 1 0) <| .po (.idx 1 5 0) <| .po (.isI 0) <| .po (.idx 5 7 0) <| .po (.k (.int .i64 1)) <| .po (.bin .eql false 5 0) <| .ite 0 (.po (.k (.int .i64 8)) <| .po (.bin .neq false 13 0) <| .ite 0 (.po (.k (.bool true)) <| .po (.k (.bool false)) <| .po (.sc 0) <| .ret [(false, [0])]) <| .po (.k (.int .i64 1)) <| .po (.bin .sub false 13 0) <| .po (.bin .eql false 13 0) <| .ite 0 (.po (.k (.bool false)) <| .po (.sc 0) <| .ret [(false, [0])]) <| .jump 2 [0, 12]) <| .po (.k (.bool false)) <| .jump 2 [0, 8]) <| .po (.lenL 7) <| .po (.bin .sub false 0 6) <| .po (.cutI 9 none (some 0)) <| .po (.sc 12) <| .po (.mk 3 1 [[12]]) <| .po (.cutP 12 2 1) <| .po (.flat 1) <| .po (.app 3 1 8 0 1) <| .po (.k (.int .i64 1)) <| .po (.bin .add false 16 0) <| .jump 0 [0, 2]
def u_impl_IsTree_j2 : UP := .ite 0 (.po (.k (.bool false)) <| .po (.sc 0) <| .ret [(false, [0])]) <| .po (.lenL 6) <| .po (.bin .sub false 0 2) <| .po (.cutI 8 (some 0) none) <| .po (.k (.int .i64 0)) <| .sel [0, 1, 2, 6, 10, 11, 12, 13] <| .loop [0] u_impl_IsTree_l1
def u_impl_IsTree_l3 : UP := .po (.bin .lss false 1 4) <| .ite 0 (.po (.isI 2) <| .po (.idx 5 6 2) <| .po (.k (.int .i64 0)) <| .po (.k (.int .i64 0)) <| .po (.k (.string ⟨#[]⟩)) <| .po (.k (.int .i64 0)) <| .sel [4, 5, 6, 7, 8, 10, 11, 15] <| .join 1 u_impl_IsTree_j2 <| .cl 42 [(true, [4, 3, 2, 1, 0])] [(false, [none], true)] <| .po (.un .not 0) <| .ite 0 (.po (.k (.bool true)) <| .po (.k (.bool true)) <| .jump 1 [0]) <| .po (.lenL 7) <| .po (.bin .gtr false 3 0) <| .ite 0 (.po (.k (.bool true)) <| .jump 1 [0]) <| .po (.k (.int .i64 0)) <| .po (.bin .eql false 9 0) <| .ite 0 (.po (.lenL 13) <| .po (.k (.int .i64 1)) <| .po (.bin .sub false 1 0) <| .po (.bin .lss false 15 0) <| .jump 1 [0]) <| .po (.k (.bool false)) <| .jump 1 [0]) <| .po (.lenL 1) <| .po (.k (.int .i64 1)) <| .po (.bin .eql false 1 0) <| .ite 0 (.po (.lenL 9) <| .po (.k (.int .i64 1)) <| .po (.bin .sub false 1 0) <| .po (.isI 0) <| .po (.idx 5 12 0) <| .po (.k (.int .i64 1)) <| .po (.bin .neq false 5 0) <| .po (.sc 0) <| .ret [(false, [0])]) <| .po (.k (.bool false)) <| .po (.sc 0) <| .ret [(false, [0])]
def u_impl_IsTree_u : UP := .po (.k (.bool false)) <| .po (.lenL 1) <| .po (.k (.int .i64 1)) <| .po (.bin .lss false 1 0) <| .ite 0 (.po (.k (.bool true)) <| .po (.k (.bool false)) <| .po (.sc 0) <| .ret [(false, [0])]) <| .po (.lenL 4) <| .po (.k (.int .i64 200)) <| .po (.bin .gtr false 1 0) <| .ite 0 (.po (.k (.bool false)) <| .po (.sc 0) <| .ret [(false, [0])]) <| .po (.lenL 7) <| .po (.k (.int .i64 0)) <| .po (.e 3 1) <| .sel [0, 1, 2, 10] <| .loop [1, 0] u_impl_IsTree_l3
theorem u_impl_IsTree_g : toUPf Try.prog 25 Try.f25 owA u_impl_IsTree_h u_impl_IsTree_d = some ([(false, 1)], u_impl_IsTree_u) := by kernel_rfl
end Go.Proofs.Ytfdpkdfmkedkmaa

namespace Go.Proofs.Ytfdpkdfmkedkmaa
open Go.RowKit
set_option maxRecDepth 100000
set_option maxHeartbeats 4000000 in
theorem implTree_m (t : List Nod) (ht : t.length ≤ 1048576) (hx : ∀ x ∈ t, x.text.size ≤ 1048576 ∧ x.labels.length ≤ 1048576 ∧ ∀ y ∈ x.labels, y.size ≤ 1048576) : Meets Try.prog 25 [(false, [encNods t])] [(false, [.sc (.bool (treeB t))], true)] := by
  have b1 : ∀ {a b : Bool}, a = b → [DV.sc (.bool a)] = [.sc (.bool b)] := fun h => by rw [h]
  refine meets_upf Try.func25 u_impl_IsTree_g rfl ?_; simp only [u_impl_IsTree_u]
  simp only [encNods]
  simp (disch := first | omega | (simp only [List.length_take, List.length_drop, List.length_append, List.map_cons, List.map_nil, List.length_map, List.length_cons, List.length_nil, List.length_set, List.length_replicate]; omega) | (simp only [List.length_cons, List.length_nil, Nat.zero_add, Nat.reduceAdd])) only [go_sem, ↓reduceIte, Nat.reduceAdd, Int.reduceNeg, Int.reduceAdd, Int.reduceSub, Int.reduceMul, Int.reduceLT, Int.reduceLE, Int.reduceEq, Int.reduceToNat, Nat.reduceBEq, e_sle, e_sge, e_shl1, e_orI, e_andI, e_shr, wrapu, wrap8, tn1, nat1, ix_s, ix_z, st_s, st_z, fl_s, fl_z, fl1_s, fl1_z, map_s, map_z, true_and]
  refine br_if (fun hn1 => ?_) (fun hn1 => ?_)
  · repeat' (first | (with_reducible refine jn_in ?_) | (with_reducible refine cl_ok (by assumption) rfl ?_) | (with_reducible refine cl_okP (by assumption) rfl ?_) | (with_reducible refine br_if (fun hbr => ?_) (fun hbr => ?_)) | (with_reducible refine br_ifn (fun hbr => ?_) (fun hbr => ?_)) | (with_reducible refine br_nb (fun hbr => ?_) (fun hbr => ?_)) | (with_reducible refine br_b (fun hbr => ?_) (fun hbr => ?_)) | simp (disch := first | omega | (simp only [List.length_take, List.length_drop, List.length_append, List.map_cons, List.map_nil, List.length_map, List.length_cons, List.length_nil, List.length_set, List.length_replicate]; omega) | (simp only [List.length_cons, List.length_nil, Nat.zero_add, Nat.reduceAdd])) only [go_sem, ↓reduceIte, Nat.reduceAdd, Int.reduceNeg, Int.reduceAdd, Int.reduceSub, Int.reduceMul, Int.reduceLT, Int.reduceLE, Int.reduceEq, Int.reduceToNat, Nat.reduceBEq, e_sle, e_sge, e_shl1, e_orI, e_andI, e_shr, wrapu, wrap8, tn1, nat1, ix_s, ix_z, st_s, st_z, fl_s, fl_z, fl1_s, fl1_z, map_s, map_z, true_and])
    exact ret_b (by unfold treeB; rw [decide_eq_false (by omega)]; rfl)
  simp (disch := first | omega | (simp only [List.length_take, List.length_drop, List.length_append, List.map_cons, List.map_nil, List.length_map, List.length_cons, List.length_nil, List.length_set, List.length_replicate]; omega) | (simp only [List.length_cons, List.length_nil, Nat.zero_add, Nat.reduceAdd])) only [go_sem, ↓reduceIte, Nat.reduceAdd, Int.reduceNeg, Int.reduceAdd, Int.reduceSub, Int.reduceMul, Int.reduceLT, Int.reduceLE, Int.reduceEq, Int.reduceToNat, Nat.reduceBEq, e_sle, e_sge, e_shl1, e_orI, e_andI, e_shr, wrapu, wrap8, tn1, nat1, ix_s, ix_z, st_s, st_z, fl_s, fl_z, fl1_s, fl1_z, map_s, map_z, true_and]
  refine br_if (fun hn2 => ?_) (fun hn2 => ?_)
  · repeat' (first | (with_reducible refine jn_in ?_) | (with_reducible refine cl_ok (by assumption) rfl ?_) | (with_reducible refine cl_okP (by assumption) rfl ?_) | (with_reducible refine br_if (fun hbr => ?_) (fun hbr => ?_)) | (with_reducible refine br_ifn (fun hbr => ?_) (fun hbr => ?_)) | (with_reducible refine br_nb (fun hbr => ?_) (fun hbr => ?_)) | (with_reducible refine br_b (fun hbr => ?_) (fun hbr => ?_)) | simp (disch := first | omega | (simp only [List.length_take, List.length_drop, List.length_append, List.map_cons, List.map_nil, List.length_map, List.length_cons, List.length_nil, List.length_set, List.length_replicate]; omega) | (simp only [List.length_cons, List.length_nil, Nat.zero_add, Nat.reduceAdd])) only [go_sem, ↓reduceIte, Nat.reduceAdd, Int.reduceNeg, Int.reduceAdd, Int.reduceSub, Int.reduceMul, Int.reduceLT, Int.reduceLE, Int.reduceEq, Int.reduceToNat, Nat.reduceBEq, e_sle, e_sge, e_shl1, e_orI, e_andI, e_shr, wrapu, wrap8, tn1, nat1, ix_s, ix_z, st_s, st_z, fl_s, fl_z, fl1_s, fl1_z, map_s, map_z, true_and])
    exact ret_b (by unfold treeB; rw [decide_eq_false (by omega)]; rfl)
  have hn : 1 ≤ (t.length : Int) ∧ (t.length : Int) ≤ 200 := by omega
  simp (disch := first | omega | (simp only [List.length_take, List.length_drop, List.length_append, List.map_cons, List.map_nil, List.length_map, List.length_cons, List.length_nil, List.length_set, List.length_replicate]; omega) | (simp only [List.length_cons, List.length_nil, Nat.zero_add, Nat.reduceAdd])) only [go_sem, ↓reduceIte, Nat.reduceAdd, Int.reduceNeg, Int.reduceAdd, Int.reduceSub, Int.reduceMul, Int.reduceLT, Int.reduceLE, Int.reduceEq, Int.reduceToNat, Nat.reduceBEq, e_sle, e_sge, e_shl1, e_orI, e_andI, e_shr, wrapu, wrap8, tn1, nat1, ix_s, ix_z, st_s, st_z, fl_s, fl_z, fl1_s, fl1_z, map_s, map_z, true_and]
  refine lp (fun s : Nat × List Int => [.sc (.int .i64 (s.1 : Nat)), .sl 3 1 (s.2.map encZ)]) (fun s => s.1 ≤ t.length ∧ stkT t s.1 = some s.2) (fun s => t.length - s.1) (0, []) rfl ⟨by simp, rfl⟩ ?_
  rintro ⟨i, s⟩ ⟨g1, g2⟩
  simp only at g1 g2 ⊢
  obtain ⟨v1, v2⟩ := stkT_inv g2
  simp only [u_impl_IsTree_l3]
  by_cases hlt : i < t.length
  · have hno := tree_no hlt g2
    have hst : stkT t (i + 1) = stepT t i s := by simp only [stkT, g2]
    unfold stepT at hno hst
    obtain ⟨z1, z2, z3⟩ := hx _ (getD_mem hlt)
    have hS := implNod_m (t.getD i default).kind (t.getD i default).num (t.getD i default).kids (t.getD i default).text (t.getD i default).labels z1 z2 z3
    simp only [encNod, encSs] at hS
    simp (disch := first | omega | (simp only [List.length_take, List.length_drop, List.length_append, List.map_cons, List.map_nil, List.length_map, List.length_cons, List.length_nil, List.length_set, List.length_replicate]; omega) | (simp only [List.length_cons, List.length_nil, Nat.zero_add, Nat.reduceAdd])) only [go_sem, ↓reduceIte, Nat.reduceAdd, Int.reduceNeg, Int.reduceAdd, Int.reduceSub, Int.reduceMul, Int.reduceLT, Int.reduceLE, Int.reduceEq, Int.reduceToNat, Nat.reduceBEq, e_sle, e_sge, e_shl1, e_orI, e_andI, e_shr, wrapu, wrap8, tn1, nat1, ix_s, ix_z, st_s, st_z, fl_s, fl_z, fl1_s, fl1_z, map_s, map_z, ix_Nod, encNod, encSs]
    refine br_if (fun hbr => ?_) (fun hbr => absurd hbr (by omega))
    simp (disch := first | omega | (simp only [List.length_take, List.length_drop, List.length_append, List.map_cons, List.map_nil, List.length_map, List.length_cons, List.length_nil, List.length_set, List.length_replicate]; omega) | (simp only [List.length_cons, List.length_nil, Nat.zero_add, Nat.reduceAdd])) only [go_sem, ↓reduceIte, Nat.reduceAdd, Int.reduceNeg, Int.reduceAdd, Int.reduceSub, Int.reduceMul, Int.reduceLT, Int.reduceLE, Int.reduceEq, Int.reduceToNat, Nat.reduceBEq, e_sle, e_sge, e_shl1, e_orI, e_andI, e_shr, wrapu, wrap8, tn1, nat1, ix_s, ix_z, st_s, st_z, fl_s, fl_z, fl1_s, fl1_z, map_s, map_z, ix_Nod, encNod, encSs]
    refine jn_eq [.sc (.bool (badT t i s))] ?_ ?_
    · refine cl_ok hS rfl ?_
      unfold badT nB
      cases hnb : nodB (t.getD i default).kind (t.getD i default).num (t.getD i default).text (t.getD i default).labels (t.getD i default).kids
      · repeat' (first | (with_reducible refine jn_in ?_) | (with_reducible refine cl_ok (by assumption) rfl ?_) | (with_reducible refine cl_okP (by assumption) rfl ?_) | (with_reducible refine br_if (fun hbr => ?_) (fun hbr => ?_)) | (with_reducible refine br_ifn (fun hbr => ?_) (fun hbr => ?_)) | (with_reducible refine br_nb (fun hbr => ?_) (fun hbr => ?_)) | (with_reducible refine br_b (fun hbr => ?_) (fun hbr => ?_)) | simp (disch := first | omega | (simp only [List.length_take, List.length_drop, List.length_append, List.map_cons, List.map_nil, List.length_map, List.length_cons, List.length_nil, List.length_set, List.length_replicate]; omega) | (simp only [List.length_cons, List.length_nil, Nat.zero_add, Nat.reduceAdd])) only [go_sem, ↓reduceIte, Nat.reduceAdd, Int.reduceNeg, Int.reduceAdd, Int.reduceSub, Int.reduceMul, Int.reduceLT, Int.reduceLE, Int.reduceEq, Int.reduceToNat, Nat.reduceBEq, e_sle, e_sge, e_shl1, e_orI, e_andI, e_shr, wrapu, wrap8, tn1, nat1, ix_s, ix_z, st_s, st_z, fl_s, fl_z, fl1_s, fl1_z, map_s, map_z, Bool.false_and])
        all_goals first | exact b1 (by simp [*]; done) | skip
      · repeat' (first | (with_reducible refine jn_in ?_) | (with_reducible refine cl_ok (by assumption) rfl ?_) | (with_reducible refine cl_okP (by assumption) rfl ?_) | (with_reducible refine br_if (fun hbr => ?_) (fun hbr => ?_)) | (with_reducible refine br_ifn (fun hbr => ?_) (fun hbr => ?_)) | (with_reducible refine br_nb (fun hbr => ?_) (fun hbr => ?_)) | (with_reducible refine br_b (fun hbr => ?_) (fun hbr => ?_)) | simp (disch := first | omega | (simp only [List.length_take, List.length_drop, List.length_append, List.map_cons, List.map_nil, List.length_map, List.length_cons, List.length_nil, List.length_set, List.length_replicate]; omega) | (simp only [List.length_cons, List.length_nil, Nat.zero_add, Nat.reduceAdd])) only [go_sem, ↓reduceIte, Nat.reduceAdd, Int.reduceNeg, Int.reduceAdd, Int.reduceSub, Int.reduceMul, Int.reduceLT, Int.reduceLE, Int.reduceEq, Int.reduceToNat, Nat.reduceBEq, e_sle, e_sge, e_shl1, e_orI, e_andI, e_shr, wrapu, wrap8, tn1, nat1, ix_s, ix_z, st_s, st_z, fl_s, fl_z, fl1_s, fl1_z, map_s, map_z, true_and])
        all_goals first
          | omega
          | exact b1 (by simp [-List.getD_eq_getElem?_getD, *]; done)
          | skip
    simp only [u_impl_IsTree_j2]
    cases hbad : badT t i s
    rotate_left
    · rw [hbad] at hno
      have hno := hno rfl
      repeat' (first | (with_reducible refine jn_in ?_) | (with_reducible refine cl_ok (by assumption) rfl ?_) | (with_reducible refine cl_okP (by assumption) rfl ?_) | (with_reducible refine br_if (fun hbr => ?_) (fun hbr => ?_)) | (with_reducible refine br_ifn (fun hbr => ?_) (fun hbr => ?_)) | (with_reducible refine br_nb (fun hbr => ?_) (fun hbr => ?_)) | (with_reducible refine br_b (fun hbr => ?_) (fun hbr => ?_)) | simp (disch := first | omega | (simp only [List.length_take, List.length_drop, List.length_append, List.map_cons, List.map_nil, List.length_map, List.length_cons, List.length_nil, List.length_set, List.length_replicate]; omega) | (simp only [List.length_cons, List.length_nil, Nat.zero_add, Nat.reduceAdd])) only [go_sem, ↓reduceIte, Nat.reduceAdd, Int.reduceNeg, Int.reduceAdd, Int.reduceSub, Int.reduceMul, Int.reduceLT, Int.reduceLE, Int.reduceEq, Int.reduceToNat, Nat.reduceBEq, e_sle, e_sge, e_shl1, e_orI, e_andI, e_shr, wrapu, wrap8, tn1, nat1, ix_s, ix_z, st_s, st_z, fl_s, fl_z, fl1_s, fl1_z, map_s, map_z, true_and])
      exact ret_b hno
    rw [hbad] at hno hst
    simp only [Bool.false_eq_true, if_false] at hno hst
    unfold badT at hbad
    simp only [Bool.or_eq_false_iff, Bool.not_eq_false', decide_eq_false_iff_not] at hbad
    obtain ⟨hb1, hb2, -⟩ := hbad
    have hk0 := nB_kids hb1
    generalize hxx : t.getD i default = x at *
    obtain ⟨kN, hkN⟩ := Int.eq_ofNat_of_zero_le hk0
    rw [hkN, Int.toNat_natCast] at hst hno
    rw [hkN] at hb2
    have e1 : (s.length : Int) - (kN : Int) = ((s.length - kN : Nat) : Int) := by omega
    have e3 : (s.length : Int) - ((s.length - kN : Nat) : Int) = (kN : Int) := by omega
    simp (disch := first | omega | (simp only [List.length_take, List.length_drop, List.length_append, List.map_cons, List.map_nil, List.length_map, List.length_cons, List.length_nil, List.length_set, List.length_replicate]; omega) | (simp only [List.length_cons, List.length_nil, Nat.zero_add, Nat.reduceAdd])) only [go_sem, ↓reduceIte, Nat.reduceAdd, Int.reduceNeg, Int.reduceAdd, Int.reduceSub, Int.reduceMul, Int.reduceLT, Int.reduceLE, Int.reduceEq, Int.reduceToNat, Nat.reduceBEq, e_sle, e_sge, e_shl1, e_orI, e_andI, e_shr, wrapu, wrap8, tn1, nat1, ix_s, ix_z, st_s, st_z, fl_s, fl_z, fl1_s, fl1_z, map_s, map_z, hkN, e1, e3]
    refine lp (fun j : Nat => [.sc (.int .i64 (j : Int))]) (fun j => j ≤ kN ∧ allB (empT t x s) j = true) (fun j => kN - j) 0 rfl ⟨by omega, rfl⟩ ?_
    rintro j ⟨w1, w2⟩
    simp only [u_impl_IsTree_l1]
    by_cases hj : j < kN
    · obtain ⟨m1, m2⟩ := v2 _ (mem_getD (l := s) (i := s.length - kN + j) (by omega))
      have hEj : empT t x s j = !(decide (knd t s (s.length - kN + j) = 1) && (decide (x.kind ≠ 8) || decide (j + 1 = kN))) := by unfold empT; rw [hkN]; rfl
      have hkd : (t.getD (s.getD (s.length - kN + j) default).toNat default).kind = knd t s (s.length - kN + j) := rfl
      have ret0 : empT t x s j = false → treeB t = false := fun h => hno (by rw [allB_no hj h]; rfl)
      have e4 : ((s.length - kN : Nat) : Int) + (j : Int) = ((s.length - kN + j : Nat) : Int) := rfl
      repeat' (first | (with_reducible refine jn_in ?_) | (with_reducible refine cl_ok (by assumption) rfl ?_) | (with_reducible refine cl_okP (by assumption) rfl ?_) | (with_reducible refine br_if (fun hbr => ?_) (fun hbr => ?_)) | (with_reducible refine br_ifn (fun hbr => ?_) (fun hbr => ?_)) | (with_reducible refine br_nb (fun hbr => ?_) (fun hbr => ?_)) | (with_reducible refine br_b (fun hbr => ?_) (fun hbr => ?_)) | simp (disch := first | omega | (simp only [List.length_take, List.length_drop, List.length_append, List.map_cons, List.map_nil, List.length_map, List.length_cons, List.length_nil, List.length_set, List.length_replicate]; omega) | (simp only [List.length_cons, List.length_nil, Nat.zero_add, Nat.reduceAdd])) only [go_sem, ↓reduceIte, Nat.reduceAdd, Int.reduceNeg, Int.reduceAdd, Int.reduceSub, Int.reduceMul, Int.reduceLT, Int.reduceLE, Int.reduceEq, Int.reduceToNat, Nat.reduceBEq, e_sle, e_sge, e_shl1, e_orI, e_andI, e_shr, wrapu, wrap8, tn1, nat1, ix_s, ix_z, st_s, st_z, fl_s, fl_z, fl1_s, fl1_z, map_s, map_z, ix_z, ix_Nod, encNod, encSs, hkd, u_impl_IsTree_j0, e4])
      all_goals first
        | (exfalso; omega)
        | exact ret_b (ret0 (by rw [hEj, decide_eq_true ‹knd t s (s.length - kN + j) = 1›, decide_eq_false (p := x.kind ≠ 8) (fun h => h ‹x.kind = 8›), decide_eq_true (p := j + 1 = kN) (by omega)]; rfl))
        | exact ret_b (ret0 (by rw [hEj, decide_eq_true ‹knd t s (s.length - kN + j) = 1›, decide_eq_true (p := x.kind ≠ 8) ‹¬ x.kind = 8›]; rfl))
        | exact ⟨j + 1, rfl, ⟨hj, allB_step w2 (by rw [hEj, decide_eq_true ‹knd t s (s.length - kN + j) = 1›, decide_eq_false (p := x.kind ≠ 8) (fun h => h ‹x.kind = 8›), decide_eq_false (p := j + 1 = kN) (by omega)]; rfl)⟩, by omega⟩
        | exact ⟨j + 1, rfl, ⟨hj, allB_step w2 (by rw [hEj, decide_eq_false (p := knd t s (s.length - kN + j) = 1) ‹_›]; rfl)⟩, by omega⟩
        | skip
    · obtain rfl : kN = j := by omega
      rw [if_pos w2] at hst
      have hsl : (s.take (s.length - kN)).length ≤ 1048576 := by rw [List.length_take]; omega
      repeat' (first | (with_reducible refine jn_in ?_) | (with_reducible refine cl_ok (by assumption) rfl ?_) | (with_reducible refine cl_okP (by assumption) rfl ?_) | (with_reducible refine br_if (fun hbr => ?_) (fun hbr => ?_)) | (with_reducible refine br_ifn (fun hbr => ?_) (fun hbr => ?_)) | (with_reducible refine br_nb (fun hbr => ?_) (fun hbr => ?_)) | (with_reducible refine br_b (fun hbr => ?_) (fun hbr => ?_)) | simp (disch := first | omega | (simp only [List.length_take, List.length_drop, List.length_append, List.map_cons, List.map_nil, List.length_map, List.length_cons, List.length_nil, List.length_set, List.length_replicate]; omega) | (simp only [List.length_cons, List.length_nil, Nat.zero_add, Nat.reduceAdd])) only [go_sem, ↓reduceIte, Nat.reduceAdd, Int.reduceNeg, Int.reduceAdd, Int.reduceSub, Int.reduceMul, Int.reduceLT, Int.reduceLE, Int.reduceEq, Int.reduceToNat, Nat.reduceBEq, e_sle, e_sge, e_shl1, e_orI, e_andI, e_shr, wrapu, wrap8, tn1, nat1, ix_s, ix_z, st_s, st_z, fl_s, fl_z, fl1_s, fl1_z, map_s, map_z, hkN, e1])
      all_goals first
        | (exfalso; omega)
        | exact ⟨(i + 1, s.take (s.length - kN) ++ [(i : Int)]), rfl, ⟨hlt, hst⟩, by simp only; omega⟩
        | trace_state
  · obtain rfl : i = t.length := by omega
    have hT : treeB t = (decide (s.length = 1) && !decide ((t.getD (t.length - 1) default).kind = 1)) := by unfold treeB; rw [decide_eq_true (by omega), g2]; rfl
    rw [hT]
    have e2 : ((t.length : Int) - 1).toNat = t.length - 1 := by omega
    repeat' (first | (with_reducible refine jn_in ?_) | (with_reducible refine cl_ok (by assumption) rfl ?_) | (with_reducible refine cl_okP (by assumption) rfl ?_) | (with_reducible refine br_if (fun hbr => ?_) (fun hbr => ?_)) | (with_reducible refine br_ifn (fun hbr => ?_) (fun hbr => ?_)) | (with_reducible refine br_nb (fun hbr => ?_) (fun hbr => ?_)) | (with_reducible refine br_b (fun hbr => ?_) (fun hbr => ?_)) | simp (disch := first | omega | (simp only [List.length_take, List.length_drop, List.length_append, List.map_cons, List.map_nil, List.length_map, List.length_cons, List.length_nil, List.length_set, List.length_replicate]; omega) | (simp only [List.length_cons, List.length_nil, Nat.zero_add, Nat.reduceAdd])) only [go_sem, ↓reduceIte, Nat.reduceAdd, Int.reduceNeg, Int.reduceAdd, Int.reduceSub, Int.reduceMul, Int.reduceLT, Int.reduceLE, Int.reduceEq, Int.reduceToNat, Nat.reduceBEq, e_sle, e_sge, e_shl1, e_orI, e_andI, e_shr, wrapu, wrap8, tn1, nat1, ix_s, ix_z, st_s, st_z, fl_s, fl_z, fl1_s, fl1_z, map_s, map_z, ix_Nod, encNod, encSs, e2])
    all_goals first
      | omega
      | exact ret_b (by rw [decide_eq_true (p := s.length = 1) (by omega), Bool.true_and])
      | exact ret_b (by rw [decide_eq_false (p := s.length = 1) (by omega), Bool.false_and])
      | trace_state
end Go.Proofs.Ytfdpkdfmkedkmaa

namespace Go.Proofs.Ytfdpkdfmkedkmaa
open Go.RowKit
set_option maxRecDepth 100000
def menD (l : List ByteArray) (s : ByteArray) : Nat → List ByteArray
  | 0 => l
  | i + 1 => if 1 ≤ i ∧ byteAt s i = 46 then putB (menD l s i) (s.extract 0 (i + 1)) else menD l s i
theorem menD_len (l : List ByteArray) (s : ByteArray) : ∀ i, (menD l s i).length ≤ l.length + i
  | 0 => by simp [menD]
  | i + 1 => by
    have h := menD_len l s i
    have h2 := putB_len (menD l s i) (s.extract 0 (i + 1))
    rw [menD]
    split <;> omega
theorem menD_1 (l : List ByteArray) (s : ByteArray) : menD l s 1 = l := by simp [menD]
theorem menD_t {l : List ByteArray} {s : ByteArray} {i : Nat} (h : 1 ≤ i) (h2 : byteAt s i = 46) : menD l s (i + 1) = putB (menD l s i) (s.extract 0 (i + 1)) := by rw [menD, if_pos ⟨h, h2⟩]
theorem menD_f {l : List ByteArray} {s : ByteArray} {i : Nat} (h2 : ¬ byteAt s i = 46) : menD l s (i + 1) = menD l s i := by rw [menD, if_neg (fun h => h2 h.2)]
def rndS : ByteArray := ⟨#[114, 97, 110, 100, 111, 109]⟩
def seedS : ByteArray := ⟨#[115, 101, 101, 100]⟩
def dRndS : ByteArray := ⟨#[46, 114, 97, 110, 100, 111, 109]⟩
def menB (l : List ByteArray) (s : ByteArray) : List ByteArray := putB (if s = rndS ∨ s = seedS then putB (menD l s s.size) dRndS else menD l s s.size) s
theorem menB_len (l : List ByteArray) (s : ByteArray) : (menB l s).length ≤ l.length + s.size + 2 := by
  have h := menD_len l s s.size
  have h1 := putB_len (if s = rndS ∨ s = seedS then putB (menD l s s.size) dRndS else menD l s s.size) s
  have h2 := putB_len (menD l s s.size) dRndS
  unfold menB
  split at h1 <;> rename_i hh
  · rw [if_pos hh] at *; omega
  · rw [if_neg hh] at *; omega
theorem menB_i {l : List ByteArray} {s : ByteArray} {i : Nat} (h1 : 1 ≤ i) (h2 : s.size ≤ i) (h3 : i ≤ s.size ∨ i = 1) : menD l s i = menD l s s.size := by
  rcases h3 with h3 | rfl
  · rw [Nat.le_antisymm h3 h2]
  · rcases Nat.lt_or_ge 0 s.size with h | h
    · have e : s.size = 1 := by omega
      rw [e]
    · rw [Nat.le_zero.1 h, menD_1]; rfl
theorem implMen_m (l : List ByteArray) (s : ByteArray) (hl : l.length + s.size ≤ 9000000000) : MeetsP Try.prog 26 [(false, [encSs l]), (false, [.sc (.string s)])] [(false, [encSs (menB l s)], true)] := by
  refine meets_uppf Try.func26 u_impl_mention_g rfl (flat_s l) (by simp) ?_; simp only [u_impl_mention_u]
  simp only [encSs]
  simp (disch := first | omega | (simp only [List.length_take, List.length_drop, List.length_append, List.map_cons, List.map_nil, List.length_map, List.length_cons, List.length_nil, List.length_set, List.length_replicate]; omega) | (simp only [List.length_cons, List.length_nil, Nat.zero_add, Nat.reduceAdd])) only [go_sem, ↓reduceIte, Nat.reduceAdd, Int.reduceNeg, Int.reduceAdd, Int.reduceSub, Int.reduceMul, Int.reduceLT, Int.reduceLE, Int.reduceEq, Int.reduceToNat, Nat.reduceBEq, e_sle, e_sge, e_shl1, e_orI, e_andI, e_shr, wrapu, wrap8, tn1, nat1, ix_s, ix_z, st_s, st_z, fl_s, fl_z, fl1_s, fl1_z, map_s, map_z, true_and]
  refine lp (fun i : Nat => [.sc (.int .i64 i), .sl 9 1 ((menD l s i).map encS)]) (fun i => 1 ≤ i ∧ (i ≤ s.size ∨ i = 1)) (fun i => s.size - i) 1 (by rw [menD_1]; rfl) ⟨by omega, .inr rfl⟩ ?_
  rintro i ⟨h1, h2⟩
  have hli := menD_len l s i
  have hP := implPut_m (menD l s i) (s.extract 0 (i + 1)) (by omega)
  have hR := implPut_m (menD l s i) dRndS (by omega)
  have hQ := implPut_m (putB (menD l s i) dRndS) s (by have := putB_len (menD l s i) dRndS; omega)
  have hS := implPut_m (menD l s i) s (by omega)
  simp only [encSs] at hP hR hQ hS
  simp only [u_impl_mention_l1]
  by_cases hlt : i < s.size
  · have et := fun h => menD_t (l := l) (s := s) h1 h
    have ef := fun h => menD_f (l := l) (s := s) (i := i) h
    repeat' (first | (with_reducible refine jn_in ?_) | (with_reducible refine cl_ok (by assumption) rfl ?_) | (with_reducible refine cl_okP (by assumption) rfl ?_) | (with_reducible refine br_if (fun hbr => ?_) (fun hbr => ?_)) | (with_reducible refine br_ifn (fun hbr => ?_) (fun hbr => ?_)) | (with_reducible refine br_nb (fun hbr => ?_) (fun hbr => ?_)) | (with_reducible refine br_b (fun hbr => ?_) (fun hbr => ?_)) | simp (disch := first | omega | (simp only [List.length_take, List.length_drop, List.length_append, List.map_cons, List.map_nil, List.length_map, List.length_cons, List.length_nil, List.length_set, List.length_replicate]; omega) | (simp only [List.length_cons, List.length_nil, Nat.zero_add, Nat.reduceAdd])) only [go_sem, ↓reduceIte, Nat.reduceAdd, Int.reduceNeg, Int.reduceAdd, Int.reduceSub, Int.reduceMul, Int.reduceLT, Int.reduceLE, Int.reduceEq, Int.reduceToNat, Nat.reduceBEq, e_sle, e_sge, e_shl1, e_orI, e_andI, e_shr, wrapu, wrap8, tn1, nat1, ix_s, ix_z, st_s, st_z, fl_s, fl_z, fl1_s, fl1_z, map_s, map_z, u_impl_mention_j0])
    all_goals first
      | omega
      | exact ⟨i + 1, by rw [et (by omega)], ⟨by omega, by omega⟩, by omega⟩
      | exact ⟨i + 1, by rw [ef (by omega)], ⟨by omega, by omega⟩, by omega⟩
      | skip
  · have hz := menB_i (l := l) h1 (by omega) h2
    rw [hz] at hR hQ hS ⊢
    have eb : menB l s = putB (if s = rndS ∨ s = seedS then putB (menD l s s.size) dRndS else menD l s s.size) s := rfl
    generalize hrs : rndS = r1 at *
    generalize hrd : dRndS = r2 at *
    generalize hsd : seedS = r3 at *
    unfold rndS at hrs
    unfold dRndS at hrd
    unfold seedS at hsd
    simp (disch := first | omega | (simp only [List.length_take, List.length_drop, List.length_append, List.map_cons, List.map_nil, List.length_map, List.length_cons, List.length_nil, List.length_set, List.length_replicate]; omega) | (simp only [List.length_cons, List.length_nil, Nat.zero_add, Nat.reduceAdd])) only [go_sem, ↓reduceIte, Nat.reduceAdd, Int.reduceNeg, Int.reduceAdd, Int.reduceSub, Int.reduceMul, Int.reduceLT, Int.reduceLE, Int.reduceEq, Int.reduceToNat, Nat.reduceBEq, e_sle, e_sge, e_shl1, e_orI, e_andI, e_shr, wrapu, wrap8, tn1, nat1, ix_s, ix_z, st_s, st_z, fl_s, fl_z, fl1_s, fl1_z, map_s, map_z, true_and]
    rw [eb]
    refine br_if (fun hbr => absurd hbr (by omega)) (fun hbr => ?_)
    rw [hrs, hrd, hsd]
    by_cases e1 : s = r1
    · rw [if_pos (.inl e1)]
      repeat' (first | (with_reducible refine jn_in ?_) | (with_reducible refine cl_ok (by assumption) rfl ?_) | (with_reducible refine cl_okP (by assumption) rfl ?_) | (with_reducible refine br_if (fun hbr => ?_) (fun hbr => ?_)) | (with_reducible refine br_ifn (fun hbr => ?_) (fun hbr => ?_)) | (with_reducible refine br_nb (fun hbr => ?_) (fun hbr => ?_)) | (with_reducible refine br_b (fun hbr => ?_) (fun hbr => ?_)) | simp (disch := first | omega | (simp only [List.length_take, List.length_drop, List.length_append, List.map_cons, List.map_nil, List.length_map, List.length_cons, List.length_nil, List.length_set, List.length_replicate]; omega) | (simp only [List.length_cons, List.length_nil, Nat.zero_add, Nat.reduceAdd])) only [go_sem, ↓reduceIte, Nat.reduceAdd, Int.reduceNeg, Int.reduceAdd, Int.reduceSub, Int.reduceMul, Int.reduceLT, Int.reduceLE, Int.reduceEq, Int.reduceToNat, Nat.reduceBEq, e_sle, e_sge, e_shl1, e_orI, e_andI, e_shr, wrapu, wrap8, tn1, nat1, ix_s, ix_z, st_s, st_z, fl_s, fl_z, fl1_s, fl1_z, map_s, map_z, true_and])
      all_goals first | rfl | contradiction
    · by_cases e2 : s = r3
      · rw [if_pos (.inr e2)]
        repeat' (first | (with_reducible refine jn_in ?_) | (with_reducible refine cl_ok (by assumption) rfl ?_) | (with_reducible refine cl_okP (by assumption) rfl ?_) | (with_reducible refine br_if (fun hbr => ?_) (fun hbr => ?_)) | (with_reducible refine br_ifn (fun hbr => ?_) (fun hbr => ?_)) | (with_reducible refine br_nb (fun hbr => ?_) (fun hbr => ?_)) | (with_reducible refine br_b (fun hbr => ?_) (fun hbr => ?_)) | simp (disch := first | omega | (simp only [List.length_take, List.length_drop, List.length_append, List.map_cons, List.map_nil, List.length_map, List.length_cons, List.length_nil, List.length_set, List.length_replicate]; omega) | (simp only [List.length_cons, List.length_nil, Nat.zero_add, Nat.reduceAdd])) only [go_sem, ↓reduceIte, Nat.reduceAdd, Int.reduceNeg, Int.reduceAdd, Int.reduceSub, Int.reduceMul, Int.reduceLT, Int.reduceLE, Int.reduceEq, Int.reduceToNat, Nat.reduceBEq, e_sle, e_sge, e_shl1, e_orI, e_andI, e_shr, wrapu, wrap8, tn1, nat1, ix_s, ix_z, st_s, st_z, fl_s, fl_z, fl1_s, fl1_z, map_s, map_z, true_and])
        all_goals first | rfl | contradiction
      · rw [if_neg (by simp [e1, e2])]
        repeat' (first | (with_reducible refine jn_in ?_) | (with_reducible refine cl_ok (by assumption) rfl ?_) | (with_reducible refine cl_okP (by assumption) rfl ?_) | (with_reducible refine br_if (fun hbr => ?_) (fun hbr => ?_)) | (with_reducible refine br_ifn (fun hbr => ?_) (fun hbr => ?_)) | (with_reducible refine br_nb (fun hbr => ?_) (fun hbr => ?_)) | (with_reducible refine br_b (fun hbr => ?_) (fun hbr => ?_)) | simp (disch := first | omega | (simp only [List.length_take, List.length_drop, List.length_append, List.map_cons, List.map_nil, List.length_map, List.length_cons, List.length_nil, List.length_set, List.length_replicate]; omega) | (simp only [List.length_cons, List.length_nil, Nat.zero_add, Nat.reduceAdd])) only [go_sem, ↓reduceIte, Nat.reduceAdd, Int.reduceNeg, Int.reduceAdd, Int.reduceSub, Int.reduceMul, Int.reduceLT, Int.reduceLE, Int.reduceEq, Int.reduceToNat, Nat.reduceBEq, e_sle, e_sge, e_shl1, e_orI, e_andI, e_shr, wrapu, wrap8, tn1, nat1, ix_s, ix_z, st_s, st_z, fl_s, fl_z, fl1_s, fl1_z, map_s, map_z, true_and])
        all_goals first | rfl | contradiction
end Go.Proofs.Ytfdpkdfmkedkmaa

namespace Go.Proofs.Ytfdpkdfmkedkmaa
open Go.RowKit
set_option maxRecDepth 100000
theorem size_ne {s : ByteArray} (h : 1 ≤ s.size) : s ≠ ⟨#[]⟩ := by
  rintro rfl
  have e : (⟨#[]⟩ : ByteArray).size = 0 := rfl
  omega
theorem ext_size {s : ByteArray} {i : Nat} (h : i < s.size) : 1 ≤ (s.extract 0 (i + 1)).size := by
  rw [ByteArray.size_extract]; omega
theorem specMen_m (l : List ByteArray) (s : ByteArray) (hl : l.length + s.size ≤ 9000000000) (hs : 1 ≤ s.size) : MeetsP Try.prog 22 [(false, [encSs l]), (false, [.sc (.string s)])] [(false, [encSs (menB l s)], true)] := by
  refine meets_uppf Try.func22 u_spec_l19Mention_g rfl (flat_s l) (by simp) ?_; simp only [u_spec_l19Mention_u]
  simp only [encSs]
  simp (disch := first | omega | (simp only [List.length_take, List.length_drop, List.length_append, List.map_cons, List.map_nil, List.length_map, List.length_cons, List.length_nil, List.length_set, List.length_replicate]; omega) | (simp only [List.length_cons, List.length_nil, Nat.zero_add, Nat.reduceAdd])) only [go_sem, ↓reduceIte, Nat.reduceAdd, Int.reduceNeg, Int.reduceAdd, Int.reduceSub, Int.reduceMul, Int.reduceLT, Int.reduceLE, Int.reduceEq, Int.reduceToNat, Nat.reduceBEq, e_sle, e_sge, e_shl1, e_orI, e_andI, e_shr, wrapu, wrap8, tn1, nat1, ix_s, ix_z, st_s, st_z, fl_s, fl_z, fl1_s, fl1_z, map_s, map_z, true_and]
  refine lp (fun i : Nat => [.sc (.int .i64 i), .sl 9 1 ((menD l s i).map encS)]) (fun i => 1 ≤ i ∧ (i ≤ s.size ∨ i = 1)) (fun i => s.size - i) 1 (by rw [menD_1]; rfl) ⟨by omega, .inr rfl⟩ ?_
  rintro i ⟨h1, h2⟩
  have hli := menD_len l s i
  have hR := specPut_m (menD l s i) dRndS (by omega) (size_ne (by decide))
  have hQ := specPut_m (putB (menD l s i) dRndS) s (by have := putB_len (menD l s i) dRndS; omega) (size_ne hs)
  have hS := specPut_m (menD l s i) s (by omega) (size_ne hs)
  simp only [encSs] at hR hQ hS
  simp only [u_spec_l19Mention_l1]
  by_cases hlt : i < s.size
  · have hP := specPut_m (menD l s i) (s.extract 0 (i + 1)) (by omega) (size_ne (ext_size hlt))
    simp only [encSs] at hP
    have et := fun h => menD_t (l := l) (s := s) h1 h
    have ef := fun h => menD_f (l := l) (s := s) (i := i) h
    repeat' (first | (with_reducible refine jn_in ?_) | (with_reducible refine cl_ok (by assumption) rfl ?_) | (with_reducible refine cl_okP (by assumption) rfl ?_) | (with_reducible refine br_if (fun hbr => ?_) (fun hbr => ?_)) | (with_reducible refine br_ifn (fun hbr => ?_) (fun hbr => ?_)) | (with_reducible refine br_nb (fun hbr => ?_) (fun hbr => ?_)) | (with_reducible refine br_b (fun hbr => ?_) (fun hbr => ?_)) | simp (disch := first | omega | (simp only [List.length_take, List.length_drop, List.length_append, List.map_cons, List.map_nil, List.length_map, List.length_cons, List.length_nil, List.length_set, List.length_replicate]; omega) | (simp only [List.length_cons, List.length_nil, Nat.zero_add, Nat.reduceAdd])) only [go_sem, ↓reduceIte, Nat.reduceAdd, Int.reduceNeg, Int.reduceAdd, Int.reduceSub, Int.reduceMul, Int.reduceLT, Int.reduceLE, Int.reduceEq, Int.reduceToNat, Nat.reduceBEq, e_sle, e_sge, e_shl1, e_orI, e_andI, e_shr, wrapu, wrap8, tn1, nat1, ix_s, ix_z, st_s, st_z, fl_s, fl_z, fl1_s, fl1_z, map_s, map_z, u_spec_l19Mention_j0])
    all_goals first
      | omega
      | exact ⟨i + 1, by rw [et (by omega)], ⟨by omega, by omega⟩, by omega⟩
      | exact ⟨i + 1, by rw [ef (by omega)], ⟨by omega, by omega⟩, by omega⟩
      | skip
  · have hz := menB_i (l := l) h1 (by omega) h2
    rw [hz] at hR hQ hS ⊢
    have eb : menB l s = putB (if s = rndS ∨ s = seedS then putB (menD l s s.size) dRndS else menD l s s.size) s := rfl
    generalize hrs : rndS = r1 at *
    generalize hrd : dRndS = r2 at *
    generalize hsd : seedS = r3 at *
    unfold rndS at hrs
    unfold dRndS at hrd
    unfold seedS at hsd
    simp (disch := first | omega | (simp only [List.length_take, List.length_drop, List.length_append, List.map_cons, List.map_nil, List.length_map, List.length_cons, List.length_nil, List.length_set, List.length_replicate]; omega) | (simp only [List.length_cons, List.length_nil, Nat.zero_add, Nat.reduceAdd])) only [go_sem, ↓reduceIte, Nat.reduceAdd, Int.reduceNeg, Int.reduceAdd, Int.reduceSub, Int.reduceMul, Int.reduceLT, Int.reduceLE, Int.reduceEq, Int.reduceToNat, Nat.reduceBEq, e_sle, e_sge, e_shl1, e_orI, e_andI, e_shr, wrapu, wrap8, tn1, nat1, ix_s, ix_z, st_s, st_z, fl_s, fl_z, fl1_s, fl1_z, map_s, map_z, true_and]
    rw [eb]
    refine br_if (fun hbr => absurd hbr (by omega)) (fun hbr => ?_)
    rw [hrs, hrd, hsd]
    by_cases e1 : s = r1
    · rw [if_pos (.inl e1)]
      repeat' (first | (with_reducible refine jn_in ?_) | (with_reducible refine cl_ok (by assumption) rfl ?_) | (with_reducible refine cl_okP (by assumption) rfl ?_) | (with_reducible refine br_if (fun hbr => ?_) (fun hbr => ?_)) | (with_reducible refine br_ifn (fun hbr => ?_) (fun hbr => ?_)) | (with_reducible refine br_nb (fun hbr => ?_) (fun hbr => ?_)) | (with_reducible refine br_b (fun hbr => ?_) (fun hbr => ?_)) | simp (disch := first | omega | (simp only [List.length_take, List.length_drop, List.length_append, List.map_cons, List.map_nil, List.length_map, List.length_cons, List.length_nil, List.length_set, List.length_replicate]; omega) | (simp only [List.length_cons, List.length_nil, Nat.zero_add, Nat.reduceAdd])) only [go_sem, ↓reduceIte, Nat.reduceAdd, Int.reduceNeg, Int.reduceAdd, Int.reduceSub, Int.reduceMul, Int.reduceLT, Int.reduceLE, Int.reduceEq, Int.reduceToNat, Nat.reduceBEq, e_sle, e_sge, e_shl1, e_orI, e_andI, e_shr, wrapu, wrap8, tn1, nat1, ix_s, ix_z, st_s, st_z, fl_s, fl_z, fl1_s, fl1_z, map_s, map_z, true_and])
      all_goals first | rfl | contradiction
    · by_cases e2 : s = r3
      · rw [if_pos (.inr e2)]
        repeat' (first | (with_reducible refine jn_in ?_) | (with_reducible refine cl_ok (by assumption) rfl ?_) | (with_reducible refine cl_okP (by assumption) rfl ?_) | (with_reducible refine br_if (fun hbr => ?_) (fun hbr => ?_)) | (with_reducible refine br_ifn (fun hbr => ?_) (fun hbr => ?_)) | (with_reducible refine br_nb (fun hbr => ?_) (fun hbr => ?_)) | (with_reducible refine br_b (fun hbr => ?_) (fun hbr => ?_)) | simp (disch := first | omega | (simp only [List.length_take, List.length_drop, List.length_append, List.map_cons, List.map_nil, List.length_map, List.length_cons, List.length_nil, List.length_set, List.length_replicate]; omega) | (simp only [List.length_cons, List.length_nil, Nat.zero_add, Nat.reduceAdd])) only [go_sem, ↓reduceIte, Nat.reduceAdd, Int.reduceNeg, Int.reduceAdd, Int.reduceSub, Int.reduceMul, Int.reduceLT, Int.reduceLE, Int.reduceEq, Int.reduceToNat, Nat.reduceBEq, e_sle, e_sge, e_shl1, e_orI, e_andI, e_shr, wrapu, wrap8, tn1, nat1, ix_s, ix_z, st_s, st_z, fl_s, fl_z, fl1_s, fl1_z, map_s, map_z, true_and])
        all_goals first | rfl | contradiction
      · rw [if_neg (by simp [e1, e2])]
        repeat' (first | (with_reducible refine jn_in ?_) | (with_reducible refine cl_ok (by assumption) rfl ?_) | (with_reducible refine cl_okP (by assumption) rfl ?_) | (with_reducible refine br_if (fun hbr => ?_) (fun hbr => ?_)) | (with_reducible refine br_ifn (fun hbr => ?_) (fun hbr => ?_)) | (with_reducible refine br_nb (fun hbr => ?_) (fun hbr => ?_)) | (with_reducible refine br_b (fun hbr => ?_) (fun hbr => ?_)) | simp (disch := first | omega | (simp only [List.length_take, List.length_drop, List.length_append, List.map_cons, List.map_nil, List.length_map, List.length_cons, List.length_nil, List.length_set, List.length_replicate]; omega) | (simp only [List.length_cons, List.length_nil, Nat.zero_add, Nat.reduceAdd])) only [go_sem, ↓reduceIte, Nat.reduceAdd, Int.reduceNeg, Int.reduceAdd, Int.reduceSub, Int.reduceMul, Int.reduceLT, Int.reduceLE, Int.reduceEq, Int.reduceToNat, Nat.reduceBEq, e_sle, e_sge, e_shl1, e_orI, e_andI, e_shr, wrapu, wrap8, tn1, nat1, ix_s, ix_z, st_s, st_z, fl_s, fl_z, fl1_s, fl1_z, map_s, map_z, true_and])
        all_goals first | rfl | contradiction
def dotS : ByteArray := ⟨#[46]⟩
def arrS : ByteArray := ⟨#[60, 45]⟩
def menK : List Int := [7, 18, 22, 23, 24, 25, 26, 32]
def menN (l : List ByteArray) (x : Nod) : List ByteArray :=
  if x.kind ∈ menK then menB l x.text
  else if x.kind = 34 then putB (menB l x.text) (x.text ++ dotS)
  else if x.kind = 27 then menB (menB l x.text) (x.labels.getD 0 default ++ arrS)
  else if x.kind = 8 then x.labels.foldl menB l else l
def menT (t : List Nod) (i : Nat) : List ByteArray := (t.take i).foldl menN []
def menOf (t : List Nod) : List ByteArray := if treeB t = true then menT t t.length else []
def cM (x : Nod) : Nat := 9 * (1 + wtNod x)
theorem sumOf_lab : ∀ L : List ByteArray, sumOf (fun s => s.size + 2) L ≤ 2 * wtSs L
  | [] => by simp [sumOf]
  | s :: L => by
    have := sumOf_lab L
    unfold wtSs at this ⊢
    simp only [sumOf, List.length_cons]
    omega
theorem lab0_wt {L : List ByteArray} : (L.getD 0 default).size ≤ wtSs L + 0 := by
  cases L with
  | nil => exact Nat.le_refl _
  | cons s L => unfold wtSs; simp [sumOf]; omega
theorem menN_len (l : List ByteArray) (x : Nod) : (menN l x).length ≤ l.length + cM x := by
  have hw : wtNod x = x.text.size + wtSs x.labels := rfl
  have h1 := menB_len l x.text
  have h2 := putB_len (menB l x.text) (x.text ++ dotS)
  have h3 := menB_len (menB l x.text) (x.labels.getD 0 default ++ arrS)
  have h4 := fold_len (g := fun s => s.size + 2) (f := menB) (fun l x => by have := menB_len l x; omega) x.labels l
  have h5 := sumOf_lab x.labels
  have h6 := lab0_wt (L := x.labels)
  rw [ByteArray.size_append] at h3
  have e2 : arrS.size = 2 := rfl
  unfold menN cM
  split
  · omega
  · split
    · omega
    · split
      · omega
      · split <;> omega
theorem cM_sum : ∀ t : List Nod, sumOf cM t = 9 * wtNods t
  | [] => by simp [sumOf, wtNods]
  | x :: t => by
    have h := cM_sum t
    unfold wtNods at h ⊢
    simp only [sumOf, List.length_cons, cM] at h ⊢
    omega
theorem menT_len {t : List Nod} (h : wtNods t ≤ 1048576) (i : Nat) : (menT t i).length ≤ 9437184 := by
  have h1 := fold_len menN_len (t.take i) []
  have h2 := sumOf_le cM t i
  have h3 := cM_sum t
  unfold menT
  simp only [List.length_nil] at h1
  omega
theorem menOf_len {t : List Nod} (h : wtNods t ≤ 1048576) : (menOf t).length ≤ 10000000 := by
  unfold menOf
  split
  · have := menT_len h t.length; omega
  · simp
theorem menT_succ {t : List Nod} {i : Nat} (h : i < t.length) : menT t (i + 1) = menN (menT t i) (t.getD i default) := fold_take menN [] h
def lmT (l : List ByteArray) (x : Nod) (j : Nat) : List ByteArray := (x.labels.take j).foldl menB l
theorem lmT_succ {l : List ByteArray} {x : Nod} {j : Nat} (h : j < x.labels.length) : lmT l x (j + 1) = menB (lmT l x j) (x.labels.getD j default) := fold_take menB l h
theorem lmT_len (l : List ByteArray) (x : Nod) (j : Nat) : (lmT l x j).length ≤ l.length + 2 * wtSs x.labels := by
  have h1 := fold_len (g := fun s => s.size + 2) (f := menB) (fun l x => by have := menB_len l x; omega) (x.labels.take j) l
  have h2 := sumOf_le (fun s : ByteArray => s.size + 2) x.labels j
  have h3 := sumOf_lab x.labels
  unfold lmT; omega
theorem lmT_end {l : List ByteArray} {x : Nod} (h : x.kind = 8) : lmT l x x.labels.length = menN l x := by
  unfold lmT menN
  rw [List.take_length, if_neg (by rw [h]; decide), if_neg (by omega), if_neg (by omega), if_pos h]
theorem menN_34 {l : List ByteArray} {x : Nod} (h : x.kind = 34) : menN l x = putB (menB l x.text) (x.text ++ dotS) := by
  unfold menN
  rw [if_neg (by rw [h]; decide), if_pos h]
theorem menN_27 {l : List ByteArray} {x : Nod} (h : x.kind = 27) : menN l x = menB (menB l x.text) (x.labels.getD 0 default ++ arrS) := by
  unfold menN
  rw [if_neg (by rw [h]; decide), if_neg (by omega), if_pos h]
end Go.Proofs.Ytfdpkdfmkedkmaa

namespace Go.Proofs.Ytfdpkdfmkedkmaa
open Go.RowKit
set_option maxRecDepth 100000
theorem catDot {s : ByteArray} (h : s.size ≤ 1048576) : s.size + (⟨#[46]⟩ : ByteArray).size ≤ maxLen := by
  have e : (⟨#[46]⟩ : ByteArray).size = 1 := rfl
  unfold maxLen; omega
theorem catArr {s : ByteArray} (h : s.size ≤ 1048576) : s.size + (⟨#[60, 45]⟩ : ByteArray).size ≤ maxLen := by
  have e : (⟨#[60, 45]⟩ : ByteArray).size = 2 := rfl
  unfold maxLen; omega
set_option maxHeartbeats 4000000 in
theorem implMenOf_m (t : List Nod) (hw : wtNods t ≤ 1048576) : Meets Try.prog 9 [(false, [encNods t])] [(false, [encSs (menOf t)], true)] := by
  have hB := wtNods_ok hw
  have h1 := implTree_m t hB.1 hB.2
  have b1 : ∀ {a b : Bool}, a = b → [DV.sc (.bool a)] = [.sc (.bool b)] := fun h => by rw [h]
  cases c1 : treeB t
  · have hr : menOf t = [] := by unfold menOf; rw [c1]; rfl
    rw [hr]
    rw [c1] at h1
    refine meets_upf Try.func9 u_impl_MentionsOf_g rfl ?_; simp only [u_impl_MentionsOf_u]
    simp only [encNods, encSs] at h1 ⊢
    repeat' (first | (with_reducible refine jn_in ?_) | (with_reducible refine cl_ok (by assumption) rfl ?_) | (with_reducible refine cl_okP (by assumption) rfl ?_) | (with_reducible refine br_if (fun hbr => ?_) (fun hbr => ?_)) | (with_reducible refine br_ifn (fun hbr => ?_) (fun hbr => ?_)) | (with_reducible refine br_nb (fun hbr => ?_) (fun hbr => ?_)) | (with_reducible refine br_b (fun hbr => ?_) (fun hbr => ?_)) | simp (disch := first | omega | (simp only [List.length_take, List.length_drop, List.length_append, List.map_cons, List.map_nil, List.length_map, List.length_cons, List.length_nil, List.length_set, List.length_replicate]; omega) | (simp only [List.length_cons, List.length_nil, Nat.zero_add, Nat.reduceAdd])) only [go_sem, ↓reduceIte, Nat.reduceAdd, Int.reduceNeg, Int.reduceAdd, Int.reduceSub, Int.reduceMul, Int.reduceLT, Int.reduceLE, Int.reduceEq, Int.reduceToNat, Nat.reduceBEq, e_sle, e_sge, e_shl1, e_orI, e_andI, e_shr, wrapu, wrap8, tn1, nat1, ix_s, ix_z, st_s, st_z, fl_s, fl_z, fl1_s, fl1_z, map_s, map_z, true_and])
    rfl
  have hr : menOf t = menT t t.length := by unfold menOf; rw [c1]; rfl
  rw [hr]
  rw [c1] at h1
  have hT := tree_len c1
  refine meets_upf Try.func9 u_impl_MentionsOf_g rfl ?_; simp only [u_impl_MentionsOf_u]
  simp only [encNods, encSs] at h1 ⊢
  simp (disch := first | omega | (simp only [List.length_take, List.length_drop, List.length_append, List.map_cons, List.map_nil, List.length_map, List.length_cons, List.length_nil, List.length_set, List.length_replicate]; omega) | (simp only [List.length_cons, List.length_nil, Nat.zero_add, Nat.reduceAdd])) only [go_sem, ↓reduceIte, Nat.reduceAdd, Int.reduceNeg, Int.reduceAdd, Int.reduceSub, Int.reduceMul, Int.reduceLT, Int.reduceLE, Int.reduceEq, Int.reduceToNat, Nat.reduceBEq, e_sle, e_sge, e_shl1, e_orI, e_andI, e_shr, wrapu, wrap8, tn1, nat1, ix_s, ix_z, st_s, st_z, fl_s, fl_z, fl1_s, fl1_z, map_s, map_z, true_and]
  refine cl_ok h1 rfl ?_
  simp (disch := first | omega | (simp only [List.length_take, List.length_drop, List.length_append, List.map_cons, List.map_nil, List.length_map, List.length_cons, List.length_nil, List.length_set, List.length_replicate]; omega) | (simp only [List.length_cons, List.length_nil, Nat.zero_add, Nat.reduceAdd])) only [go_sem, ↓reduceIte, Nat.reduceAdd, Int.reduceNeg, Int.reduceAdd, Int.reduceSub, Int.reduceMul, Int.reduceLT, Int.reduceLE, Int.reduceEq, Int.reduceToNat, Nat.reduceBEq, e_sle, e_sge, e_shl1, e_orI, e_andI, e_shr, wrapu, wrap8, tn1, nat1, ix_s, ix_z, st_s, st_z, fl_s, fl_z, fl1_s, fl1_z, map_s, map_z, true_and]
  refine lp_n t.length (fun i => [.sc (.int .i64 i), .sl 9 1 ((menT t i).map encS)]) rfl fun i hi => ?_
  simp only [u_impl_MentionsOf_l3]
  by_cases hlt : i < t.length
  · have hs := menT_succ hlt
    have hl := menT_len hw i
    have hl2 := menT_len hw (i + 1)
    have hws := sumOf_mem wtNod (getD_mem hlt)
    have hws2 : wtNods t = t.length + sumOf wtNod t := rfl
    have hix : eIdx 5 (some (.sl 41 5 (t.map encNod))) (some (.sc (.int .i64 (i : Int)))) = some (encNod (t.getD i default)) := by rw [ix_Nod (by omega) (by omega), Int.toNat_natCast]
    have hxb := hB.2 _ (getD_mem hlt)
    have hnb := tree_nB c1 hlt
    generalize t.getD i default = x at *
    generalize menT t i = l at *
    rw [hs] at hl2 ⊢
    obtain ⟨k, n, s, L, c⟩ := x
    simp only [encNod, encSs] at hix hxb
    simp (disch := first | omega | (simp only [List.length_take, List.length_drop, List.length_append, List.map_cons, List.map_nil, List.length_map, List.length_cons, List.length_nil, List.length_set, List.length_replicate]; omega) | (simp only [List.length_cons, List.length_nil, Nat.zero_add, Nat.reduceAdd])) only [go_sem, ↓reduceIte, Nat.reduceAdd, Int.reduceNeg, Int.reduceAdd, Int.reduceSub, Int.reduceMul, Int.reduceLT, Int.reduceLE, Int.reduceEq, Int.reduceToNat, Nat.reduceBEq, e_sle, e_sge, e_shl1, e_orI, e_andI, e_shr, wrapu, wrap8, tn1, nat1, ix_s, ix_z, st_s, st_z, fl_s, fl_z, fl1_s, fl1_z, map_s, map_z, true_and]
    refine br_if (fun hbr => ?_) (fun hbr => absurd hbr (by omega))
    simp (disch := first | omega | (simp only [List.length_take, List.length_drop, List.length_append, List.map_cons, List.map_nil, List.length_map, List.length_cons, List.length_nil, List.length_set, List.length_replicate]; omega) | (simp only [List.length_cons, List.length_nil, Nat.zero_add, Nat.reduceAdd])) only [go_sem, ↓reduceIte, Nat.reduceAdd, Int.reduceNeg, Int.reduceAdd, Int.reduceSub, Int.reduceMul, Int.reduceLT, Int.reduceLE, Int.reduceEq, Int.reduceToNat, Nat.reduceBEq, e_sle, e_sge, e_shl1, e_orI, e_andI, e_shr, wrapu, wrap8, tn1, nat1, ix_s, ix_z, st_s, st_z, fl_s, fl_z, fl1_s, fl1_z, map_s, map_z, true_and]
    refine jn (fun vs => ∃ p1 p2 p3 p4 p5 p6, vs = [p1, p2, p3, p4, p5, p6, .sl 9 1 ((menN l ⟨k, n, s, L, c⟩).map encS)]) ?_ ?_
    rotate_left
    · rintro vs - ⟨p1, p2, p3, p4, p5, p6, rfl⟩
      simp only [u_impl_MentionsOf_j2]
      repeat' (first | (with_reducible refine jn_in ?_) | (with_reducible refine cl_ok (by assumption) rfl ?_) | (with_reducible refine cl_okP (by assumption) rfl ?_) | (with_reducible refine br_if (fun hbr => ?_) (fun hbr => ?_)) | (with_reducible refine br_ifn (fun hbr => ?_) (fun hbr => ?_)) | (with_reducible refine br_nb (fun hbr => ?_) (fun hbr => ?_)) | (with_reducible refine br_b (fun hbr => ?_) (fun hbr => ?_)) | simp (disch := first | omega | (simp only [List.length_take, List.length_drop, List.length_append, List.map_cons, List.map_nil, List.length_map, List.length_cons, List.length_nil, List.length_set, List.length_replicate]; omega) | (simp only [List.length_cons, List.length_nil, Nat.zero_add, Nat.reduceAdd])) only [go_sem, ↓reduceIte, Nat.reduceAdd, Int.reduceNeg, Int.reduceAdd, Int.reduceSub, Int.reduceMul, Int.reduceLT, Int.reduceLE, Int.reduceEq, Int.reduceToNat, Nat.reduceBEq, e_sle, e_sge, e_shl1, e_orI, e_andI, e_shr, wrapu, wrap8, tn1, nat1, ix_s, ix_z, st_s, st_z, fl_s, fl_z, fl1_s, fl1_z, map_s, map_z, true_and])
      exact hlt
    simp (disch := first | omega | (simp only [List.length_take, List.length_drop, List.length_append, List.map_cons, List.map_nil, List.length_map, List.length_cons, List.length_nil, List.length_set, List.length_replicate]; omega) | (simp only [List.length_cons, List.length_nil, Nat.zero_add, Nat.reduceAdd])) only [go_sem, ↓reduceIte, Nat.reduceAdd, Int.reduceNeg, Int.reduceAdd, Int.reduceSub, Int.reduceMul, Int.reduceLT, Int.reduceLE, Int.reduceEq, Int.reduceToNat, Nat.reduceBEq, e_sle, e_sge, e_shl1, e_orI, e_andI, e_shr, wrapu, wrap8, tn1, nat1, ix_s, ix_z, st_s, st_z, fl_s, fl_z, fl1_s, fl1_z, map_s, map_z, hix]
    refine jn_eq [.sc (.bool (decide (k ∈ menK)))] ?_ ?_
    · repeat' (first | (with_reducible refine jn_in ?_) | (with_reducible refine cl_ok (by assumption) rfl ?_) | (with_reducible refine cl_okP (by assumption) rfl ?_) | (with_reducible refine br_if (fun hbr => ?_) (fun hbr => ?_)) | (with_reducible refine br_ifn (fun hbr => ?_) (fun hbr => ?_)) | (with_reducible refine br_nb (fun hbr => ?_) (fun hbr => ?_)) | (with_reducible refine br_b (fun hbr => ?_) (fun hbr => ?_)) | simp (disch := first | omega | (simp only [List.length_take, List.length_drop, List.length_append, List.map_cons, List.map_nil, List.length_map, List.length_cons, List.length_nil, List.length_set, List.length_replicate]; omega) | (simp only [List.length_cons, List.length_nil, Nat.zero_add, Nat.reduceAdd])) only [go_sem, ↓reduceIte, Nat.reduceAdd, Int.reduceNeg, Int.reduceAdd, Int.reduceSub, Int.reduceMul, Int.reduceLT, Int.reduceLE, Int.reduceEq, Int.reduceToNat, Nat.reduceBEq, e_sle, e_sge, e_shl1, e_orI, e_andI, e_shr, wrapu, wrap8, tn1, nat1, ix_s, ix_z, st_s, st_z, fl_s, fl_z, fl1_s, fl1_z, map_s, map_z, true_and])
      all_goals first
        | (subst_vars; exact b1 (by decide))
        | exact b1 (by simp [menK, *])
        | skip
    simp only [u_impl_MentionsOf_j1]
    have hwx : s.size + wtSs L ≤ 1048576 := by
      have h : wtNod ⟨k, n, s, L, c⟩ = s.size + wtSs L := rfl
      omega
    refine br_b (fun hk => ?_) (fun hk => ?_)
    · have hk := of_decide_eq_true hk
      have hP := implMen_m l s (by omega)
      simp only [encSs] at hP
      repeat' (first | (with_reducible refine jn_in ?_) | (with_reducible refine cl_ok (by assumption) rfl ?_) | (with_reducible refine cl_okP (by assumption) rfl ?_) | (with_reducible refine br_if (fun hbr => ?_) (fun hbr => ?_)) | (with_reducible refine br_ifn (fun hbr => ?_) (fun hbr => ?_)) | (with_reducible refine br_nb (fun hbr => ?_) (fun hbr => ?_)) | (with_reducible refine br_b (fun hbr => ?_) (fun hbr => ?_)) | simp (disch := first | omega | (simp only [List.length_take, List.length_drop, List.length_append, List.map_cons, List.map_nil, List.length_map, List.length_cons, List.length_nil, List.length_set, List.length_replicate]; omega) | (simp only [List.length_cons, List.length_nil, Nat.zero_add, Nat.reduceAdd])) only [go_sem, ↓reduceIte, Nat.reduceAdd, Int.reduceNeg, Int.reduceAdd, Int.reduceSub, Int.reduceMul, Int.reduceLT, Int.reduceLE, Int.reduceEq, Int.reduceToNat, Nat.reduceBEq, e_sle, e_sge, e_shl1, e_orI, e_andI, e_shr, wrapu, wrap8, tn1, nat1, ix_s, ix_z, st_s, st_z, fl_s, fl_z, fl1_s, fl1_z, map_s, map_z, true_and])
      exact ⟨_, _, _, _, _, _, by unfold menN; rw [if_pos hk]⟩
    · have hk := of_decide_eq_false hk
      simp (disch := first | omega | (simp only [List.length_take, List.length_drop, List.length_append, List.map_cons, List.map_nil, List.length_map, List.length_cons, List.length_nil, List.length_set, List.length_replicate]; omega) | (simp only [List.length_cons, List.length_nil, Nat.zero_add, Nat.reduceAdd])) only [go_sem, ↓reduceIte, Nat.reduceAdd, Int.reduceNeg, Int.reduceAdd, Int.reduceSub, Int.reduceMul, Int.reduceLT, Int.reduceLE, Int.reduceEq, Int.reduceToNat, Nat.reduceBEq, e_sle, e_sge, e_shl1, e_orI, e_andI, e_shr, wrapu, wrap8, tn1, nat1, ix_s, ix_z, st_s, st_z, fl_s, fl_z, fl1_s, fl1_z, map_s, map_z, true_and]
      refine br_if (fun k34 => ?_) (fun k34 => ?_)
      · have he := menN_34 (l := l) (x := ⟨k, n, s, L, c⟩) k34
        have hml := menB_len l s
        have hns := nameB_size (nB_name (x := ⟨k, n, s, L, c⟩) hnb (by simp only [k34]; rfl))
        simp only at hns he
        have hP := implMen_m l s (by omega)
        have hQ := implPut_m (menB l s) (s ++ dotS) (by omega)
        simp only [encSs, dotS] at hP hQ
        rw [he]
        repeat' (first | (with_reducible refine jn_in ?_) | (with_reducible refine cl_ok (by assumption) rfl ?_) | (with_reducible refine cl_okP (by assumption) rfl ?_) | (with_reducible refine br_if (fun hbr => ?_) (fun hbr => ?_)) | (with_reducible refine br_ifn (fun hbr => ?_) (fun hbr => ?_)) | (with_reducible refine br_nb (fun hbr => ?_) (fun hbr => ?_)) | (with_reducible refine br_b (fun hbr => ?_) (fun hbr => ?_)) | simp (disch := first | omega | (simp only [List.length_take, List.length_drop, List.length_append, List.map_cons, List.map_nil, List.length_map, List.length_cons, List.length_nil, List.length_set, List.length_replicate]; omega) | (simp only [List.length_cons, List.length_nil, Nat.zero_add, Nat.reduceAdd])) only [go_sem, ↓reduceIte, Nat.reduceAdd, Int.reduceNeg, Int.reduceAdd, Int.reduceSub, Int.reduceMul, Int.reduceLT, Int.reduceLE, Int.reduceEq, Int.reduceToNat, Nat.reduceBEq, e_sle, e_sge, e_shl1, e_orI, e_andI, e_shr, wrapu, wrap8, tn1, nat1, ix_s, ix_z, st_s, st_z, fl_s, fl_z, fl1_s, fl1_z, map_s, map_z, e_cat (catDot (s := s) (by omega))])
        all_goals first | omega | exact ⟨_, _, _, _, _, _, rfl⟩
      simp (disch := first | omega | (simp only [List.length_take, List.length_drop, List.length_append, List.map_cons, List.map_nil, List.length_map, List.length_cons, List.length_nil, List.length_set, List.length_replicate]; omega) | (simp only [List.length_cons, List.length_nil, Nat.zero_add, Nat.reduceAdd])) only [go_sem, ↓reduceIte, Nat.reduceAdd, Int.reduceNeg, Int.reduceAdd, Int.reduceSub, Int.reduceMul, Int.reduceLT, Int.reduceLE, Int.reduceEq, Int.reduceToNat, Nat.reduceBEq, e_sle, e_sge, e_shl1, e_orI, e_andI, e_shr, wrapu, wrap8, tn1, nat1, ix_s, ix_z, st_s, st_z, fl_s, fl_z, fl1_s, fl1_z, map_s, map_z, true_and]
      refine br_if (fun k27 => ?_) (fun k27 => ?_)
      · have he := menN_27 (l := l) (x := ⟨k, n, s, L, c⟩) k27
        have hml := menB_len l s
        have hns := nameB_size (nB_name (x := ⟨k, n, s, L, c⟩) hnb (by simp only [k27]; rfl))
        obtain ⟨hL1, hL2⟩ := nB_lab0 (x := ⟨k, n, s, L, c⟩) hnb k27
        have hLs := nameB_size hL2
        simp only at hns he hL1 hL2 hLs
        have hP := implMen_m l s (by omega)
        have hQ := implMen_m (menB l s) (L.getD 0 default ++ arrS) (by rw [ByteArray.size_append]; have e2 : arrS.size = 2 := rfl; omega)
        simp only [encSs, arrS] at hP hQ
        rw [he]
        repeat' (first | (with_reducible refine jn_in ?_) | (with_reducible refine cl_ok (by assumption) rfl ?_) | (with_reducible refine cl_okP (by assumption) rfl ?_) | (with_reducible refine br_if (fun hbr => ?_) (fun hbr => ?_)) | (with_reducible refine br_ifn (fun hbr => ?_) (fun hbr => ?_)) | (with_reducible refine br_nb (fun hbr => ?_) (fun hbr => ?_)) | (with_reducible refine br_b (fun hbr => ?_) (fun hbr => ?_)) | simp (disch := first | omega | (simp only [List.length_take, List.length_drop, List.length_append, List.map_cons, List.map_nil, List.length_map, List.length_cons, List.length_nil, List.length_set, List.length_replicate]; omega) | (simp only [List.length_cons, List.length_nil, Nat.zero_add, Nat.reduceAdd])) only [go_sem, ↓reduceIte, Nat.reduceAdd, Int.reduceNeg, Int.reduceAdd, Int.reduceSub, Int.reduceMul, Int.reduceLT, Int.reduceLE, Int.reduceEq, Int.reduceToNat, Nat.reduceBEq, e_sle, e_sge, e_shl1, e_orI, e_andI, e_shr, wrapu, wrap8, tn1, nat1, ix_s, ix_z, st_s, st_z, fl_s, fl_z, fl1_s, fl1_z, map_s, map_z, e_cat (catArr (s := L.getD 0 default) (by omega)), hL1])
        all_goals first | omega | exact ⟨_, _, _, _, _, _, rfl⟩
      simp (disch := first | omega | (simp only [List.length_take, List.length_drop, List.length_append, List.map_cons, List.map_nil, List.length_map, List.length_cons, List.length_nil, List.length_set, List.length_replicate]; omega) | (simp only [List.length_cons, List.length_nil, Nat.zero_add, Nat.reduceAdd])) only [go_sem, ↓reduceIte, Nat.reduceAdd, Int.reduceNeg, Int.reduceAdd, Int.reduceSub, Int.reduceMul, Int.reduceLT, Int.reduceLE, Int.reduceEq, Int.reduceToNat, Nat.reduceBEq, e_sle, e_sge, e_shl1, e_orI, e_andI, e_shr, wrapu, wrap8, tn1, nat1, ix_s, ix_z, st_s, st_z, fl_s, fl_z, fl1_s, fl1_z, map_s, map_z, true_and]
      refine br_if (fun k8 => ?_) (fun k8 => ?_)
      · have he := lmT_end (l := l) (x := ⟨k, n, s, L, c⟩) k8
        simp (disch := first | omega | (simp only [List.length_take, List.length_drop, List.length_append, List.map_cons, List.map_nil, List.length_map, List.length_cons, List.length_nil, List.length_set, List.length_replicate]; omega) | (simp only [List.length_cons, List.length_nil, Nat.zero_add, Nat.reduceAdd])) only [go_sem, ↓reduceIte, Nat.reduceAdd, Int.reduceNeg, Int.reduceAdd, Int.reduceSub, Int.reduceMul, Int.reduceLT, Int.reduceLE, Int.reduceEq, Int.reduceToNat, Nat.reduceBEq, e_sle, e_sge, e_shl1, e_orI, e_andI, e_shr, wrapu, wrap8, tn1, nat1, ix_s, ix_z, st_s, st_z, fl_s, fl_z, fl1_s, fl1_z, map_s, map_z, true_and]
        refine lp_n L.length (fun j => [.sc (.int .i64 j), .sl 9 1 ((lmT l ⟨k, n, s, L, c⟩ j).map encS)]) rfl fun j hj => ?_
        simp only [u_impl_MentionsOf_l0]
        by_cases hlj : j < L.length
        · have hln := nameB_size (nB_labs (x := ⟨k, n, s, L, c⟩) hnb k8 hlj)
          simp only at hln
          have hP := implMen_m (lmT l ⟨k, n, s, L, c⟩ j) (L.getD j default) (by have := lmT_len l ⟨k, n, s, L, c⟩ j; simp only at this; omega)
          have hls := lmT_succ (l := l) (x := ⟨k, n, s, L, c⟩) hlj
          rw [hls]
          simp only [encSs] at hP
          have e1 : ((j : Nat) : Int).toNat = j := rfl
          repeat' (first | (with_reducible refine jn_in ?_) | (with_reducible refine cl_ok (by assumption) rfl ?_) | (with_reducible refine cl_okP (by assumption) rfl ?_) | (with_reducible refine br_if (fun hbr => ?_) (fun hbr => ?_)) | (with_reducible refine br_ifn (fun hbr => ?_) (fun hbr => ?_)) | (with_reducible refine br_nb (fun hbr => ?_) (fun hbr => ?_)) | (with_reducible refine br_b (fun hbr => ?_) (fun hbr => ?_)) | simp (disch := first | omega | (simp only [List.length_take, List.length_drop, List.length_append, List.map_cons, List.map_nil, List.length_map, List.length_cons, List.length_nil, List.length_set, List.length_replicate]; omega) | (simp only [List.length_cons, List.length_nil, Nat.zero_add, Nat.reduceAdd])) only [go_sem, ↓reduceIte, Nat.reduceAdd, Int.reduceNeg, Int.reduceAdd, Int.reduceSub, Int.reduceMul, Int.reduceLT, Int.reduceLE, Int.reduceEq, Int.reduceToNat, Nat.reduceBEq, e_sle, e_sge, e_shl1, e_orI, e_andI, e_shr, wrapu, wrap8, tn1, nat1, ix_s, ix_z, st_s, st_z, fl_s, fl_z, fl1_s, fl1_z, map_s, map_z, e1])
          all_goals first | omega | exact ⟨rfl, hlj⟩
        · obtain rfl : j = L.length := by omega
          have he : lmT l ⟨k, n, s, L, c⟩ L.length = menN l ⟨k, n, s, L, c⟩ := he
          repeat' (first | (with_reducible refine jn_in ?_) | (with_reducible refine cl_ok (by assumption) rfl ?_) | (with_reducible refine cl_okP (by assumption) rfl ?_) | (with_reducible refine br_if (fun hbr => ?_) (fun hbr => ?_)) | (with_reducible refine br_ifn (fun hbr => ?_) (fun hbr => ?_)) | (with_reducible refine br_nb (fun hbr => ?_) (fun hbr => ?_)) | (with_reducible refine br_b (fun hbr => ?_) (fun hbr => ?_)) | simp (disch := first | omega | (simp only [List.length_take, List.length_drop, List.length_append, List.map_cons, List.map_nil, List.length_map, List.length_cons, List.length_nil, List.length_set, List.length_replicate]; omega) | (simp only [List.length_cons, List.length_nil, Nat.zero_add, Nat.reduceAdd])) only [go_sem, ↓reduceIte, Nat.reduceAdd, Int.reduceNeg, Int.reduceAdd, Int.reduceSub, Int.reduceMul, Int.reduceLT, Int.reduceLE, Int.reduceEq, Int.reduceToNat, Nat.reduceBEq, e_sle, e_sge, e_shl1, e_orI, e_andI, e_shr, wrapu, wrap8, tn1, nat1, ix_s, ix_z, st_s, st_z, fl_s, fl_z, fl1_s, fl1_z, map_s, map_z, true_and])
          all_goals first | omega | exact ⟨_, _, _, _, _, _, by rw [he]⟩
      · repeat' (first | (with_reducible refine jn_in ?_) | (with_reducible refine cl_ok (by assumption) rfl ?_) | (with_reducible refine cl_okP (by assumption) rfl ?_) | (with_reducible refine br_if (fun hbr => ?_) (fun hbr => ?_)) | (with_reducible refine br_ifn (fun hbr => ?_) (fun hbr => ?_)) | (with_reducible refine br_nb (fun hbr => ?_) (fun hbr => ?_)) | (with_reducible refine br_b (fun hbr => ?_) (fun hbr => ?_)) | simp (disch := first | omega | (simp only [List.length_take, List.length_drop, List.length_append, List.map_cons, List.map_nil, List.length_map, List.length_cons, List.length_nil, List.length_set, List.length_replicate]; omega) | (simp only [List.length_cons, List.length_nil, Nat.zero_add, Nat.reduceAdd])) only [go_sem, ↓reduceIte, Nat.reduceAdd, Int.reduceNeg, Int.reduceAdd, Int.reduceSub, Int.reduceMul, Int.reduceLT, Int.reduceLE, Int.reduceEq, Int.reduceToNat, Nat.reduceBEq, e_sle, e_sge, e_shl1, e_orI, e_andI, e_shr, wrapu, wrap8, tn1, nat1, ix_s, ix_z, st_s, st_z, fl_s, fl_z, fl1_s, fl1_z, map_s, map_z, true_and])
        exact ⟨_, _, _, _, _, _, by unfold menN; rw [if_neg hk, if_neg k34, if_neg k27, if_neg k8]⟩
  · obtain rfl : i = t.length := by omega
    repeat' (first | (with_reducible refine jn_in ?_) | (with_reducible refine cl_ok (by assumption) rfl ?_) | (with_reducible refine cl_okP (by assumption) rfl ?_) | (with_reducible refine br_if (fun hbr => ?_) (fun hbr => ?_)) | (with_reducible refine br_ifn (fun hbr => ?_) (fun hbr => ?_)) | (with_reducible refine br_nb (fun hbr => ?_) (fun hbr => ?_)) | (with_reducible refine br_b (fun hbr => ?_) (fun hbr => ?_)) | simp (disch := first | omega | (simp only [List.length_take, List.length_drop, List.length_append, List.map_cons, List.map_nil, List.length_map, List.length_cons, List.length_nil, List.length_set, List.length_replicate]; omega) | (simp only [List.length_cons, List.length_nil, Nat.zero_add, Nat.reduceAdd])) only [go_sem, ↓reduceIte, Nat.reduceAdd, Int.reduceNeg, Int.reduceAdd, Int.reduceSub, Int.reduceMul, Int.reduceLT, Int.reduceLE, Int.reduceEq, Int.reduceToNat, Nat.reduceBEq, e_sle, e_sge, e_shl1, e_orI, e_andI, e_shr, wrapu, wrap8, tn1, nat1, ix_s, ix_z, st_s, st_z, fl_s, fl_z, fl1_s, fl1_z, map_s, map_z, true_and])
    all_goals first | omega | rfl
set_option maxHeartbeats 4000000 in
theorem specMenOf_m (t : List Nod) (hw : wtNods t ≤ 1048576) : Meets Try.prog 7 [(false, [encNods t])] [(false, [encSs (menOf t)], true)] := by
  have hB := wtNods_ok hw
  have h1 := specTree_m t hB.1 hB.2
  have b1 : ∀ {a b : Bool}, a = b → [DV.sc (.bool a)] = [.sc (.bool b)] := fun h => by rw [h]
  cases c1 : treeB t
  · have hr : menOf t = [] := by unfold menOf; rw [c1]; rfl
    rw [hr]
    rw [c1] at h1
    refine meets_upf Try.func7 u_spec_MentionsOf_g rfl ?_; simp only [u_spec_MentionsOf_u]
    simp only [encNods, encSs] at h1 ⊢
    simp (disch := first | omega | (simp only [List.length_take, List.length_drop, List.length_append, List.map_cons, List.map_nil, List.length_map, List.length_cons, List.length_nil, List.length_set, List.length_replicate]; omega) | (simp only [List.length_cons, List.length_nil, Nat.zero_add, Nat.reduceAdd])) only [go_sem, ↓reduceIte, Nat.reduceAdd, Int.reduceNeg, Int.reduceAdd, Int.reduceSub, Int.reduceMul, Int.reduceLT, Int.reduceLE, Int.reduceEq, Int.reduceToNat, Nat.reduceBEq, e_sle, e_sge, e_shl1, e_orI, e_andI, e_shr, wrapu, wrap8, tn1, nat1, ix_s, ix_z, st_s, st_z, fl_s, fl_z, fl1_s, fl1_z, map_s, map_z, true_and]
    refine lp_n 0 (fun i => [.sc (.int .i64 i), .sl 9 1 []]) rfl fun i hi => ?_
    obtain rfl : i = 0 := by omega
    simp only [u_spec_MentionsOf_l3]
    repeat' (first | (with_reducible refine jn_in ?_) | (with_reducible refine cl_ok (by assumption) rfl ?_) | (with_reducible refine cl_okP (by assumption) rfl ?_) | (with_reducible refine br_if (fun hbr => ?_) (fun hbr => ?_)) | (with_reducible refine br_ifn (fun hbr => ?_) (fun hbr => ?_)) | (with_reducible refine br_nb (fun hbr => ?_) (fun hbr => ?_)) | (with_reducible refine br_b (fun hbr => ?_) (fun hbr => ?_)) | simp (disch := first | omega | (simp only [List.length_take, List.length_drop, List.length_append, List.map_cons, List.map_nil, List.length_map, List.length_cons, List.length_nil, List.length_set, List.length_replicate]; omega) | (simp only [List.length_cons, List.length_nil, Nat.zero_add, Nat.reduceAdd])) only [go_sem, ↓reduceIte, Nat.reduceAdd, Int.reduceNeg, Int.reduceAdd, Int.reduceSub, Int.reduceMul, Int.reduceLT, Int.reduceLE, Int.reduceEq, Int.reduceToNat, Nat.reduceBEq, e_sle, e_sge, e_shl1, e_orI, e_andI, e_shr, wrapu, wrap8, tn1, nat1, ix_s, ix_z, st_s, st_z, fl_s, fl_z, fl1_s, fl1_z, map_s, map_z, true_and])
    rfl
  have hr : menOf t = menT t t.length := by unfold menOf; rw [c1]; rfl
  rw [hr]
  rw [c1] at h1
  have hT := tree_len c1
  refine meets_upf Try.func7 u_spec_MentionsOf_g rfl ?_; simp only [u_spec_MentionsOf_u]
  simp only [encNods, encSs] at h1 ⊢
  simp (disch := first | omega | (simp only [List.length_take, List.length_drop, List.length_append, List.map_cons, List.map_nil, List.length_map, List.length_cons, List.length_nil, List.length_set, List.length_replicate]; omega) | (simp only [List.length_cons, List.length_nil, Nat.zero_add, Nat.reduceAdd])) only [go_sem, ↓reduceIte, Nat.reduceAdd, Int.reduceNeg, Int.reduceAdd, Int.reduceSub, Int.reduceMul, Int.reduceLT, Int.reduceLE, Int.reduceEq, Int.reduceToNat, Nat.reduceBEq, e_sle, e_sge, e_shl1, e_orI, e_andI, e_shr, wrapu, wrap8, tn1, nat1, ix_s, ix_z, st_s, st_z, fl_s, fl_z, fl1_s, fl1_z, map_s, map_z, true_and]
  refine lp_n t.length (fun i => [.sc (.int .i64 i), .sl 9 1 ((menT t i).map encS)]) rfl fun i hi => ?_
  simp only [u_spec_MentionsOf_l3]
  simp (disch := first | omega | (simp only [List.length_take, List.length_drop, List.length_append, List.map_cons, List.map_nil, List.length_map, List.length_cons, List.length_nil, List.length_set, List.length_replicate]; omega) | (simp only [List.length_cons, List.length_nil, Nat.zero_add, Nat.reduceAdd])) only [go_sem, ↓reduceIte, Nat.reduceAdd, Int.reduceNeg, Int.reduceAdd, Int.reduceSub, Int.reduceMul, Int.reduceLT, Int.reduceLE, Int.reduceEq, Int.reduceToNat, Nat.reduceBEq, e_sle, e_sge, e_shl1, e_orI, e_andI, e_shr, wrapu, wrap8, tn1, nat1, ix_s, ix_z, st_s, st_z, fl_s, fl_z, fl1_s, fl1_z, map_s, map_z, true_and]
  refine cl_ok h1 rfl ?_
  by_cases hlt : i < t.length
  · have hs := menT_succ hlt
    have hl := menT_len hw i
    have hl2 := menT_len hw (i + 1)
    have hws := sumOf_mem wtNod (getD_mem hlt)
    have hws2 : wtNods t = t.length + sumOf wtNod t := rfl
    have hix : eIdx 5 (some (.sl 41 5 (t.map encNod))) (some (.sc (.int .i64 (i : Int)))) = some (encNod (t.getD i default)) := by rw [ix_Nod (by omega) (by omega), Int.toNat_natCast]
    have hxb := hB.2 _ (getD_mem hlt)
    have hnb := tree_nB c1 hlt
    generalize t.getD i default = x at *
    generalize menT t i = l at *
    rw [hs] at hl2 ⊢
    obtain ⟨k, n, s, L, c⟩ := x
    simp only [encNod, encSs] at hix hxb
    simp (disch := first | omega | (simp only [List.length_take, List.length_drop, List.length_append, List.map_cons, List.map_nil, List.length_map, List.length_cons, List.length_nil, List.length_set, List.length_replicate]; omega) | (simp only [List.length_cons, List.length_nil, Nat.zero_add, Nat.reduceAdd])) only [go_sem, ↓reduceIte, Nat.reduceAdd, Int.reduceNeg, Int.reduceAdd, Int.reduceSub, Int.reduceMul, Int.reduceLT, Int.reduceLE, Int.reduceEq, Int.reduceToNat, Nat.reduceBEq, e_sle, e_sge, e_shl1, e_orI, e_andI, e_shr, wrapu, wrap8, tn1, nat1, ix_s, ix_z, st_s, st_z, fl_s, fl_z, fl1_s, fl1_z, map_s, map_z, true_and]
    refine br_if (fun hbr => ?_) (fun hbr => absurd hbr (by omega))
    simp (disch := first | omega | (simp only [List.length_take, List.length_drop, List.length_append, List.map_cons, List.map_nil, List.length_map, List.length_cons, List.length_nil, List.length_set, List.length_replicate]; omega) | (simp only [List.length_cons, List.length_nil, Nat.zero_add, Nat.reduceAdd])) only [go_sem, ↓reduceIte, Nat.reduceAdd, Int.reduceNeg, Int.reduceAdd, Int.reduceSub, Int.reduceMul, Int.reduceLT, Int.reduceLE, Int.reduceEq, Int.reduceToNat, Nat.reduceBEq, e_sle, e_sge, e_shl1, e_orI, e_andI, e_shr, wrapu, wrap8, tn1, nat1, ix_s, ix_z, st_s, st_z, fl_s, fl_z, fl1_s, fl1_z, map_s, map_z, true_and]
    refine jn (fun vs => ∃ p1 p2, vs = [p1, p2, .sl 9 1 ((menN l ⟨k, n, s, L, c⟩).map encS)]) ?_ ?_
    rotate_left
    · rintro vs - ⟨p1, p2, rfl⟩
      simp only [u_spec_MentionsOf_j2]
      repeat' (first | (with_reducible refine jn_in ?_) | (with_reducible refine cl_ok (by assumption) rfl ?_) | (with_reducible refine cl_okP (by assumption) rfl ?_) | (with_reducible refine br_if (fun hbr => ?_) (fun hbr => ?_)) | (with_reducible refine br_ifn (fun hbr => ?_) (fun hbr => ?_)) | (with_reducible refine br_nb (fun hbr => ?_) (fun hbr => ?_)) | (with_reducible refine br_b (fun hbr => ?_) (fun hbr => ?_)) | simp (disch := first | omega | (simp only [List.length_take, List.length_drop, List.length_append, List.map_cons, List.map_nil, List.length_map, List.length_cons, List.length_nil, List.length_set, List.length_replicate]; omega) | (simp only [List.length_cons, List.length_nil, Nat.zero_add, Nat.reduceAdd])) only [go_sem, ↓reduceIte, Nat.reduceAdd, Int.reduceNeg, Int.reduceAdd, Int.reduceSub, Int.reduceMul, Int.reduceLT, Int.reduceLE, Int.reduceEq, Int.reduceToNat, Nat.reduceBEq, e_sle, e_sge, e_shl1, e_orI, e_andI, e_shr, wrapu, wrap8, tn1, nat1, ix_s, ix_z, st_s, st_z, fl_s, fl_z, fl1_s, fl1_z, map_s, map_z, true_and])
      exact hlt
    simp (disch := first | omega | (simp only [List.length_take, List.length_drop, List.length_append, List.map_cons, List.map_nil, List.length_map, List.length_cons, List.length_nil, List.length_set, List.length_replicate]; omega) | (simp only [List.length_cons, List.length_nil, Nat.zero_add, Nat.reduceAdd])) only [go_sem, ↓reduceIte, Nat.reduceAdd, Int.reduceNeg, Int.reduceAdd, Int.reduceSub, Int.reduceMul, Int.reduceLT, Int.reduceLE, Int.reduceEq, Int.reduceToNat, Nat.reduceBEq, e_sle, e_sge, e_shl1, e_orI, e_andI, e_shr, wrapu, wrap8, tn1, nat1, ix_s, ix_z, st_s, st_z, fl_s, fl_z, fl1_s, fl1_z, map_s, map_z, hix]
    refine jn_eq [.sc (.bool (decide (k ∈ menK)))] ?_ ?_
    · repeat' (first | (with_reducible refine jn_in ?_) | (with_reducible refine cl_ok (by assumption) rfl ?_) | (with_reducible refine cl_okP (by assumption) rfl ?_) | (with_reducible refine br_if (fun hbr => ?_) (fun hbr => ?_)) | (with_reducible refine br_ifn (fun hbr => ?_) (fun hbr => ?_)) | (with_reducible refine br_nb (fun hbr => ?_) (fun hbr => ?_)) | (with_reducible refine br_b (fun hbr => ?_) (fun hbr => ?_)) | simp (disch := first | omega | (simp only [List.length_take, List.length_drop, List.length_append, List.map_cons, List.map_nil, List.length_map, List.length_cons, List.length_nil, List.length_set, List.length_replicate]; omega) | (simp only [List.length_cons, List.length_nil, Nat.zero_add, Nat.reduceAdd])) only [go_sem, ↓reduceIte, Nat.reduceAdd, Int.reduceNeg, Int.reduceAdd, Int.reduceSub, Int.reduceMul, Int.reduceLT, Int.reduceLE, Int.reduceEq, Int.reduceToNat, Nat.reduceBEq, e_sle, e_sge, e_shl1, e_orI, e_andI, e_shr, wrapu, wrap8, tn1, nat1, ix_s, ix_z, st_s, st_z, fl_s, fl_z, fl1_s, fl1_z, map_s, map_z, true_and])
      all_goals first
        | (subst_vars; exact b1 (by decide))
        | exact b1 (by simp [menK, *])
        | skip
    simp only [u_spec_MentionsOf_j1]
    have hwx : s.size + wtSs L ≤ 1048576 := by
      have h : wtNod ⟨k, n, s, L, c⟩ = s.size + wtSs L := rfl
      omega
    refine br_b (fun hk => ?_) (fun hk => ?_)
    · have hk := of_decide_eq_true hk
      have hP := specMen_m l s (by omega) ((nameB_size (nB_name (x := ⟨k, n, s, L, c⟩) hnb (by
        simp only [menK, List.mem_cons, List.not_mem_nil, or_false] at hk
        rcases hk with rfl | rfl | rfl | rfl | rfl | rfl | rfl | rfl <;> rfl))).1)
      simp only [encSs] at hP
      repeat' (first | (with_reducible refine jn_in ?_) | (with_reducible refine cl_ok (by assumption) rfl ?_) | (with_reducible refine cl_okP (by assumption) rfl ?_) | (with_reducible refine br_if (fun hbr => ?_) (fun hbr => ?_)) | (with_reducible refine br_ifn (fun hbr => ?_) (fun hbr => ?_)) | (with_reducible refine br_nb (fun hbr => ?_) (fun hbr => ?_)) | (with_reducible refine br_b (fun hbr => ?_) (fun hbr => ?_)) | simp (disch := first | omega | (simp only [List.length_take, List.length_drop, List.length_append, List.map_cons, List.map_nil, List.length_map, List.length_cons, List.length_nil, List.length_set, List.length_replicate]; omega) | (simp only [List.length_cons, List.length_nil, Nat.zero_add, Nat.reduceAdd])) only [go_sem, ↓reduceIte, Nat.reduceAdd, Int.reduceNeg, Int.reduceAdd, Int.reduceSub, Int.reduceMul, Int.reduceLT, Int.reduceLE, Int.reduceEq, Int.reduceToNat, Nat.reduceBEq, e_sle, e_sge, e_shl1, e_orI, e_andI, e_shr, wrapu, wrap8, tn1, nat1, ix_s, ix_z, st_s, st_z, fl_s, fl_z, fl1_s, fl1_z, map_s, map_z, true_and])
      exact ⟨_, _, by unfold menN; rw [if_pos hk]⟩
    · have hk := of_decide_eq_false hk
      simp (disch := first | omega | (simp only [List.length_take, List.length_drop, List.length_append, List.map_cons, List.map_nil, List.length_map, List.length_cons, List.length_nil, List.length_set, List.length_replicate]; omega) | (simp only [List.length_cons, List.length_nil, Nat.zero_add, Nat.reduceAdd])) only [go_sem, ↓reduceIte, Nat.reduceAdd, Int.reduceNeg, Int.reduceAdd, Int.reduceSub, Int.reduceMul, Int.reduceLT, Int.reduceLE, Int.reduceEq, Int.reduceToNat, Nat.reduceBEq, e_sle, e_sge, e_shl1, e_orI, e_andI, e_shr, wrapu, wrap8, tn1, nat1, ix_s, ix_z, st_s, st_z, fl_s, fl_z, fl1_s, fl1_z, map_s, map_z, true_and]
      refine br_if (fun k34 => ?_) (fun k34 => ?_)
      · have he := menN_34 (l := l) (x := ⟨k, n, s, L, c⟩) k34
        have hml := menB_len l s
        have hns := nameB_size (nB_name (x := ⟨k, n, s, L, c⟩) hnb (by simp only [k34]; rfl))
        simp only at hns he
        have hP := specMen_m l s (by omega) (hns.1)
        have hQ := specPut_m (menB l s) (s ++ dotS) (by omega) (size_ne (by rw [ByteArray.size_append]; omega))
        simp only [encSs, dotS] at hP hQ
        rw [he]
        repeat' (first | (with_reducible refine jn_in ?_) | (with_reducible refine cl_ok (by assumption) rfl ?_) | (with_reducible refine cl_okP (by assumption) rfl ?_) | (with_reducible refine br_if (fun hbr => ?_) (fun hbr => ?_)) | (with_reducible refine br_ifn (fun hbr => ?_) (fun hbr => ?_)) | (with_reducible refine br_nb (fun hbr => ?_) (fun hbr => ?_)) | (with_reducible refine br_b (fun hbr => ?_) (fun hbr => ?_)) | simp (disch := first | omega | (simp only [List.length_take, List.length_drop, List.length_append, List.map_cons, List.map_nil, List.length_map, List.length_cons, List.length_nil, List.length_set, List.length_replicate]; omega) | (simp only [List.length_cons, List.length_nil, Nat.zero_add, Nat.reduceAdd])) only [go_sem, ↓reduceIte, Nat.reduceAdd, Int.reduceNeg, Int.reduceAdd, Int.reduceSub, Int.reduceMul, Int.reduceLT, Int.reduceLE, Int.reduceEq, Int.reduceToNat, Nat.reduceBEq, e_sle, e_sge, e_shl1, e_orI, e_andI, e_shr, wrapu, wrap8, tn1, nat1, ix_s, ix_z, st_s, st_z, fl_s, fl_z, fl1_s, fl1_z, map_s, map_z, e_cat (catDot (s := s) (by omega))])
        all_goals first | omega | exact ⟨_, _, rfl⟩
      simp (disch := first | omega | (simp only [List.length_take, List.length_drop, List.length_append, List.map_cons, List.map_nil, List.length_map, List.length_cons, List.length_nil, List.length_set, List.length_replicate]; omega) | (simp only [List.length_cons, List.length_nil, Nat.zero_add, Nat.reduceAdd])) only [go_sem, ↓reduceIte, Nat.reduceAdd, Int.reduceNeg, Int.reduceAdd, Int.reduceSub, Int.reduceMul, Int.reduceLT, Int.reduceLE, Int.reduceEq, Int.reduceToNat, Nat.reduceBEq, e_sle, e_sge, e_shl1, e_orI, e_andI, e_shr, wrapu, wrap8, tn1, nat1, ix_s, ix_z, st_s, st_z, fl_s, fl_z, fl1_s, fl1_z, map_s, map_z, true_and]
      refine br_if (fun k27 => ?_) (fun k27 => ?_)
      · have he := menN_27 (l := l) (x := ⟨k, n, s, L, c⟩) k27
        have hml := menB_len l s
        have hns := nameB_size (nB_name (x := ⟨k, n, s, L, c⟩) hnb (by simp only [k27]; rfl))
        obtain ⟨hL1, hL2⟩ := nB_lab0 (x := ⟨k, n, s, L, c⟩) hnb k27
        have hLs := nameB_size hL2
        simp only at hns he hL1 hL2 hLs
        have hP := specMen_m l s (by omega) (hns.1)
        have hQ := specMen_m (menB l s) (L.getD 0 default ++ arrS) (by rw [ByteArray.size_append]; have e2 : arrS.size = 2 := rfl; omega) (by rw [ByteArray.size_append]; omega)
        simp only [encSs, arrS] at hP hQ
        rw [he]
        repeat' (first | (with_reducible refine jn_in ?_) | (with_reducible refine cl_ok (by assumption) rfl ?_) | (with_reducible refine cl_okP (by assumption) rfl ?_) | (with_reducible refine br_if (fun hbr => ?_) (fun hbr => ?_)) | (with_reducible refine br_ifn (fun hbr => ?_) (fun hbr => ?_)) | (with_reducible refine br_nb (fun hbr => ?_) (fun hbr => ?_)) | (with_reducible refine br_b (fun hbr => ?_) (fun hbr => ?_)) | simp (disch := first | omega | (simp only [List.length_take, List.length_drop, List.length_append, List.map_cons, List.map_nil, List.length_map, List.length_cons, List.length_nil, List.length_set, List.length_replicate]; omega) | (simp only [List.length_cons, List.length_nil, Nat.zero_add, Nat.reduceAdd])) only [go_sem, ↓reduceIte, Nat.reduceAdd, Int.reduceNeg, Int.reduceAdd, Int.reduceSub, Int.reduceMul, Int.reduceLT, Int.reduceLE, Int.reduceEq, Int.reduceToNat, Nat.reduceBEq, e_sle, e_sge, e_shl1, e_orI, e_andI, e_shr, wrapu, wrap8, tn1, nat1, ix_s, ix_z, st_s, st_z, fl_s, fl_z, fl1_s, fl1_z, map_s, map_z, e_cat (catArr (s := L.getD 0 default) (by omega)), hL1])
        all_goals first | omega | exact ⟨_, _, rfl⟩
      simp (disch := first | omega | (simp only [List.length_take, List.length_drop, List.length_append, List.map_cons, List.map_nil, List.length_map, List.length_cons, List.length_nil, List.length_set, List.length_replicate]; omega) | (simp only [List.length_cons, List.length_nil, Nat.zero_add, Nat.reduceAdd])) only [go_sem, ↓reduceIte, Nat.reduceAdd, Int.reduceNeg, Int.reduceAdd, Int.reduceSub, Int.reduceMul, Int.reduceLT, Int.reduceLE, Int.reduceEq, Int.reduceToNat, Nat.reduceBEq, e_sle, e_sge, e_shl1, e_orI, e_andI, e_shr, wrapu, wrap8, tn1, nat1, ix_s, ix_z, st_s, st_z, fl_s, fl_z, fl1_s, fl1_z, map_s, map_z, true_and]
      refine br_if (fun k8 => ?_) (fun k8 => ?_)
      · have he := lmT_end (l := l) (x := ⟨k, n, s, L, c⟩) k8
        simp (disch := first | omega | (simp only [List.length_take, List.length_drop, List.length_append, List.map_cons, List.map_nil, List.length_map, List.length_cons, List.length_nil, List.length_set, List.length_replicate]; omega) | (simp only [List.length_cons, List.length_nil, Nat.zero_add, Nat.reduceAdd])) only [go_sem, ↓reduceIte, Nat.reduceAdd, Int.reduceNeg, Int.reduceAdd, Int.reduceSub, Int.reduceMul, Int.reduceLT, Int.reduceLE, Int.reduceEq, Int.reduceToNat, Nat.reduceBEq, e_sle, e_sge, e_shl1, e_orI, e_andI, e_shr, wrapu, wrap8, tn1, nat1, ix_s, ix_z, st_s, st_z, fl_s, fl_z, fl1_s, fl1_z, map_s, map_z, true_and]
        refine lp_n L.length (fun j => [.sc (.int .i64 j), .sl 9 1 ((lmT l ⟨k, n, s, L, c⟩ j).map encS)]) rfl fun j hj => ?_
        simp only [u_spec_MentionsOf_l0]
        by_cases hlj : j < L.length
        · have hln := nameB_size (nB_labs (x := ⟨k, n, s, L, c⟩) hnb k8 hlj)
          simp only at hln
          have hP := specMen_m (lmT l ⟨k, n, s, L, c⟩ j) (L.getD j default) (by have := lmT_len l ⟨k, n, s, L, c⟩ j; simp only at this; omega) (hln.1)
          have hls := lmT_succ (l := l) (x := ⟨k, n, s, L, c⟩) hlj
          rw [hls]
          simp only [encSs] at hP
          have e1 : ((j : Nat) : Int).toNat = j := rfl
          repeat' (first | (with_reducible refine jn_in ?_) | (with_reducible refine cl_ok (by assumption) rfl ?_) | (with_reducible refine cl_okP (by assumption) rfl ?_) | (with_reducible refine br_if (fun hbr => ?_) (fun hbr => ?_)) | (with_reducible refine br_ifn (fun hbr => ?_) (fun hbr => ?_)) | (with_reducible refine br_nb (fun hbr => ?_) (fun hbr => ?_)) | (with_reducible refine br_b (fun hbr => ?_) (fun hbr => ?_)) | simp (disch := first | omega | (simp only [List.length_take, List.length_drop, List.length_append, List.map_cons, List.map_nil, List.length_map, List.length_cons, List.length_nil, List.length_set, List.length_replicate]; omega) | (simp only [List.length_cons, List.length_nil, Nat.zero_add, Nat.reduceAdd])) only [go_sem, ↓reduceIte, Nat.reduceAdd, Int.reduceNeg, Int.reduceAdd, Int.reduceSub, Int.reduceMul, Int.reduceLT, Int.reduceLE, Int.reduceEq, Int.reduceToNat, Nat.reduceBEq, e_sle, e_sge, e_shl1, e_orI, e_andI, e_shr, wrapu, wrap8, tn1, nat1, ix_s, ix_z, st_s, st_z, fl_s, fl_z, fl1_s, fl1_z, map_s, map_z, e1])
          all_goals first | omega | exact ⟨rfl, hlj⟩
        · obtain rfl : j = L.length := by omega
          have he : lmT l ⟨k, n, s, L, c⟩ L.length = menN l ⟨k, n, s, L, c⟩ := he
          repeat' (first | (with_reducible refine jn_in ?_) | (with_reducible refine cl_ok (by assumption) rfl ?_) | (with_reducible refine cl_okP (by assumption) rfl ?_) | (with_reducible refine br_if (fun hbr => ?_) (fun hbr => ?_)) | (with_reducible refine br_ifn (fun hbr => ?_) (fun hbr => ?_)) | (with_reducible refine br_nb (fun hbr => ?_) (fun hbr => ?_)) | (with_reducible refine br_b (fun hbr => ?_) (fun hbr => ?_)) | simp (disch := first | omega | (simp only [List.length_take, List.length_drop, List.length_append, List.map_cons, List.map_nil, List.length_map, List.length_cons, List.length_nil, List.length_set, List.length_replicate]; omega) | (simp only [List.length_cons, List.length_nil, Nat.zero_add, Nat.reduceAdd])) only [go_sem, ↓reduceIte, Nat.reduceAdd, Int.reduceNeg, Int.reduceAdd, Int.reduceSub, Int.reduceMul, Int.reduceLT, Int.reduceLE, Int.reduceEq, Int.reduceToNat, Nat.reduceBEq, e_sle, e_sge, e_shl1, e_orI, e_andI, e_shr, wrapu, wrap8, tn1, nat1, ix_s, ix_z, st_s, st_z, fl_s, fl_z, fl1_s, fl1_z, map_s, map_z, true_and])
          all_goals first | omega | exact ⟨_, _, by rw [he]⟩
      · repeat' (first | (with_reducible refine jn_in ?_) | (with_reducible refine cl_ok (by assumption) rfl ?_) | (with_reducible refine cl_okP (by assumption) rfl ?_) | (with_reducible refine br_if (fun hbr => ?_) (fun hbr => ?_)) | (with_reducible refine br_ifn (fun hbr => ?_) (fun hbr => ?_)) | (with_reducible refine br_nb (fun hbr => ?_) (fun hbr => ?_)) | (with_reducible refine br_b (fun hbr => ?_) (fun hbr => ?_)) | simp (disch := first | omega | (simp only [List.length_take, List.length_drop, List.length_append, List.map_cons, List.map_nil, List.length_map, List.length_cons, List.length_nil, List.length_set, List.length_replicate]; omega) | (simp only [List.length_cons, List.length_nil, Nat.zero_add, Nat.reduceAdd])) only [go_sem, ↓reduceIte, Nat.reduceAdd, Int.reduceNeg, Int.reduceAdd, Int.reduceSub, Int.reduceMul, Int.reduceLT, Int.reduceLE, Int.reduceEq, Int.reduceToNat, Nat.reduceBEq, e_sle, e_sge, e_shl1, e_orI, e_andI, e_shr, wrapu, wrap8, tn1, nat1, ix_s, ix_z, st_s, st_z, fl_s, fl_z, fl1_s, fl1_z, map_s, map_z, true_and])
        exact ⟨_, _, by unfold menN; rw [if_neg hk, if_neg k34, if_neg k27, if_neg k8]⟩
  · obtain rfl : i = t.length := by omega
    repeat' (first | (with_reducible refine jn_in ?_) | (with_reducible refine cl_ok (by assumption) rfl ?_) | (with_reducible refine cl_okP (by assumption) rfl ?_) | (with_reducible refine br_if (fun hbr => ?_) (fun hbr => ?_)) | (with_reducible refine br_ifn (fun hbr => ?_) (fun hbr => ?_)) | (with_reducible refine br_nb (fun hbr => ?_) (fun hbr => ?_)) | (with_reducible refine br_b (fun hbr => ?_) (fun hbr => ?_)) | simp (disch := first | omega | (simp only [List.length_take, List.length_drop, List.length_append, List.map_cons, List.map_nil, List.length_map, List.length_cons, List.length_nil, List.length_set, List.length_replicate]; omega) | (simp only [List.length_cons, List.length_nil, Nat.zero_add, Nat.reduceAdd])) only [go_sem, ↓reduceIte, Nat.reduceAdd, Int.reduceNeg, Int.reduceAdd, Int.reduceSub, Int.reduceMul, Int.reduceLT, Int.reduceLE, Int.reduceEq, Int.reduceToNat, Nat.reduceBEq, e_sle, e_sge, e_shl1, e_orI, e_andI, e_shr, wrapu, wrap8, tn1, nat1, ix_s, ix_z, st_s, st_z, fl_s, fl_z, fl1_s, fl1_z, map_s, map_z, true_and])
    all_goals first | omega | rfl
end Go.Proofs.Ytfdpkdfmkedkmaa

namespace Go.Proofs.Ytfdpkdfmkedkmaa
open Go.RowKit
set_option maxRecDepth 100000
def u_laws_heldStringS_h : List Hint := [⟨3000002, 2, ⟨[(5, .p false [.d 4]), (4, .p false [.d 2]), (0, .p false [.d 0]), (1, .p false [.d 5])], [], 0, 0, 6, []⟩, []⟩]
def u_laws_heldStringS_d : List (Nat × Nat × Bool × List Nat) := [(4, 7, false, [])]
def u_laws_heldStringS_l0 : UP := .po (.lenL 5) <| .po (.bin .lss false 2 0) <| .ite 0 (.po (.isI 3) <| .po (.idx 1 7 3) <| .po (.sc 0) <| .sel [0, 3, 4] <| .cl 29 [(false, [1])] [(false, [none], true)] <| .po (.bin .neq false 1 0) <| .po (.sc 0) <| .ite 0 (.po (.k (.int .i64 (-1))) <| .po (.sc 0) <| .ret [(false, [0])]) <| .po (.k (.int .i64 1)) <| .po (.bin .add false 4 0) <| .po (.k (.int .i64 1)) <| .po (.bin .add false 7 0) <| .jump 0 [0, 2]) <| .po (.sc 2) <| .ret [(false, [2])]
def u_laws_heldStringS_u : UP := .po (.k (.int .i64 0)) <| .po (.k (.int .i64 0)) <| .loop [0, 2] u_laws_heldStringS_l0
theorem u_laws_heldStringS_g : toUPf Try.prog 14 Try.f14 owA u_laws_heldStringS_h u_laws_heldStringS_d = some ([(false, 1), (false, 1)], u_laws_heldStringS_u) := by kernel_rfl
end Go.Proofs.Ytfdpkdfmkedkmaa

namespace Go.Proofs.Ytfdpkdfmkedkmaa
open Go.RowKit
set_option maxRecDepth 100000
def u_laws_markText_h : List Hint := [⟨3000004, 2, ⟨[(3, .p false [.d 5]), (5, .p false [.d 3]), (2, .p false [.d 1]), (0, .p false [.d 6])], [], 0, 0, 7, [(3, false)]⟩, []⟩]
def u_laws_markText_d : List (Nat × Nat × Bool × List Nat) := []
def u_laws_markText_l0 : UP := .po (.k (.int .i64 0)) <| .po (.bin .gtr false 1 0) <| .ite 0 (.po (.k (.int .i64 10)) <| .po (.bin .rem false 3 0) <| .po (.k (.int .i64 48)) <| .po (.bin .add false 0 1) <| .po (.cvI .u8 0) <| .po (.sc 0) <| .po (.mk 5 1 [[0]]) <| .po (.cvB 0) <| .po (.bin .add false 0 10) <| .po (.k (.int .i64 10)) <| .po (.bin .quo false 11 0) <| .jump 0 [2, 0]) <| .po (.k (.string ⟨#[109]⟩)) <| .po (.bin .add false 0 4) <| .po (.sc 0) <| .ret [(false, [0])]
def u_laws_markText_u : UP := .po (.k (.string ⟨#[]⟩)) <| .po (.k (.int .i64 0)) <| .po (.bin .leq false 2 0) <| .ite 0 (.po (.k (.string ⟨#[109, 48]⟩)) <| .po (.sc 0) <| .ret [(false, [0])]) <| .po (.k (.string ⟨#[]⟩)) <| .loop [0, 4] u_laws_markText_l0
theorem u_laws_markText_g : toUPf Try.prog 29 Try.f29 owA u_laws_markText_h u_laws_markText_d = some ([(false, 1)], u_laws_markText_u) := by kernel_rfl
end Go.Proofs.Ytfdpkdfmkedkmaa

namespace Go.Proofs.Ytfdpkdfmkedkmaa
open Go.RowKit
set_option maxRecDepth 100000
def encU (n : Nat) : List DV := [.sc (.int .u8 (n : Int))]
def ofN (l : List Nat) : ByteArray := strOfNums (l.map fun n : Nat => (n : Int))
theorem ofN_data (l : List Nat) : (ofN l).data.toList = l.map UInt8.ofNat := by
  unfold ofN; rw [strOfNums_data, List.map_map]; rfl
theorem ofN_app (l m : List Nat) : ofN (l ++ m) = ofN l ++ ofN m := by
  apply ByteArray.ext
  apply Array.ext'
  rw [ByteArray.data_append, Array.toList_append, ofN_data, ofN_data, ofN_data, List.map_append]
theorem ofN_size (l : List Nat) : (ofN l).size = l.length := by
  unfold ofN; rw [strOfNums_size, List.length_map]
theorem nums_encU (l : List Nat) : numsOf (l.map encU) = some (l.map fun n : Nat => (n : Int)) := by
  induction l with
  | nil => rfl
  | cons n l ih => simp only [List.map_cons, encU, numsOf]; rw [ih]
theorem cvB_u {t : Nat} {l : List Nat} : eCvB (some (.sl t 1 (l.map encU))) = some [.sc (.string (ofN l))] := e_cvB (nums_encU l)
def dgs (m : Nat) : List Nat := if h : m = 0 then [] else dgs (m / 10) ++ [48 + m % 10]
termination_by m
decreasing_by omega
theorem dgs_zero : dgs 0 = [] := by rw [dgs]; simp
theorem dgs_pos {m : Nat} (h : m ≠ 0) : dgs m = dgs (m / 10) ++ [48 + m % 10] := by rw [dgs, dif_neg h]
theorem dgs_len (k : Nat) : ∀ m, m < 10 ^ k → (dgs m).length ≤ k := by
  induction k with
  | zero => intro m h; have : m = 0 := by simpa using h
            subst this; rw [dgs_zero]; exact Nat.zero_le _
  | succ k ih =>
    intro m h
    by_cases h0 : m = 0
    · subst h0; rw [dgs_zero]; exact Nat.zero_le _
    · rw [dgs_pos h0, List.length_append, List.length_singleton]
      have := ih (m / 10) (by rw [Nat.pow_succ] at h; omega)
      omega
theorem dgs_len19 {m : Nat} (h : m ≤ 9223372036854775808) : (dgs m).length ≤ 19 := dgs_len 19 m (Nat.lt_of_le_of_lt h (by decide))
end Go.Proofs.Ytfdpkdfmkedkmaa

