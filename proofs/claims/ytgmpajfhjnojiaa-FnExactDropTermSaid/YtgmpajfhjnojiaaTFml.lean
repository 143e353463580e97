/- The type Formula: data, encodings, reading; the laws' sizes, conversions, comparisons. Written by tygen.py. -/
import Derived.Test.YtgmpajfhjnojiaaUTFml
import Derived.Test.YtgmpajfhjnojiaaTypB
namespace Go.Proofs.Ytgmpajfhjnojiaa
open Go.RowKit Go.ChangeShapes Go.WideShapes Go.Deep
set_option linter.unusedVariables false
set_option linter.unusedSimpArgs false
set_option maxRecDepth 100000

structure Fml where
  response : ByteArray
  intercept : Bool
  variables : List ByteArray
  terms : List Int
  deriving DecidableEq
instance : Inhabited Fml := ⟨⟨default, default, default, default⟩⟩
def encFml (x : Fml) : List DV := [.sc (.string x.response), .sc (.bool x.intercept), encSs x.variables, encZs x.terms]
def encFmls (l : List Fml) : DV := .sl 27 4 (l.map encFml)
def encFmlsL (l : List Fml) : DV := .sl 25 4 (l.map encFml)
def wtFml (x : Fml) : Nat := x.response.size + wtSs x.variables + x.terms.length
def OkFml (x : Fml) : Prop := x.response.size ≤ 9223372036854775807 ∧ True ∧ OkSs x.variables ∧ OkZs x.terms
def wtFmls (l : List Fml) : Nat := l.length + sumOf wtFml l
def OkFmls (l : List Fml) : Prop := l.length ≤ 9223372036854775807 ∧ ∀ x ∈ l, OkFml x
theorem encFml_len (x : Fml) : (encFml x).length = 4 := rfl
theorem ix_Fml {t : Nat} {l : List Fml} {kd : IntKind} {z : Int} (h : 0 ≤ z) (h1 : z < l.length) : eIdx 4 (some (.sl t 4 (l.map encFml))) (some (.sc (.int kd z))) = some (encFml (l.getD z.toNat default)) := e_idx_map (fun _ => rfl) h h1
theorem opD_Fml : OpD encFml OkFml Try.prog 25 := by
  intro H enc w base spare held fuel cs x h
  obtain ⟨hl, n, hf⟩ := open_flds Try.underlying25 h
  obtain ⟨y0, t0⟩ := hf 0 _ rfl
  obtain ⟨a0, r0, i0⟩ := opD_str Try.underlying9 H enc w base spare held n _ _ t0
  obtain ⟨y1, t1⟩ := hf 1 _ rfl
  obtain ⟨a1, r1, i1⟩ := opD_bool Try.underlying4 H enc w base spare held n _ _ t1
  obtain ⟨y2, t2⟩ := hf 2 _ rfl
  obtain ⟨a2, r2, i2⟩ := opD_Ss H enc w base spare held n _ _ t2
  obtain ⟨y3, t3⟩ := hf 3 _ rfl
  obtain ⟨a3, r3, i3⟩ := opD_Zs H enc w base spare held n _ _ t3
  exact ⟨⟨a0, a1, a2, a3⟩, repl_cut (o := 0) (k := 1) (repl_at r0 rfl (by kernel_rfl)) (repl_cut (o := 1) (k := 1) (repl_at r1 rfl (by kernel_rfl)) (repl_cut (o := 2) (k := 1) (repl_at r2 rfl (by kernel_rfl)) (repl_cut (o := 3) (k := 1) (repl_at r3 rfl (by kernel_rfl)) (repl_end hl (by kernel_rfl))))), i0, i1, i2, i3⟩
theorem szFml_m (x : Fml) (left : Int) (ok : OkFml x) (h0 : 0 ≤ left) (h1 : left ≤ 1048576) : Meets Try.prog 6 [(true, encFml x), (false, [.sc (.int .i64 left)])] [(false, [.sc (.int .i64 (szF left (wtFml x)))], true)] := by
  obtain ⟨x0, x1, x2, x3⟩ := x
  obtain ⟨k0, k1, k2, k3⟩ := ok
  simp only at k0 k1 k2 k3
  refine meets_upf Try.func6 u_laws_szFormula_g rfl ?_; simp only [u_laws_szFormula_u]
  simp only [encFml]
  simp (disch := first | omega | (simp only [List.length_take, List.length_drop, List.length_append, List.map_cons, List.map_nil, List.length_map, List.length_cons, List.length_nil, List.length_set, List.length_replicate]; omega) | (simp only [List.length_cons, List.length_nil, Nat.zero_add, Nat.reduceAdd])) only [go_sem, ↓reduceIte, Nat.reduceAdd, Int.reduceNeg, Int.reduceAdd, Int.reduceSub, Int.reduceMul, Int.reduceLT, Int.reduceLE, Int.reduceEq, Int.reduceToNat, Nat.reduceBEq, e_sle, e_sge, e_shl1, e_orI, e_andI, e_shr, wrapu, wrap8, tn1, nat1, ix_s, ix_z, st_s, st_z, fl_s, fl_z, fl1_s, fl1_z, map_s, map_z, true_and]
  refine br_if (fun hbr => ?_) (fun hbr => ?_)
  · simp (disch := first | omega | (simp only [List.length_take, List.length_drop, List.length_append, List.map_cons, List.map_nil, List.length_map, List.length_cons, List.length_nil, List.length_set, List.length_replicate]; omega) | (simp only [List.length_cons, List.length_nil, Nat.zero_add, Nat.reduceAdd])) only [go_sem, ↓reduceIte, Nat.reduceAdd, Int.reduceNeg, Int.reduceAdd, Int.reduceSub, Int.reduceMul, Int.reduceLT, Int.reduceLE, Int.reduceEq, Int.reduceToNat, Nat.reduceBEq, e_sle, e_sge, e_shl1, e_orI, e_andI, e_shr, wrapu, wrap8, tn1, nat1, ix_s, ix_z, st_s, st_z, fl_s, fl_z, fl1_s, fl1_z, map_s, map_z, true_and]
    exact ret_z (szF_gt (by simp only [wtFml]; omega))
  simp (disch := first | omega | (simp only [List.length_take, List.length_drop, List.length_append, List.map_cons, List.map_nil, List.length_map, List.length_cons, List.length_nil, List.length_set, List.length_replicate]; omega) | (simp only [List.length_cons, List.length_nil, Nat.zero_add, Nat.reduceAdd])) only [go_sem, ↓reduceIte, Nat.reduceAdd, Int.reduceNeg, Int.reduceAdd, Int.reduceSub, Int.reduceMul, Int.reduceLT, Int.reduceLE, Int.reduceEq, Int.reduceToNat, Nat.reduceBEq, e_sle, e_sge, e_shl1, e_orI, e_andI, e_shr, wrapu, wrap8, tn1, nat1, ix_s, ix_z, st_s, st_z, fl_s, fl_z, fl1_s, fl1_z, map_s, map_z, true_and]
  refine cl_ok (szSs_m x2 (left - ((x0.size : Nat) : Int)) k2 (by omega) (by omega)) rfl ?_
  by_cases hwvariables : ((wtSs x2 : Nat) : Int) ≤ left - ((x0.size : Nat) : Int)
  rotate_left
  · have hs := szF_gt (left := left - ((x0.size : Nat) : Int)) (wt := wtSs x2) (by omega)
    simp (disch := first | omega | (simp only [List.length_take, List.length_drop, List.length_append, List.map_cons, List.map_nil, List.length_map, List.length_cons, List.length_nil, List.length_set, List.length_replicate]; omega) | (simp only [List.length_cons, List.length_nil, Nat.zero_add, Nat.reduceAdd])) only [go_sem, ↓reduceIte, Nat.reduceAdd, Int.reduceNeg, Int.reduceAdd, Int.reduceSub, Int.reduceMul, Int.reduceLT, Int.reduceLE, Int.reduceEq, Int.reduceToNat, Nat.reduceBEq, e_sle, e_sge, e_shl1, e_orI, e_andI, e_shr, wrapu, wrap8, tn1, nat1, ix_s, ix_z, st_s, st_z, fl_s, fl_z, fl1_s, fl1_z, map_s, map_z, hs]
    exact ret_z (szF_gt (by simp only [wtFml]; omega))
  have hsvariables := szF_le hwvariables
  have hdvariables : decide (left - ((x0.size : Nat) : Int) - ((wtSs x2 : Nat) : Int) < 0) = false := decide_eq_false (by omega)
  simp (disch := first | omega | (simp only [List.length_take, List.length_drop, List.length_append, List.map_cons, List.map_nil, List.length_map, List.length_cons, List.length_nil, List.length_set, List.length_replicate]; omega) | (simp only [List.length_cons, List.length_nil, Nat.zero_add, Nat.reduceAdd])) only [go_sem, ↓reduceIte, Nat.reduceAdd, Int.reduceNeg, Int.reduceAdd, Int.reduceSub, Int.reduceMul, Int.reduceLT, Int.reduceLE, Int.reduceEq, Int.reduceToNat, Nat.reduceBEq, e_sle, e_sge, e_shl1, e_orI, e_andI, e_shr, wrapu, wrap8, tn1, nat1, ix_s, ix_z, st_s, st_z, fl_s, fl_z, fl1_s, fl1_z, map_s, map_z, hsvariables, hdvariables]
  refine cl_ok (szZs_m x3 (left - ((x0.size : Nat) : Int) - ((wtSs x2 : Nat) : Int)) k3.1 (by omega) (by omega)) rfl ?_
  by_cases hwterms : ((x3.length : Nat) : Int) ≤ left - ((x0.size : Nat) : Int) - ((wtSs x2 : Nat) : Int)
  rotate_left
  · have hs := szF_gt (left := left - ((x0.size : Nat) : Int) - ((wtSs x2 : Nat) : Int)) (wt := x3.length) (by omega)
    simp (disch := first | omega | (simp only [List.length_take, List.length_drop, List.length_append, List.map_cons, List.map_nil, List.length_map, List.length_cons, List.length_nil, List.length_set, List.length_replicate]; omega) | (simp only [List.length_cons, List.length_nil, Nat.zero_add, Nat.reduceAdd])) only [go_sem, ↓reduceIte, Nat.reduceAdd, Int.reduceNeg, Int.reduceAdd, Int.reduceSub, Int.reduceMul, Int.reduceLT, Int.reduceLE, Int.reduceEq, Int.reduceToNat, Nat.reduceBEq, e_sle, e_sge, e_shl1, e_orI, e_andI, e_shr, wrapu, wrap8, tn1, nat1, ix_s, ix_z, st_s, st_z, fl_s, fl_z, fl1_s, fl1_z, map_s, map_z, hs]
    exact ret_z (szF_gt (by simp only [wtFml]; omega))
  have hsterms := szF_le hwterms
  have hdterms : decide (left - ((x0.size : Nat) : Int) - ((wtSs x2 : Nat) : Int) - ((x3.length : Nat) : Int) < 0) = false := decide_eq_false (by omega)
  simp (disch := first | omega | (simp only [List.length_take, List.length_drop, List.length_append, List.map_cons, List.map_nil, List.length_map, List.length_cons, List.length_nil, List.length_set, List.length_replicate]; omega) | (simp only [List.length_cons, List.length_nil, Nat.zero_add, Nat.reduceAdd])) only [go_sem, ↓reduceIte, Nat.reduceAdd, Int.reduceNeg, Int.reduceAdd, Int.reduceSub, Int.reduceMul, Int.reduceLT, Int.reduceLE, Int.reduceEq, Int.reduceToNat, Nat.reduceBEq, e_sle, e_sge, e_shl1, e_orI, e_andI, e_shr, wrapu, wrap8, tn1, nat1, ix_s, ix_z, st_s, st_z, fl_s, fl_z, fl1_s, fl1_z, map_s, map_z, hsterms, hdterms]
  exact ret_z (by rw [szF_le (by simp only [wtFml]; omega)] <;> (simp only [wtFml]; try omega))
theorem toFml_m (x : Fml) (hw : wtFml x ≤ 1048576) : Meets Try.prog 8 [(true, encFml x)] [(true, encFml x, true)] := by
  obtain ⟨x0, x1, x2, x3⟩ := x
  simp only [wtFml] at hw
  have cvariables := toSs_m x2 (wtSs_len (n := 1048576) (by omega))
  have cterms := toZs_m x3 (by omega)
  refine meets_upf Try.func8 u_laws_toFormula_g rfl ?_; simp only [u_laws_toFormula_u]
  simp only [encFml]
  repeat' (first | (with_reducible refine jn_in ?_) | (with_reducible refine cl_ok (by assumption) rfl ?_) | (with_reducible refine cl_okP (by assumption) rfl ?_) | (with_reducible refine br_if (fun hbr => ?_) (fun hbr => ?_)) | (with_reducible refine br_ifn (fun hbr => ?_) (fun hbr => ?_)) | (with_reducible refine br_nb (fun hbr => ?_) (fun hbr => ?_)) | (with_reducible refine br_b (fun hbr => ?_) (fun hbr => ?_)) | simp (disch := first | omega | (simp only [List.length_take, List.length_drop, List.length_append, List.map_cons, List.map_nil, List.length_map, List.length_cons, List.length_nil, List.length_set, List.length_replicate]; omega) | (simp only [List.length_cons, List.length_nil, Nat.zero_add, Nat.reduceAdd])) only [go_sem, ↓reduceIte, Nat.reduceAdd, Int.reduceNeg, Int.reduceAdd, Int.reduceSub, Int.reduceMul, Int.reduceLT, Int.reduceLE, Int.reduceEq, Int.reduceToNat, Nat.reduceBEq, e_sle, e_sge, e_shl1, e_orI, e_andI, e_shr, wrapu, wrap8, tn1, nat1, ix_s, ix_z, st_s, st_z, fl_s, fl_z, fl1_s, fl1_z, map_s, map_z, true_and])
  rfl
theorem eqFml_m (x : Fml) (hw : wtFml x ≤ 10000000000) : Meets Try.prog 10 [(true, encFml x), (true, encFml x)] [(false, [.sc (.bool true)], true)] := by
  obtain ⟨x0, x1, x2, x3⟩ := x
  simp only [wtFml] at hw
  have cvariables := eqSs_m x2 (wtSs_len (n := 100000000000) (by omega))
  have cterms := eqZs_m x3 (by omega)
  refine meets_upf Try.func10 u_laws_eqFormula_g rfl ?_; simp only [u_laws_eqFormula_u]
  simp only [encFml]
  repeat' (first | (with_reducible refine jn_in ?_) | (with_reducible refine cl_ok (by assumption) rfl ?_) | (with_reducible refine cl_okP (by assumption) rfl ?_) | (with_reducible refine br_if (fun hbr => ?_) (fun hbr => ?_)) | (with_reducible refine br_ifn (fun hbr => ?_) (fun hbr => ?_)) | (with_reducible refine br_nb (fun hbr => ?_) (fun hbr => ?_)) | (with_reducible refine br_b (fun hbr => ?_) (fun hbr => ?_)) | simp (disch := first | omega | (simp only [List.length_take, List.length_drop, List.length_append, List.map_cons, List.map_nil, List.length_map, List.length_cons, List.length_nil, List.length_set, List.length_replicate]; omega) | (simp only [List.length_cons, List.length_nil, Nat.zero_add, Nat.reduceAdd])) only [go_sem, ↓reduceIte, Nat.reduceAdd, Int.reduceNeg, Int.reduceAdd, Int.reduceSub, Int.reduceMul, Int.reduceLT, Int.reduceLE, Int.reduceEq, Int.reduceToNat, Nat.reduceBEq, e_sle, e_sge, e_shl1, e_orI, e_andI, e_shr, wrapu, wrap8, tn1, nat1, ix_s, ix_z, st_s, st_z, fl_s, fl_z, fl1_s, fl1_z, map_s, map_z, eq_self])
  rfl
end Go.Proofs.Ytgmpajfhjnojiaa
