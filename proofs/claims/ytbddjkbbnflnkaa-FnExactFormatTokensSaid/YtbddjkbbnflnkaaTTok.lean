/- The type Token: data, encodings, reading; the laws' sizes, conversions, comparisons. Written by tygen.py. -/
import Derived.Test.YtbddjkbbnflnkaaUTTok
import Derived.Test.YtbddjkbbnflnkaaTypB
namespace Go.Proofs.Ytbddjkbbnflnkaa
open Go.RowKit Go.ChangeShapes Go.WideShapes Go.Deep
set_option linter.unusedVariables false
set_option linter.unusedSimpArgs false
set_option maxRecDepth 100000

structure Tok where
  kind : Int
  text : ByteArray
  deriving DecidableEq
instance : Inhabited Tok := ⟨⟨default, default⟩⟩
def encTok (x : Tok) : List DV := [.sc (.int .i64 x.kind), .sc (.string x.text)]
def encToks (l : List Tok) : DV := .sl 52 2 (l.map encTok)
def encToksL (l : List Tok) : DV := .sl 49 2 (l.map encTok)
def wtTok (x : Tok) : Nat := x.text.size
def OkTok (x : Tok) : Prop := In64 x.kind ∧ x.text.size ≤ 9223372036854775807
def wtToks (l : List Tok) : Nat := l.length + sumOf wtTok l
def OkToks (l : List Tok) : Prop := l.length ≤ 9223372036854775807 ∧ ∀ x ∈ l, OkTok x
theorem encTok_len (x : Tok) : (encTok x).length = 2 := rfl
theorem ix_Tok {t : Nat} {l : List Tok} {kd : IntKind} {z : Int} (h : 0 ≤ z) (h1 : z < l.length) : eIdx 2 (some (.sl t 2 (l.map encTok))) (some (.sc (.int kd z))) = some (encTok (l.getD z.toNat default)) := e_idx_map (fun _ => rfl) h h1
theorem opD_Tok : OpD encTok OkTok Try.prog 49 := by
  intro H enc w base spare held fuel cs x h
  obtain ⟨hl, n, hf⟩ := open_flds Try.underlying49 h
  obtain ⟨y0, t0⟩ := hf 0 _ rfl
  obtain ⟨a0, r0, i0⟩ := opD_int Try.underlying3 H enc w base spare held n _ _ t0
  obtain ⟨y1, t1⟩ := hf 1 _ rfl
  obtain ⟨a1, r1, i1⟩ := opD_str Try.underlying9 H enc w base spare held n _ _ t1
  exact ⟨⟨a0, a1⟩, repl_cut (o := 0) (k := 1) (repl_at r0 rfl (by kernel_rfl)) (repl_cut (o := 1) (k := 1) (repl_at r1 rfl (by kernel_rfl)) (repl_end hl (by kernel_rfl))), i0, i1⟩
theorem opD_Toks : OpD (fun l => [encToksL l]) OkToks Try.prog 55 := opD_slice (e := encTok) 49 Try.underlying55 (by kernel_rfl) (by decide) (fun _ => rfl) opD_Tok
theorem szTok_m (x : Tok) (left : Int) (ok : OkTok x) (h0 : 0 ≤ left) (h1 : left ≤ 1048576) : Meets Try.prog 38 [(true, encTok x), (false, [.sc (.int .i64 left)])] [(false, [.sc (.int .i64 (szF left (wtTok x)))], true)] := by
  obtain ⟨x0, x1⟩ := x
  obtain ⟨k0, k1⟩ := ok
  simp only at k0 k1
  refine meets_upf Try.func38 u_laws_szToken_g rfl ?_; simp only [u_laws_szToken_u]
  simp only [encTok]
  simp (disch := first | omega | (simp only [List.length_take, List.length_drop, List.length_append, List.map_cons, List.map_nil, List.length_map, List.length_cons, List.length_nil, List.length_set, List.length_replicate]; omega) | (simp only [List.length_cons, List.length_nil, Nat.zero_add, Nat.reduceAdd])) only [go_sem, ↓reduceIte, Nat.reduceAdd, Int.reduceNeg, Int.reduceAdd, Int.reduceSub, Int.reduceMul, Int.reduceLT, Int.reduceLE, Int.reduceEq, Int.reduceToNat, Nat.reduceBEq, e_sle, e_sge, e_shl1, e_orI, e_andI, e_shr, wrapu, wrap8, tn1, nat1, ix_s, ix_z, st_s, st_z, fl_s, fl_z, fl1_s, fl1_z, map_s, map_z, true_and]
  refine br_if (fun hbr => ?_) (fun hbr => ?_)
  · simp (disch := first | omega | (simp only [List.length_take, List.length_drop, List.length_append, List.map_cons, List.map_nil, List.length_map, List.length_cons, List.length_nil, List.length_set, List.length_replicate]; omega) | (simp only [List.length_cons, List.length_nil, Nat.zero_add, Nat.reduceAdd])) only [go_sem, ↓reduceIte, Nat.reduceAdd, Int.reduceNeg, Int.reduceAdd, Int.reduceSub, Int.reduceMul, Int.reduceLT, Int.reduceLE, Int.reduceEq, Int.reduceToNat, Nat.reduceBEq, e_sle, e_sge, e_shl1, e_orI, e_andI, e_shr, wrapu, wrap8, tn1, nat1, ix_s, ix_z, st_s, st_z, fl_s, fl_z, fl1_s, fl1_z, map_s, map_z, true_and]
    exact ret_z (szF_gt (by simp only [wtTok]; omega))
  simp (disch := first | omega | (simp only [List.length_take, List.length_drop, List.length_append, List.map_cons, List.map_nil, List.length_map, List.length_cons, List.length_nil, List.length_set, List.length_replicate]; omega) | (simp only [List.length_cons, List.length_nil, Nat.zero_add, Nat.reduceAdd])) only [go_sem, ↓reduceIte, Nat.reduceAdd, Int.reduceNeg, Int.reduceAdd, Int.reduceSub, Int.reduceMul, Int.reduceLT, Int.reduceLE, Int.reduceEq, Int.reduceToNat, Nat.reduceBEq, e_sle, e_sge, e_shl1, e_orI, e_andI, e_shr, wrapu, wrap8, tn1, nat1, ix_s, ix_z, st_s, st_z, fl_s, fl_z, fl1_s, fl1_z, map_s, map_z, true_and]
  exact ret_z (by rw [szF_le (by simp only [wtTok]; omega)] <;> (simp only [wtTok]; try omega))
theorem szToks_m (l : List Tok) (left : Int) (ok : OkToks l) (h0 : 0 ≤ left) (h1 : left ≤ 1048576) : Meets Try.prog 42 [(false, [encToksL l]), (false, [.sc (.int .i64 left)])] [(false, [.sc (.int .i64 (szF left (wtToks l)))], true)] := by
  obtain ⟨k1, k2⟩ := ok
  refine meets_upf Try.func42 u_laws_szTokenS_g rfl ?_; simp only [u_laws_szTokenS_u]
  simp only [encToksL]
  simp (disch := first | omega | (simp only [List.length_take, List.length_drop, List.length_append, List.map_cons, List.map_nil, List.length_map, List.length_cons, List.length_nil, List.length_set, List.length_replicate]; omega) | (simp only [List.length_cons, List.length_nil, Nat.zero_add, Nat.reduceAdd])) only [go_sem, ↓reduceIte, Nat.reduceAdd, Int.reduceNeg, Int.reduceAdd, Int.reduceSub, Int.reduceMul, Int.reduceLT, Int.reduceLE, Int.reduceEq, Int.reduceToNat, Nat.reduceBEq, e_sle, e_sge, e_shl1, e_orI, e_andI, e_shr, wrapu, wrap8, tn1, nat1, ix_s, ix_z, st_s, st_z, fl_s, fl_z, fl1_s, fl1_z, map_s, map_z, true_and]
  refine br_if (fun hbr => ?_) (fun hbr => ?_)
  · simp (disch := first | omega | (simp only [List.length_take, List.length_drop, List.length_append, List.map_cons, List.map_nil, List.length_map, List.length_cons, List.length_nil, List.length_set, List.length_replicate]; omega) | (simp only [List.length_cons, List.length_nil, Nat.zero_add, Nat.reduceAdd])) only [go_sem, ↓reduceIte, Nat.reduceAdd, Int.reduceNeg, Int.reduceAdd, Int.reduceSub, Int.reduceMul, Int.reduceLT, Int.reduceLE, Int.reduceEq, Int.reduceToNat, Nat.reduceBEq, e_sle, e_sge, e_shl1, e_orI, e_andI, e_shr, wrapu, wrap8, tn1, nat1, ix_s, ix_z, st_s, st_z, fl_s, fl_z, fl1_s, fl1_z, map_s, map_z, true_and]
    exact ret_z (szF_gt (by unfold wtToks; omega))
  simp (disch := first | omega | (simp only [List.length_take, List.length_drop, List.length_append, List.map_cons, List.map_nil, List.length_map, List.length_cons, List.length_nil, List.length_set, List.length_replicate]; omega) | (simp only [List.length_cons, List.length_nil, Nat.zero_add, Nat.reduceAdd])) only [go_sem, ↓reduceIte, Nat.reduceAdd, Int.reduceNeg, Int.reduceAdd, Int.reduceSub, Int.reduceMul, Int.reduceLT, Int.reduceLE, Int.reduceEq, Int.reduceToNat, Nat.reduceBEq, e_sle, e_sge, e_shl1, e_orI, e_andI, e_shr, wrapu, wrap8, tn1, nat1, ix_s, ix_z, st_s, st_z, fl_s, fl_z, fl1_s, fl1_z, map_s, map_z, true_and]
  refine lp (fun i : Nat => [.sc (.int .i64 i), .sc (.int .i64 (left - (l.length : Int) - (sumOf wtTok (l.take i) : Nat)))]) (fun i => i ≤ l.length ∧ (sumOf wtTok (l.take i) : Nat) ≤ left - (l.length : Int)) (fun i => l.length - i) 0 (by simp [gL, sumOf]) ⟨by omega, by simp [sumOf]; omega⟩ ?_
  rintro i ⟨hi, hs⟩
  simp only [u_laws_szTokenS_l0]
  by_cases hlt : i < l.length
  · have h3 := sumOf_take wtTok hlt
    have h5 := sumOf_le wtTok l (i + 1)
    have hx := k2 _ (getD_mem hlt)
    have hix : eIdx 2 (some (.sl 49 2 (l.map encTok))) (some (.sc (.int .i64 (i : Int)))) = some (encTok (l.getD i default)) := by rw [ix_Tok (by omega) (by omega), Int.toNat_natCast]
    generalize l.getD i default = x at h3 hx hix
    have hc := szTok_m x (left - (l.length : Int) - (sumOf wtTok (l.take i) : Nat)) hx (by omega) (by omega)
    simp only [encTok] at hc hix
    by_cases hw : ((wtTok x : Nat) : Int) ≤ left - (l.length : Int) - (sumOf wtTok (l.take i) : Nat)
    · have hs1 := szF_le hw
      rw [hs1] at hc
      repeat' (first | (with_reducible refine jn_in ?_) | (with_reducible refine cl_ok (by assumption) rfl ?_) | (with_reducible refine br_if (fun hbr => ?_) (fun hbr => ?_)) | (with_reducible refine br_ifn (fun hbr => ?_) (fun hbr => ?_)) | (with_reducible refine br_nb (fun hbr => ?_) (fun hbr => ?_)) | (with_reducible refine br_b (fun hbr => ?_) (fun hbr => ?_)) | simp (disch := first | omega | (simp only [List.length_take, List.length_drop, List.length_append, List.map_cons, List.map_nil, List.length_map, List.length_cons, List.length_nil, List.length_set, List.length_replicate]; omega) | (simp only [List.length_cons, List.length_nil, Nat.zero_add, Nat.reduceAdd])) only [go_sem, ↓reduceIte, Nat.reduceAdd, Int.reduceNeg, Int.reduceAdd, Int.reduceSub, Int.reduceMul, Int.reduceLT, Int.reduceLE, Int.reduceEq, Int.reduceToNat, Nat.reduceBEq, e_sle, e_sge, e_shl1, e_orI, e_andI, e_shr, wrapu, wrap8, tn1, nat1, ix_s, ix_z, st_s, st_z, fl_s, fl_z, fl1_s, fl1_z, map_s, map_z, hix])
      all_goals first | omega | exact ret_z (szF_gt (by unfold wtToks; omega)) | exact ⟨i + 1, by congr 4; omega, ⟨by omega, by omega⟩, by omega⟩
    · have hs1 := szF_gt (left := left - (l.length : Int) - (sumOf wtTok (l.take i) : Nat)) (wt := wtTok x) (by omega)
      rw [hs1] at hc
      repeat' (first | (with_reducible refine jn_in ?_) | (with_reducible refine cl_ok (by assumption) rfl ?_) | (with_reducible refine br_if (fun hbr => ?_) (fun hbr => ?_)) | (with_reducible refine br_ifn (fun hbr => ?_) (fun hbr => ?_)) | (with_reducible refine br_nb (fun hbr => ?_) (fun hbr => ?_)) | (with_reducible refine br_b (fun hbr => ?_) (fun hbr => ?_)) | simp (disch := first | omega | (simp only [List.length_take, List.length_drop, List.length_append, List.map_cons, List.map_nil, List.length_map, List.length_cons, List.length_nil, List.length_set, List.length_replicate]; omega) | (simp only [List.length_cons, List.length_nil, Nat.zero_add, Nat.reduceAdd])) only [go_sem, ↓reduceIte, Nat.reduceAdd, Int.reduceNeg, Int.reduceAdd, Int.reduceSub, Int.reduceMul, Int.reduceLT, Int.reduceLE, Int.reduceEq, Int.reduceToNat, Nat.reduceBEq, e_sle, e_sge, e_shl1, e_orI, e_andI, e_shr, wrapu, wrap8, tn1, nat1, ix_s, ix_z, st_s, st_z, fl_s, fl_z, fl1_s, fl1_z, map_s, map_z, hix])
      all_goals first | omega | exact ret_z (szF_gt (by unfold wtToks; omega))
  · obtain rfl : i = l.length := by omega
    rw [List.take_length] at hs ⊢
    repeat' (first | (with_reducible refine jn_in ?_) | (with_reducible refine cl_ok (by assumption) rfl ?_) | (with_reducible refine br_if (fun hbr => ?_) (fun hbr => ?_)) | (with_reducible refine br_ifn (fun hbr => ?_) (fun hbr => ?_)) | (with_reducible refine br_nb (fun hbr => ?_) (fun hbr => ?_)) | (with_reducible refine br_b (fun hbr => ?_) (fun hbr => ?_)) | simp (disch := first | omega | (simp only [List.length_take, List.length_drop, List.length_append, List.map_cons, List.map_nil, List.length_map, List.length_cons, List.length_nil, List.length_set, List.length_replicate]; omega) | (simp only [List.length_cons, List.length_nil, Nat.zero_add, Nat.reduceAdd])) only [go_sem, ↓reduceIte, Nat.reduceAdd, Int.reduceNeg, Int.reduceAdd, Int.reduceSub, Int.reduceMul, Int.reduceLT, Int.reduceLE, Int.reduceEq, Int.reduceToNat, Nat.reduceBEq, e_sle, e_sge, e_shl1, e_orI, e_andI, e_shr, wrapu, wrap8, tn1, nat1, ix_s, ix_z, st_s, st_z, fl_s, fl_z, fl1_s, fl1_z, map_s, map_z, true_and])
    all_goals first | omega | exact ret_z (by rw [szF_le (by unfold wtToks; omega)]; unfold wtToks; omega)
theorem toTok_m (x : Tok) (hw : wtTok x ≤ 1048576) : Meets Try.prog 40 [(true, encTok x)] [(true, encTok x, true)] := by
  obtain ⟨x0, x1⟩ := x
  simp only [wtTok] at hw
  refine meets_upf Try.func40 u_laws_toToken_g rfl ?_; simp only [u_laws_toToken_u]
  simp only [encTok]
  repeat' (first | (with_reducible refine jn_in ?_) | (with_reducible refine cl_ok (by assumption) rfl ?_) | (with_reducible refine br_if (fun hbr => ?_) (fun hbr => ?_)) | (with_reducible refine br_ifn (fun hbr => ?_) (fun hbr => ?_)) | (with_reducible refine br_nb (fun hbr => ?_) (fun hbr => ?_)) | (with_reducible refine br_b (fun hbr => ?_) (fun hbr => ?_)) | simp (disch := first | omega | (simp only [List.length_take, List.length_drop, List.length_append, List.map_cons, List.map_nil, List.length_map, List.length_cons, List.length_nil, List.length_set, List.length_replicate]; omega) | (simp only [List.length_cons, List.length_nil, Nat.zero_add, Nat.reduceAdd])) only [go_sem, ↓reduceIte, Nat.reduceAdd, Int.reduceNeg, Int.reduceAdd, Int.reduceSub, Int.reduceMul, Int.reduceLT, Int.reduceLE, Int.reduceEq, Int.reduceToNat, Nat.reduceBEq, e_sle, e_sge, e_shl1, e_orI, e_andI, e_shr, wrapu, wrap8, tn1, nat1, ix_s, ix_z, st_s, st_z, fl_s, fl_z, fl1_s, fl1_z, map_s, map_z, true_and])
  rfl
theorem toToks_m (l : List Tok) (h : wtToks l ≤ 1048576) : Meets Try.prog 44 [(false, [encToksL l])] [(false, [encToks l], true)] := by
  have hl : l.length ≤ 1048576 := by unfold wtToks at h; omega
  have hz : ∀ x ∈ l, wtTok x ≤ 1048576 := fun x hx => by have := sumOf_mem wtTok hx; unfold wtToks at h; omega
  refine meets_upf Try.func44 u_laws_toTokenS_g rfl ?_; simp only [u_laws_toTokenS_u]
  simp only [encToksL, encToks]
  have hm := fun b (hb : b ≤ 140) => e_makeL (e := encTok) (l := l) (el := 52) (k := 2) (b := b) (zz := [.sc (.int .i64 0), .sc (.string ⟨#[]⟩)]) (by omega) hb
  have hm1 := hm 24 (by decide)
  simp (disch := first | omega | (simp only [List.length_take, List.length_drop, List.length_append, List.map_cons, List.map_nil, List.length_map, List.length_cons, List.length_nil, List.length_set, List.length_replicate]; omega) | (simp only [List.length_cons, List.length_nil, Nat.zero_add, Nat.reduceAdd])) only [go_sem, ↓reduceIte, Nat.reduceAdd, Int.reduceNeg, Int.reduceAdd, Int.reduceSub, Int.reduceMul, Int.reduceLT, Int.reduceLE, Int.reduceEq, Int.reduceToNat, Nat.reduceBEq, e_sle, e_sge, e_shl1, e_orI, e_andI, e_shr, wrapu, wrap8, tn1, nat1, ix_s, ix_z, st_s, st_z, fl_s, fl_z, fl1_s, fl1_z, map_s, map_z, hm1]
  refine lp_n l.length (fun i => [.sc (.int .i64 i), .sl 52 2 (fillL (l.map encTok) i [.sc (.int .i64 0), .sc (.string ⟨#[]⟩)])]) rfl fun i hi => ?_
  simp only [u_laws_toTokenS_l0]
  by_cases hlt : i < l.length
  · have e1 := e_chkF (e := encTok) (t := 52) (k := 2) (kd := .i64) (z := [.sc (.int .i64 0), .sc (.string ⟨#[]⟩)]) hlt
    have e2 := e_fill (e := encTok) (t := 52) (k := 2) (kd := .i64) (z := [.sc (.int .i64 0), .sc (.string ⟨#[]⟩)]) rfl rfl (fun _ => rfl) hlt
    have hc := toTok_m (l.getD i default) (hz _ (getD_mem hlt))
    have hix : eIdx 2 (some (.sl 49 2 (l.map encTok))) (some (.sc (.int .i64 (i : Int)))) = some (encTok (l.getD i default)) := by rw [ix_Tok (by omega) (by omega), Int.toNat_natCast]
    simp only [encTok, encSs, encZs] at e2 hc hix
    repeat' (first | (with_reducible refine jn_in ?_) | (with_reducible refine cl_ok (by assumption) rfl ?_) | (with_reducible refine br_if (fun hbr => ?_) (fun hbr => ?_)) | (with_reducible refine br_ifn (fun hbr => ?_) (fun hbr => ?_)) | (with_reducible refine br_nb (fun hbr => ?_) (fun hbr => ?_)) | (with_reducible refine br_b (fun hbr => ?_) (fun hbr => ?_)) | simp (disch := first | omega | (simp only [List.length_take, List.length_drop, List.length_append, List.map_cons, List.map_nil, List.length_map, List.length_cons, List.length_nil, List.length_set, List.length_replicate]; omega) | (simp only [List.length_cons, List.length_nil, Nat.zero_add, Nat.reduceAdd])) only [go_sem, ↓reduceIte, Nat.reduceAdd, Int.reduceNeg, Int.reduceAdd, Int.reduceSub, Int.reduceMul, Int.reduceLT, Int.reduceLE, Int.reduceEq, Int.reduceToNat, Nat.reduceBEq, e_sle, e_sge, e_shl1, e_orI, e_andI, e_shr, wrapu, wrap8, tn1, nat1, ix_s, ix_z, st_s, st_z, fl_s, fl_z, fl1_s, fl1_z, map_s, map_z, e1, e2, hix])
    all_goals omega
  · obtain rfl : i = l.length := by omega
    repeat' (first | (with_reducible refine jn_in ?_) | (with_reducible refine cl_ok (by assumption) rfl ?_) | (with_reducible refine br_if (fun hbr => ?_) (fun hbr => ?_)) | (with_reducible refine br_ifn (fun hbr => ?_) (fun hbr => ?_)) | (with_reducible refine br_nb (fun hbr => ?_) (fun hbr => ?_)) | (with_reducible refine br_b (fun hbr => ?_) (fun hbr => ?_)) | simp (disch := first | omega | (simp only [List.length_take, List.length_drop, List.length_append, List.map_cons, List.map_nil, List.length_map, List.length_cons, List.length_nil, List.length_set, List.length_replicate]; omega) | (simp only [List.length_cons, List.length_nil, Nat.zero_add, Nat.reduceAdd])) only [go_sem, ↓reduceIte, Nat.reduceAdd, Int.reduceNeg, Int.reduceAdd, Int.reduceSub, Int.reduceMul, Int.reduceLT, Int.reduceLE, Int.reduceEq, Int.reduceToNat, Nat.reduceBEq, e_sle, e_sge, e_shl1, e_orI, e_andI, e_shr, wrapu, wrap8, tn1, nat1, ix_s, ix_z, st_s, st_z, fl_s, fl_z, fl1_s, fl1_z, map_s, map_z, fillL_endm])
    · omega
    · rfl
theorem eqTok_m (x : Tok) (hw : wtTok x ≤ 10000000000) : Meets Try.prog 105 [(true, encTok x), (true, encTok x)] [(false, [.sc (.bool true)], true)] := by
  obtain ⟨x0, x1⟩ := x
  simp only [wtTok] at hw
  refine meets_upf Try.func105 u_laws_eqToken_g rfl ?_; simp only [u_laws_eqToken_u]
  simp only [encTok]
  repeat' (first | (with_reducible refine jn_in ?_) | (with_reducible refine cl_ok (by assumption) rfl ?_) | (with_reducible refine br_if (fun hbr => ?_) (fun hbr => ?_)) | (with_reducible refine br_ifn (fun hbr => ?_) (fun hbr => ?_)) | (with_reducible refine br_nb (fun hbr => ?_) (fun hbr => ?_)) | (with_reducible refine br_b (fun hbr => ?_) (fun hbr => ?_)) | simp (disch := first | omega | (simp only [List.length_take, List.length_drop, List.length_append, List.map_cons, List.map_nil, List.length_map, List.length_cons, List.length_nil, List.length_set, List.length_replicate]; omega) | (simp only [List.length_cons, List.length_nil, Nat.zero_add, Nat.reduceAdd])) only [go_sem, ↓reduceIte, Nat.reduceAdd, Int.reduceNeg, Int.reduceAdd, Int.reduceSub, Int.reduceMul, Int.reduceLT, Int.reduceLE, Int.reduceEq, Int.reduceToNat, Nat.reduceBEq, e_sle, e_sge, e_shl1, e_orI, e_andI, e_shr, wrapu, wrap8, tn1, nat1, ix_s, ix_z, st_s, st_z, fl_s, fl_z, fl1_s, fl1_z, map_s, map_z, eq_self])
  rfl
theorem eqToks_m (l : List Tok) (h : wtToks l ≤ 10000000000) : Meets Try.prog 46 [(false, [encToks l]), (false, [encToks l])] [(false, [.sc (.bool true)], true)] := by
  have hl : l.length ≤ 10000000000 := by unfold wtToks at h; omega
  have hz : ∀ x ∈ l, wtTok x ≤ 10000000000 := fun x hx => by have := sumOf_mem wtTok hx; unfold wtToks at h; omega
  refine meets_upf Try.func46 u_laws_eqTokenS_g rfl ?_; simp only [u_laws_eqTokenS_u]
  simp only [encToks]
  simp (disch := first | omega | (simp only [List.length_take, List.length_drop, List.length_append, List.map_cons, List.map_nil, List.length_map, List.length_cons, List.length_nil, List.length_set, List.length_replicate]; omega) | (simp only [List.length_cons, List.length_nil, Nat.zero_add, Nat.reduceAdd])) only [go_sem, ↓reduceIte, Nat.reduceAdd, Int.reduceNeg, Int.reduceAdd, Int.reduceSub, Int.reduceMul, Int.reduceLT, Int.reduceLE, Int.reduceEq, Int.reduceToNat, Nat.reduceBEq, e_sle, e_sge, e_shl1, e_orI, e_andI, e_shr, wrapu, wrap8, tn1, nat1, ix_s, ix_z, st_s, st_z, fl_s, fl_z, fl1_s, fl1_z, map_s, map_z, eq_self]
  refine lp_n l.length (fun i => [.sc (.int .i64 i)]) rfl fun i hi => ?_
  simp only [u_laws_eqTokenS_l0]
  by_cases hlt : i < l.length
  · have hc := eqTok_m (l.getD i default) (hz _ (getD_mem hlt))
    have hix : eIdx 2 (some (.sl 52 2 (l.map encTok))) (some (.sc (.int .i64 (i : Int)))) = some (encTok (l.getD i default)) := by rw [ix_Tok (by omega) (by omega), Int.toNat_natCast]
    simp only [encTok, encSs, encZs] at hc hix
    repeat' (first | (with_reducible refine jn_in ?_) | (with_reducible refine cl_ok (by assumption) rfl ?_) | (with_reducible refine br_if (fun hbr => ?_) (fun hbr => ?_)) | (with_reducible refine br_ifn (fun hbr => ?_) (fun hbr => ?_)) | (with_reducible refine br_nb (fun hbr => ?_) (fun hbr => ?_)) | (with_reducible refine br_b (fun hbr => ?_) (fun hbr => ?_)) | simp (disch := first | omega | (simp only [List.length_take, List.length_drop, List.length_append, List.map_cons, List.map_nil, List.length_map, List.length_cons, List.length_nil, List.length_set, List.length_replicate]; omega) | (simp only [List.length_cons, List.length_nil, Nat.zero_add, Nat.reduceAdd])) only [go_sem, ↓reduceIte, Nat.reduceAdd, Int.reduceNeg, Int.reduceAdd, Int.reduceSub, Int.reduceMul, Int.reduceLT, Int.reduceLE, Int.reduceEq, Int.reduceToNat, Nat.reduceBEq, e_sle, e_sge, e_shl1, e_orI, e_andI, e_shr, wrapu, wrap8, tn1, nat1, ix_s, ix_z, st_s, st_z, fl_s, fl_z, fl1_s, fl1_z, map_s, map_z, hix])
    all_goals omega
  · obtain rfl : i = l.length := by omega
    repeat' (first | (with_reducible refine jn_in ?_) | (with_reducible refine cl_ok (by assumption) rfl ?_) | (with_reducible refine br_if (fun hbr => ?_) (fun hbr => ?_)) | (with_reducible refine br_ifn (fun hbr => ?_) (fun hbr => ?_)) | (with_reducible refine br_nb (fun hbr => ?_) (fun hbr => ?_)) | (with_reducible refine br_b (fun hbr => ?_) (fun hbr => ?_)) | simp (disch := first | omega | (simp only [List.length_take, List.length_drop, List.length_append, List.map_cons, List.map_nil, List.length_map, List.length_cons, List.length_nil, List.length_set, List.length_replicate]; omega) | (simp only [List.length_cons, List.length_nil, Nat.zero_add, Nat.reduceAdd])) only [go_sem, ↓reduceIte, Nat.reduceAdd, Int.reduceNeg, Int.reduceAdd, Int.reduceSub, Int.reduceMul, Int.reduceLT, Int.reduceLE, Int.reduceEq, Int.reduceToNat, Nat.reduceBEq, e_sle, e_sge, e_shl1, e_orI, e_andI, e_shr, wrapu, wrap8, tn1, nat1, ix_s, ix_z, st_s, st_z, fl_s, fl_z, fl1_s, fl1_z, map_s, map_z, true_and])
    · omega
    · rfl
end Go.Proofs.Ytbddjkbbnflnkaa
