/- Marks of Formula. -/
import Derived.Test.YtgmpajfhjnojiaaUFmlM
import Derived.Test.YtgmpajfhjnojiaaTFml
import Derived.Test.YtgmpajfhjnojiaaNodM
namespace Go.Proofs.Ytgmpajfhjnojiaa
open Go.RowKit
set_option linter.unusedVariables false
set_option linter.unusedSimpArgs false
set_option maxRecDepth 100000

theorem cell_of_heapF {w w' : World} {b : Nat} (h : w'.heap[b]? = w.heap[b]?) (o : Nat) : w'.cell? ⟨b, o, none⟩ = w.cell? ⟨b, o, none⟩ := by
  unfold World.cell?
  simp only [h]
theorem own_flat_nilF {w : World} {base : Nat} {vs : List Value} {ds : List DV} {f : List Nat} (h : OwnL w base vs ds f) (hf : Flat ds) : f = [] := by
  induction h with
  | nil => rfl
  | sc _ _ ih => exact ih fun d hd => hf d (List.mem_cons_of_mem _ hd)
  | sl => obtain ⟨v, hv⟩ := hf _ (List.mem_cons_self ..); cases hv
set_option maxHeartbeats 2000000 in
theorem markFml_k (r : ByteArray) (b : Bool) (V : List ByteArray) (T : List Int) (k0 : Nat) (h0 : 0 < k0) (h1 : k0 + V.length + T.length ≤ 4611686018427387904) :
    Marks Try.prog 11 true [.sc (.string r), .sc (.bool b), encSs V, encZs T] k0 [.sc (.string r), .sc (.bool b), encSs (marksS k0 V.length), encZs (marksZ (k0 + V.length) T.length)] ((k0 + V.length + T.length : Nat) : Int) := by
  refine ⟨by kernel_rfl, fun w base v vals fs hv ho hnd => ?_⟩
  have hv : v = .agg vals.toArray := hv
  subst hv
  obtain ⟨v0, _, f0, _, rfl, rfl, o0, ho⟩ := ownP_cons ho
  obtain ⟨v1, _, f1, _, rfl, rfl, o1, ho⟩ := ownP_cons ho
  obtain ⟨v2, _, f2, _, rfl, rfl, o2, ho⟩ := ownP_cons ho
  obtain ⟨v3, _, f3, _, rfl, rfl, o3, ho⟩ := ownP_cons ho
  obtain ⟨rfl, rfl⟩ := ownP_nil ho
  obtain ⟨rfl, -⟩ := RepL.scOf o0.rep
  obtain ⟨rfl, -⟩ := RepL.scOf o1.rep
  have e0 := own_flat_nilF o0 (by intro d hd; simp at hd; exact ⟨_, hd⟩)
  have e1 := own_flat_nilF o1 (by intro d hd; simp at hd; exact ⟨_, hd⟩)
  subst e0 e1
  simp only [List.flatten_cons, List.flatten_nil, List.append_nil, List.nil_append] at hnd
  obtain ⟨n1, n2, d1⟩ := List.nodup_append.1 hnd
  have hfl : ([[], [], f2, f3] : List (List Nat)).flatten = f2 ++ f3 := by simp
  rw [hfl]
  have b1 := fun b hb => (o2.blocks b hb).2
  have b2 := fun b hb => (o3.blocks b hb).2
  have HB := Lib.hid (And.intro b1 b2)
  have HD := Lib.hid d1
  have HO := Lib.hid (And.intro o2 o3)
  have HX := Lib.hid (And.intro o0 o1)
  clear ho o0 o1 o2 o3 hnd n1 n2 d1 b1 b2 hfl
  have hal : ∀ o : Obj, Below w.heap.size w (w.alloc o) := fun o => (Below.refl _ _).alloc (Nat.le_refl _) _
  go_enter Try.func11, Try.ntmps11
  go_wp2_with fail
  have q1 := fun o => (HO.out.1).keep (w' := w.alloc o) fun b hb => (hal o).block b (HB.out.1 b hb)
  have q2 := fun o => (HO.out.2).keep (w' := w.alloc o) fun b hb => (hal o).block b (HB.out.2 b hb)
  refine (marks_x (markStringS_k V k0 h0 (by omega)) (q1 _) rfl).mono ?_
  rintro e w1 ⟨rfl, p1, t1⟩
  have hc1 := fun o => cell_of_heapF (t1.block w.heap.size (by simp) (fun hx => absurd (HB.out.1 _ hx) (Nat.lt_irrefl _))) o
  have hz1 : w.heap.size < w1.heap.size := by have := t1.size; simp at this; omega
  have r2 := (q2 _).wrote t1 (fun b hb hx => HD.out b hx b hb rfl)
  have tt := (Wrote.below (f := f2 ++ f3) (hal _)).trans (t1.mono fun b hb => by simp [hb])
  clear q1 q2 hal
  have HQ2 := Lib.hid r2
  have HP1 := Lib.hid p1
  have HT1 := Lib.hid tt
  clear tt p1 t1 r2
  go_wp2_with fail
  refine (marks_x (markIntS_k T (k0 + V.length) (by omega) (by omega)) HQ2.out (by omega)).mono ?_
  rintro e w2 ⟨rfl, p2, t2⟩
  have hc2 := fun o => (cell_of_heapF (t2.block w.heap.size hz1 (fun hx => absurd (HB.out.2 _ hx) (Nat.lt_irrefl _))) o).trans (hc1 o)
  have s1 := HP1.out.wrote t2 (fun b hb hx => HD.out b hb b hx rfl)
  have tt := HT1.out.trans (t2.mono (f := f2 ++ f3) fun b hb => by simp [hb])
  clear HQ2 HP1 HT1 hc1
  have HP1 := Lib.hid s1
  have HP2 := Lib.hid p2
  have HT2 := Lib.hid tt
  clear tt p2 t2 s1
  go_wp2
  go_ret
  refine ⟨ret_i (by simp), ⟨?_, ?_, HP1.out, HP2.out, trivial⟩, HT2.out⟩
  · exact HX.out.1.keep (by simp)
  · exact HX.out.2.keep (by simp)
theorem heldFml_m (r : ByteArray) (b : Bool) (n1 n2 k0 : Nat) (h0 : 0 < k0) (h1 : k0 + n1 + n2 ≤ 4611686018427387904) :
    Meets Try.prog 12 [(true, [.sc (.string r), .sc (.bool b), encSs (marksS k0 n1), encZs (marksZ (k0 + n1) n2)]), (false, [.sc (.int .i64 k0)])] [(false, [.sc (.int .i64 ((k0 + n1 + n2 : Nat) : Int))], true)] := by
  have h2 := heldStringS_m k0 n1 h0 (by omega)
  have h3 := heldIntS_m (k0 + n1) n2 (by omega) (by omega)
  refine meets_upf Try.func12 u_laws_heldFormula_g rfl ?_; simp only [u_laws_heldFormula_u]
  simp only [encSs, encZs] at h2 h3 ⊢
  repeat' (first | (with_reducible refine jn_in ?_) | (with_reducible refine cl_ok (by assumption) rfl ?_) | (with_reducible refine cl_okP (by assumption) rfl ?_) | (with_reducible refine br_if (fun hbr => ?_) (fun hbr => ?_)) | (with_reducible refine br_ifn (fun hbr => ?_) (fun hbr => ?_)) | (with_reducible refine br_nb (fun hbr => ?_) (fun hbr => ?_)) | (with_reducible refine br_b (fun hbr => ?_) (fun hbr => ?_)) | simp (disch := first | omega | (simp only [List.length_take, List.length_drop, List.length_append, List.map_cons, List.map_nil, List.length_map, List.length_cons, List.length_nil, List.length_set, List.length_replicate]; omega) | (simp only [List.length_cons, List.length_nil, Nat.zero_add, Nat.reduceAdd])) only [go_sem, ↓reduceIte, Nat.reduceAdd, Int.reduceNeg, Int.reduceAdd, Int.reduceSub, Int.reduceMul, Int.reduceLT, Int.reduceLE, Int.reduceEq, Int.reduceToNat, Nat.reduceBEq, e_sle, e_sge, e_shl1, e_orI, e_andI, e_shr, wrapu, wrap8, tn1, nat1, ix_s, ix_z, st_s, st_z, fl_s, fl_z, fl1_s, fl1_z, map_s, map_z, true_and])
  all_goals first | omega | rfl
end Go.Proofs.Ytgmpajfhjnojiaa
