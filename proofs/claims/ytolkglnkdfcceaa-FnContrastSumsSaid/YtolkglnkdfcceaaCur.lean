/- The cursor that the draws use: l1New, l1Byte, l1Below, l1Once, l1Pick. -/
import Derived.Test.YtolkglnkdfcceaaUCur
import Derived.Test.YtolkglnkdfcceaaTxt
namespace Go.Proofs.Ytolkglnkdfcceaa
open Go.RowKit
set_option linter.unusedVariables false
set_option linter.unusedSimpArgs false
set_option maxRecDepth 100000

def encU8 (n : Int) : List DV := [.sc (.int .u8 n)]
def encU8s (l : List Int) : DV := .sl 5 1 (l.map encU8)
theorem ix_u8 {t : Nat} {l : List Int} {kd : IntKind} {z : Int} (h : 0 ≤ z) (h1 : z < l.length) : eIdx 1 (some (.sl t 1 (l.map encU8))) (some (.sc (.int kd z))) = some [.sc (.int .u8 (l.getD z.toNat default))] := e_idx_map (fun _ => rfl) h h1
theorem getD_memC {α : Type} [Inhabited α] {l : List α} {i : Nat} (h : i < l.length) : l.getD i default ∈ l := by
  rw [List.getD_eq_getElem?_getD, List.getElem?_eq_getElem h]; exact List.getElem_mem h
structure Cu where
  i : Int
  h : Int
def Cu.cs (c : Cu) : List DV := [.sc (.int .i64 c.i), .sc (.int .i64 c.h)]
theorem flat_cs (c : Cu) : Flat c.cs := by intro x hx; simp only [Cu.cs, List.mem_cons, List.not_mem_nil, or_false] at hx; rcases hx with rfl | rfl <;> exact ⟨_, rfl⟩
def xorI (a b : Int) : Int := IntKind.i64.wrap ((BitVec.ofInt 64 a ^^^ BitVec.ofInt 64 b).toNat : Nat)
def andI (a b : Int) : Int := IntKind.i64.wrap ((BitVec.ofInt 64 a &&& BitVec.ofInt 64 b).toNat : Nat)
theorem e_xor {c : Bool} {a b : Int} : eBin .xor c (some (.sc (.int .i64 a))) (some (.sc (.int .i64 b))) = some [.sc (.int .i64 (xorI a b))] := by simp only [eBin, binG, intF, if_true, sc1, xorI]; rfl
theorem e_andX {c : Bool} {a b : Int} : eBin .and c (some (.sc (.int .i64 a))) (some (.sc (.int .i64 b))) = some [.sc (.int .i64 (andI a b))] := by simp only [eBin, binG, intF, if_true, sc1, andI]; rfl
theorem e_shrX {c : Bool} {k : IntKind} {a : Int} {b : Nat} (hb : b ≤ 64) : eBin .shr c (some (.sc (.int .i64 a))) (some (.sc (.int k (b : Int)))) = some [.sc (.int .i64 (a.fdiv (2 ^ b)))] := by
  have h1 : ¬ (b : Int) < 0 := by omega
  simp only [eBin, binG, intF, if_neg h1, sc1, IntKind.bits, Int.toNat_natCast, Nat.min_eq_left hb]
theorem andI_rng (a : Int) : 0 ≤ andI a 255 ∧ andI a 255 ≤ 255 := by
  unfold andI
  have h : (BitVec.ofInt 64 a &&& BitVec.ofInt 64 255).toNat ≤ 255 := by
    rw [BitVec.toNat_and]
    exact Nat.and_le_right
  generalize (BitVec.ofInt 64 a &&& BitVec.ofInt 64 255).toNat = n at h
  simp only [IntKind.wrap, IntKind.bits, IntKind.signed]
  simp
  omega
def hashF (h : Int) : Int := IntKind.i64.wrap (IntKind.i64.wrap (h * 6364136223846793005) + 1442695040888963407)
def mixF (h : Int) : Int := andI (xorI (h.fdiv (2 ^ 33)) (h.fdiv (2 ^ 45))) 255
def byteV (l : List Int) (c : Cu) : Int := if c.i < l.length then andI (IntKind.i64.wrap (mixF (hashF c.h) + IntKind.i64.wrap (l.getD c.i.toNat default))) 255 else mixF (hashF c.h)
def byteC (l : List Int) (c : Cu) : Cu := ⟨if c.i < l.length then c.i + 1 else c.i, hashF c.h⟩
theorem byteV_rng (l : List Int) (c : Cu) : 0 ≤ byteV l c ∧ byteV l c ≤ 255 := by
  unfold byteV
  split
  · exact andI_rng _
  · exact andI_rng _
theorem byteC_pos {l : List Int} {c : Cu} (h : 0 ≤ c.i) : 0 ≤ (byteC l c).i := by
  unfold byteC; simp only; split <;> omega
theorem e_unc3 {ty : Nat} {x a b : DV} : eUnc 3 (some (cvD ty x [a, b])) = some [x, a, b] := rfl
theorem e_cuS2 {ty : Nat} {x a b : DV} {kd : IntKind} {n : Int} : eCuS 2 (some (cvD ty x [a, b])) (some (.sc (.int kd n))) = some [cvD ty x [a, .sc (.int kd n)]] := e_cuS (off := 1) rfl (by simp)
theorem e_cuS1 {ty : Nat} {x a b : DV} {kd : IntKind} {n : Int} : eCuS 1 (some (cvD ty x [a, b])) (some (.sc (.int kd n))) = some [cvD ty x [.sc (.int kd n), b]] := e_cuS (off := 0) rfl (by simp)
theorem ret_c {t : TypeId} {x : DV} {cs cs' : List DV} {vs ds : List (Bool × List DV)} {res : List Rs} (h1 : cs = cs') (h2 : (ds.map fun d => (d.1, d.2, true)) = res) : isC t res cs' ((false, [cvD t x cs]) :: ds) := ⟨x, ds, by rw [h1], h2⟩
theorem byte_c (l : List Int) (c : Cu) (hc : 0 ≤ c.i) (hl : l.length ≤ 4611686018427387904) : MeetsC Try.prog 58 73 (encU8s l) c.cs [] [(false, [.sc (.int .i64 (byteV l c))], true)] (byteC l c).cs := by
  obtain ⟨i, h⟩ := c
  simp only at hc
  have s33 := fun a : Int => @e_shrX false .u64 a 33 (by decide)
  have s45 := fun a : Int => @e_shrX false .u64 a 45 (by decide)
  have k1 : ∀ n : Int, isSc (.int .i64 n) = true := fun _ => rfl
  refine meets_upcf Try.func58 u_spec_l1Byte_g rfl (by simp) ?_; simp only [u_spec_l1Byte_u]
  simp only [Cu.cs, encU8s]
  by_cases hi : i < l.length
  · have hbv : byteV l ⟨i, h⟩ = andI (IntKind.i64.wrap (mixF (hashF h) + IntKind.i64.wrap (l.getD i.toNat default))) 255 := by unfold byteV; rw [if_pos hi]
    have hbc : (byteC l ⟨i, h⟩).i = i + 1 := by unfold byteC; rw [if_pos hi]
    have hbh : (byteC l ⟨i, h⟩).h = hashF h := rfl
    rw [hbv, hbc, hbh]
    unfold mixF hashF
    simp (disch := first | omega) only [go_sem, ↓reduceIte, Nat.reduceAdd, Int.reduceNeg, Int.reduceAdd, Int.reduceSub, Int.reduceMul, Int.reduceLT, Int.reduceLE, Int.reduceEq, Int.reduceToNat, Nat.reduceBEq, e_unc3, e_cuS2, e_cuS1, s33, s45, e_xor, e_andX, ix_u8]
    refine br_if (fun hbr => ?_) (fun hbr => absurd (by simpa only [List.length_map] using hi) hbr)
    simp (disch := first | omega) only [go_sem, ↓reduceIte, Nat.reduceAdd, Int.reduceNeg, Int.reduceAdd, Int.reduceSub, Int.reduceMul, Int.reduceLT, Int.reduceLE, Int.reduceEq, Int.reduceToNat, Nat.reduceBEq, e_unc3, e_cuS2, e_cuS1, s33, s45, e_xor, e_andX, ix_u8]
    unfold andI xorI
    exact ⟨_, _, rfl, rfl⟩
  · have hbv : byteV l ⟨i, h⟩ = mixF (hashF h) := by unfold byteV; rw [if_neg hi]
    have hbc : (byteC l ⟨i, h⟩).i = i := by unfold byteC; rw [if_neg hi]
    have hbh : (byteC l ⟨i, h⟩).h = hashF h := rfl
    rw [hbv, hbc, hbh]
    unfold mixF hashF
    simp (disch := first | omega) only [go_sem, ↓reduceIte, Nat.reduceAdd, Int.reduceNeg, Int.reduceAdd, Int.reduceSub, Int.reduceMul, Int.reduceLT, Int.reduceLE, Int.reduceEq, Int.reduceToNat, Nat.reduceBEq, e_unc3, e_cuS2, e_cuS1, s33, s45, e_xor, e_andX, ix_u8]
    refine br_if (fun hbr => absurd (by simpa only [List.length_map] using hbr) hi) (fun hbr => ?_)
    simp (disch := first | omega) only [go_sem, ↓reduceIte, Nat.reduceAdd, Int.reduceNeg, Int.reduceAdd, Int.reduceSub, Int.reduceMul, Int.reduceLT, Int.reduceLE, Int.reduceEq, Int.reduceToNat, Nat.reduceBEq, e_unc3, e_cuS2, e_cuS1, s33, s45, e_xor, e_andX, ix_u8]
    unfold andI xorI
    exact ⟨_, _, rfl, rfl⟩
def newH (l : List Int) : Nat → Int
  | 0 => 10101 + l.length
  | i + 1 => andI (IntKind.i64.wrap (IntKind.i64.wrap (IntKind.i64.wrap (newH l i * 131) + IntKind.i64.wrap (l.getD i default)) + 7)) 1073741823
def newC (l : List Int) : Cu := ⟨0, newH l (min l.length 4000)⟩
theorem new_m (l : List Int) (hl : l.length ≤ 4611686018427387904) : MeetsN Try.prog 28 [(false, [encU8s l])] 73 (encU8s l) (newC l).cs := by
  refine meets_upnf Try.func28 u_spec_l1New_g rfl (flat_cs _) ?_; simp only [u_spec_l1New_u]
  simp only [encU8s, newC, Cu.cs]
  simp (disch := first | omega | (simp only [List.length_take, List.length_drop, List.length_append, List.map_cons, List.map_nil, List.length_map, List.length_cons, List.length_nil, List.length_set, List.length_replicate]; omega) | (simp only [List.length_cons, List.length_nil, Nat.zero_add, Nat.reduceAdd])) only [go_sem, ↓reduceIte, Nat.reduceAdd, Int.reduceNeg, Int.reduceAdd, Int.reduceSub, Int.reduceMul, Int.reduceLT, Int.reduceLE, Int.reduceEq, Int.reduceToNat, Nat.reduceBEq, true_and]
  refine lp_n (min l.length 4000) (fun i => [.sc (.int .i64 i), .sc (.int .i64 (newH l i))]) rfl fun i hi => ?_
  simp only [u_spec_l1New_l0]
  repeat' (first | (with_reducible refine jn_in ?_) | (with_reducible refine cl_ok (by assumption) rfl ?_) | (with_reducible refine cl_okP (by assumption) rfl ?_) | (with_reducible refine br_if (fun hbr => ?_) (fun hbr => ?_)) | (with_reducible refine br_ifn (fun hbr => ?_) (fun hbr => ?_)) | (with_reducible refine br_nb (fun hbr => ?_) (fun hbr => ?_)) | (with_reducible refine br_b (fun hbr => ?_) (fun hbr => ?_)) | simp (disch := first | omega | (simp only [List.length_take, List.length_drop, List.length_append, List.map_cons, List.map_nil, List.length_map, List.length_cons, List.length_nil, List.length_set, List.length_replicate]; omega) | (simp only [List.length_cons, List.length_nil, Nat.zero_add, Nat.reduceAdd])) only [go_sem, ↓reduceIte, Nat.reduceAdd, Int.reduceNeg, Int.reduceAdd, Int.reduceSub, Int.reduceMul, Int.reduceLT, Int.reduceLE, Int.reduceEq, Int.reduceToNat, Nat.reduceBEq, ix_u8, nat1, e_andX])
  · exact ⟨rfl, by omega⟩
  · obtain rfl : i = min l.length 4000 := by omega
    rfl
  · obtain rfl : i = min l.length 4000 := by omega
    rfl
def belowV (l : List Int) (c : Cu) (n : Int) : Int :=
  if n ≤ 0 then 0 else if n ≤ 256 then (byteV l c).tmod n else
  let c1 := byteC l c
  let c2 := byteC l c1
  let c3 := byteC l c2
  (IntKind.i64.wrap (IntKind.i64.wrap (IntKind.i64.wrap (IntKind.i64.wrap (byteV l c * 16777216) + IntKind.i64.wrap (byteV l c1 * 65536)) + IntKind.i64.wrap (byteV l c2 * 256)) + byteV l c3)).tmod n
def belowC (l : List Int) (c : Cu) (n : Int) : Cu := if n ≤ 0 then c else if n ≤ 256 then byteC l c else byteC l (byteC l (byteC l (byteC l c)))
theorem below_m (l : List Int) (c : Cu) (n : Int) (hc : 0 ≤ c.i) (hl : l.length ≤ 4611686018427387904) (hn : n ≤ 4611686018427387904) : MeetsC Try.prog 30 73 (encU8s l) c.cs [(false, [.sc (.int .i64 n)])] [(false, [.sc (.int .i64 (belowV l c n))], true)] (belowC l c n).cs := by
  have b1 := byte_c l c hc hl
  have b2 := byte_c l (byteC l c) (byteC_pos hc) hl
  have b3 := byte_c l (byteC l (byteC l c)) (byteC_pos (byteC_pos hc)) hl
  have b4 := byte_c l (byteC l (byteC l (byteC l c))) (byteC_pos (byteC_pos (byteC_pos hc))) hl
  refine meets_upcf Try.func30 u_spec_l1Below_g rfl (by simp) ?_; simp only [u_spec_l1Below_u]
  simp (disch := first | omega | (simp only [List.length_take, List.length_drop, List.length_append, List.map_cons, List.map_nil, List.length_map, List.length_cons, List.length_nil, List.length_set, List.length_replicate]; omega) | (simp only [List.length_cons, List.length_nil, Nat.zero_add, Nat.reduceAdd])) only [go_sem, ↓reduceIte, Nat.reduceAdd, Int.reduceNeg, Int.reduceAdd, Int.reduceSub, Int.reduceMul, Int.reduceLT, Int.reduceLE, Int.reduceEq, Int.reduceToNat, Nat.reduceBEq, true_and]
  refine br_if (fun hbr => ?_) (fun hbr => ?_)
  · simp (disch := first | omega | (simp only [List.length_take, List.length_drop, List.length_append, List.map_cons, List.map_nil, List.length_map, List.length_cons, List.length_nil, List.length_set, List.length_replicate]; omega) | (simp only [List.length_cons, List.length_nil, Nat.zero_add, Nat.reduceAdd])) only [go_sem, ↓reduceIte, Nat.reduceAdd, Int.reduceNeg, Int.reduceAdd, Int.reduceSub, Int.reduceMul, Int.reduceLT, Int.reduceLE, Int.reduceEq, Int.reduceToNat, Nat.reduceBEq, true_and]
    rw [belowV, belowC, if_pos hbr, if_pos hbr]
    exact ⟨_, _, rfl, rfl⟩
  · simp (disch := first | omega | (simp only [List.length_take, List.length_drop, List.length_append, List.map_cons, List.map_nil, List.length_map, List.length_cons, List.length_nil, List.length_set, List.length_replicate]; omega) | (simp only [List.length_cons, List.length_nil, Nat.zero_add, Nat.reduceAdd])) only [go_sem, ↓reduceIte, Nat.reduceAdd, Int.reduceNeg, Int.reduceAdd, Int.reduceSub, Int.reduceMul, Int.reduceLT, Int.reduceLE, Int.reduceEq, Int.reduceToNat, Nat.reduceBEq, true_and]
    rw [belowV, belowC, if_neg hbr, if_neg hbr]
    refine br_if (fun hb2 => ?_) (fun hb2 => ?_)
    · rw [if_pos hb2, if_pos hb2]
      simp (disch := first | omega | (simp only [List.length_take, List.length_drop, List.length_append, List.map_cons, List.map_nil, List.length_map, List.length_cons, List.length_nil, List.length_set, List.length_replicate]; omega) | (simp only [List.length_cons, List.length_nil, Nat.zero_add, Nat.reduceAdd])) only [go_sem, ↓reduceIte, Nat.reduceAdd, Int.reduceNeg, Int.reduceAdd, Int.reduceSub, Int.reduceMul, Int.reduceLT, Int.reduceLE, Int.reduceEq, Int.reduceToNat, Nat.reduceBEq, true_and]
      refine cl_okC b1 rfl ?_
      simp (disch := first | omega | (simp only [List.length_take, List.length_drop, List.length_append, List.map_cons, List.map_nil, List.length_map, List.length_cons, List.length_nil, List.length_set, List.length_replicate]; omega) | (simp only [List.length_cons, List.length_nil, Nat.zero_add, Nat.reduceAdd])) only [go_sem, ↓reduceIte, Nat.reduceAdd, Int.reduceNeg, Int.reduceAdd, Int.reduceSub, Int.reduceMul, Int.reduceLT, Int.reduceLE, Int.reduceEq, Int.reduceToNat, Nat.reduceBEq, true_and]
      exact ⟨_, _, rfl, rfl⟩
    · rw [if_neg hb2, if_neg hb2]
      simp (disch := first | omega | (simp only [List.length_take, List.length_drop, List.length_append, List.map_cons, List.map_nil, List.length_map, List.length_cons, List.length_nil, List.length_set, List.length_replicate]; omega) | (simp only [List.length_cons, List.length_nil, Nat.zero_add, Nat.reduceAdd])) only [go_sem, ↓reduceIte, Nat.reduceAdd, Int.reduceNeg, Int.reduceAdd, Int.reduceSub, Int.reduceMul, Int.reduceLT, Int.reduceLE, Int.reduceEq, Int.reduceToNat, Nat.reduceBEq, true_and]
      refine cl_okC b1 rfl ?_
      simp (disch := first | omega | (simp only [List.length_take, List.length_drop, List.length_append, List.map_cons, List.map_nil, List.length_map, List.length_cons, List.length_nil, List.length_set, List.length_replicate]; omega) | (simp only [List.length_cons, List.length_nil, Nat.zero_add, Nat.reduceAdd])) only [go_sem, ↓reduceIte, Nat.reduceAdd, Int.reduceNeg, Int.reduceAdd, Int.reduceSub, Int.reduceMul, Int.reduceLT, Int.reduceLE, Int.reduceEq, Int.reduceToNat, Nat.reduceBEq, true_and]
      refine cl_okC b2 rfl ?_
      simp (disch := first | omega | (simp only [List.length_take, List.length_drop, List.length_append, List.map_cons, List.map_nil, List.length_map, List.length_cons, List.length_nil, List.length_set, List.length_replicate]; omega) | (simp only [List.length_cons, List.length_nil, Nat.zero_add, Nat.reduceAdd])) only [go_sem, ↓reduceIte, Nat.reduceAdd, Int.reduceNeg, Int.reduceAdd, Int.reduceSub, Int.reduceMul, Int.reduceLT, Int.reduceLE, Int.reduceEq, Int.reduceToNat, Nat.reduceBEq, true_and]
      refine cl_okC b3 rfl ?_
      simp (disch := first | omega | (simp only [List.length_take, List.length_drop, List.length_append, List.map_cons, List.map_nil, List.length_map, List.length_cons, List.length_nil, List.length_set, List.length_replicate]; omega) | (simp only [List.length_cons, List.length_nil, Nat.zero_add, Nat.reduceAdd])) only [go_sem, ↓reduceIte, Nat.reduceAdd, Int.reduceNeg, Int.reduceAdd, Int.reduceSub, Int.reduceMul, Int.reduceLT, Int.reduceLE, Int.reduceEq, Int.reduceToNat, Nat.reduceBEq, true_and]
      refine cl_okC b4 rfl ?_
      simp (disch := first | omega | (simp only [List.length_take, List.length_drop, List.length_append, List.map_cons, List.map_nil, List.length_map, List.length_cons, List.length_nil, List.length_set, List.length_replicate]; omega) | (simp only [List.length_cons, List.length_nil, Nat.zero_add, Nat.reduceAdd])) only [go_sem, ↓reduceIte, Nat.reduceAdd, Int.reduceNeg, Int.reduceAdd, Int.reduceSub, Int.reduceMul, Int.reduceLT, Int.reduceLE, Int.reduceEq, Int.reduceToNat, Nat.reduceBEq, true_and]
      exact ⟨_, _, rfl, rfl⟩
theorem belowV_rng (l : List Int) (c : Cu) {n : Int} (hn : 0 < n) : 0 ≤ belowV l c n ∧ belowV l c n < n := by
  have b1 := byteV_rng l c
  have b2 := byteV_rng l (byteC l c)
  have b3 := byteV_rng l (byteC l (byteC l c))
  have b4 := byteV_rng l (byteC l (byteC l (byteC l c)))
  have key : ∀ x : Int, 0 ≤ x → 0 ≤ x.tmod n ∧ x.tmod n < n := fun x hx => ⟨Int.tmod_nonneg n hx, Int.tmod_lt_of_pos x hn⟩
  unfold belowV
  rw [if_neg (by omega)]
  split
  · exact key _ b1.1
  · refine key _ ?_
    rw [wrap_id (z := byteV l c * 16777216) (by omega) (by omega), wrap_id (z := byteV l (byteC l c) * 65536) (by omega) (by omega), wrap_id (z := byteV l (byteC l (byteC l c)) * 256) (by omega) (by omega), wrap_id (z := _ + byteV l (byteC l c) * 65536) (by omega) (by omega), wrap_id (z := _ + byteV l (byteC l (byteC l c)) * 256) (by omega) (by omega)]
    first | omega | (rw [wrap_id (by omega) (by omega)]; omega)
theorem belowC_pos {l : List Int} {c : Cu} {n : Int} (h : 0 ≤ c.i) : 0 ≤ (belowC l c n).i := by
  unfold belowC
  split
  · exact h
  · split
    · exact byteC_pos h
    · exact byteC_pos (byteC_pos (byteC_pos (byteC_pos h)))
theorem once_m (l : List Int) (c : Cu) (n : Int) (hc : 0 ≤ c.i) (hl : l.length ≤ 4611686018427387904) (hn : n ≤ 4611686018427387904) : MeetsC Try.prog 39 73 (encU8s l) c.cs [(false, [.sc (.int .i64 n)])] [(false, [.sc (.bool (decide (belowV l c n = 0)))], true)] (belowC l c n).cs := by
  have b1 := below_m l c n hc hl hn
  refine meets_upcf Try.func39 u_spec_l1Once_g rfl (by simp) ?_; simp only [u_spec_l1Once_u]
  simp (disch := first | omega | (simp only [List.length_take, List.length_drop, List.length_append, List.map_cons, List.map_nil, List.length_map, List.length_cons, List.length_nil, List.length_set, List.length_replicate]; omega) | (simp only [List.length_cons, List.length_nil, Nat.zero_add, Nat.reduceAdd])) only [go_sem, ↓reduceIte, Nat.reduceAdd, Int.reduceNeg, Int.reduceAdd, Int.reduceSub, Int.reduceMul, Int.reduceLT, Int.reduceLE, Int.reduceEq, Int.reduceToNat, Nat.reduceBEq, true_and]
  refine cl_okC b1 rfl ?_
  simp (disch := first | omega | (simp only [List.length_take, List.length_drop, List.length_append, List.map_cons, List.map_nil, List.length_map, List.length_cons, List.length_nil, List.length_set, List.length_replicate]; omega) | (simp only [List.length_cons, List.length_nil, Nat.zero_add, Nat.reduceAdd])) only [go_sem, ↓reduceIte, Nat.reduceAdd, Int.reduceNeg, Int.reduceAdd, Int.reduceSub, Int.reduceMul, Int.reduceLT, Int.reduceLE, Int.reduceEq, Int.reduceToNat, Nat.reduceBEq, true_and]
  exact ⟨_, _, rfl, rfl⟩
theorem pickI_m (t : Nat) (l : List Int) (c : Cu) (p : List Int) (hc : 0 ≤ c.i) (hl : l.length ≤ 4611686018427387904) (h0 : p ≠ []) (hp : p.length ≤ 1000000) : MeetsC Try.prog 29 73 (encU8s l) c.cs [(false, [.sl t 1 (p.map encZ)])] [(false, [.sc (.int .i64 (p.getD (belowV l c p.length).toNat default))], true)] (belowC l c p.length).cs := by
  have b1 := below_m l c p.length hc hl (by omega)
  have hr := belowV_rng l c (n := p.length) (by have := List.length_pos_iff.2 h0; omega)
  refine meets_upcf Try.func29 u_spec_l1PickInt_g rfl (by simp) ?_; simp only [u_spec_l1PickInt_u]
  simp (disch := first | omega | (simp only [List.length_take, List.length_drop, List.length_append, List.map_cons, List.map_nil, List.length_map, List.length_cons, List.length_nil, List.length_set, List.length_replicate]; omega) | (simp only [List.length_cons, List.length_nil, Nat.zero_add, Nat.reduceAdd])) only [go_sem, ↓reduceIte, Nat.reduceAdd, Int.reduceNeg, Int.reduceAdd, Int.reduceSub, Int.reduceMul, Int.reduceLT, Int.reduceLE, Int.reduceEq, Int.reduceToNat, Nat.reduceBEq, true_and]
  refine cl_okC b1 rfl ?_
  simp (disch := first | omega | (simp only [List.length_take, List.length_drop, List.length_append, List.map_cons, List.map_nil, List.length_map, List.length_cons, List.length_nil, List.length_set, List.length_replicate]; omega) | (simp only [List.length_cons, List.length_nil, Nat.zero_add, Nat.reduceAdd])) only [go_sem, ↓reduceIte, Nat.reduceAdd, Int.reduceNeg, Int.reduceAdd, Int.reduceSub, Int.reduceMul, Int.reduceLT, Int.reduceLE, Int.reduceEq, Int.reduceToNat, Nat.reduceBEq, ix_z]
  exact ⟨_, _, rfl, rfl⟩
/-! the same, the results only said to exist -/
theorem bel_e (l : List Int) (c : Cu) (n : Int) (hc : 0 ≤ c.i) (hl : l.length ≤ 1048576) (h0 : 0 < n) (hn : n ≤ 4611686018427387904) : ∃ (v : Int) (c' : Cu), (0 ≤ v ∧ v < n) ∧ 0 ≤ c'.i ∧ MeetsC Try.prog 30 73 (encU8s l) c.cs [(false, [.sc (.int .i64 n)])] [(false, [.sc (.int .i64 v)], true)] c'.cs :=
  ⟨_, _, belowV_rng l c h0, belowC_pos hc, below_m l c n hc (by omega) hn⟩
theorem new_e (l : List Int) (hl : l.length ≤ 1048576) : ∃ c' : Cu, 0 ≤ c'.i ∧ MeetsN Try.prog 28 [(false, [encU8s l])] 73 (encU8s l) c'.cs := ⟨newC l, Int.le_refl 0, new_m l (by omega)⟩
theorem onc_e (l : List Int) (c : Cu) (n : Int) (hc : 0 ≤ c.i) (hl : l.length ≤ 1048576) (hn : n ≤ 4611686018427387904) : ∃ (b : Bool) (c' : Cu), 0 ≤ c'.i ∧ MeetsC Try.prog 39 73 (encU8s l) c.cs [(false, [.sc (.int .i64 n)])] [(false, [.sc (.bool b)], true)] c'.cs :=
  ⟨_, _, belowC_pos hc, once_m l c n hc (by omega) hn⟩
theorem pki_e (t : Nat) (l : List Int) (c : Cu) (p : List Int) (hc : 0 ≤ c.i) (hl : l.length ≤ 1048576) (h0 : p ≠ []) (hp : p.length ≤ 1000000) : ∃ (v : Int) (c' : Cu), v ∈ p ∧ 0 ≤ c'.i ∧ MeetsC Try.prog 29 73 (encU8s l) c.cs [(false, [.sl t 1 (p.map encZ)])] [(false, [.sc (.int .i64 v)], true)] c'.cs :=
  ⟨_, _, getD_memC (by have hr := belowV_rng l c (n := p.length) (by have := List.length_pos_iff.2 h0; omega); omega), belowC_pos hc, pickI_m t l c p hc (by omega) h0 hp⟩
end Go.Proofs.Ytolkglnkdfcceaa
