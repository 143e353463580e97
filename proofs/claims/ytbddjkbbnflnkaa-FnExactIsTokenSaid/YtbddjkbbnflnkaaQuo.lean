/- QuoteString (impl and spec). -/
import Derived.Test.YtbddjkbbnflnkaaUQuo
import Derived.Test.YtbddjkbbnflnkaaFInt
namespace Go.Proofs.Ytbddjkbbnflnkaa
open Go.RowKit
set_option linter.unusedVariables false
set_option linter.unusedSimpArgs false
set_option maxRecDepth 100000

def hexS : ByteArray := ⟨#[48, 49, 50, 51, 52, 53, 54, 55, 56, 57, 97, 98, 99, 100, 101, 102]⟩
def qc (b : Nat) : List Nat := if b = 34 ∨ b = 92 then [92, b] else if b = 10 then [92, 110] else if b < 32 ∨ 126 < b then [92, 120, byteAt hexS (b / 16), byteAt hexS (b % 16)] else [b]
def qP (s : ByteArray) : Nat → List Nat
  | 0 => [34]
  | i + 1 => qP s i ++ qc (byteAt s i)
def quoteB (s : ByteArray) : ByteArray := ofN (qP s s.size ++ [34])
theorem qc_len (b : Nat) : (qc b).length ≤ 4 := by unfold qc; split; · simp
                                                   split; · simp
                                                   split <;> simp
theorem qP_len (s : ByteArray) : ∀ i, (qP s i).length ≤ 1 + 4 * i
  | 0 => by simp [qP]
  | i + 1 => by have := qP_len s i; have := qc_len (byteAt s i); simp only [qP, List.length_append]; omega
theorem quoteB_size (s : ByteArray) : (quoteB s).size ≤ 2 + 4 * s.size := by
  unfold quoteB; rw [ofN_size, List.length_append, List.length_singleton]
  have := qP_len s s.size; omega
theorem l1Hex_m (k : Nat) (hk : k < 16) : Meets Try.prog 185 [(false, [.sc (.int .i64 k)])] [(false, [.sc (.string (ofN [byteAt hexS k]))], true)] := by
  have hb := byte_mk (s := hexS) (i := k) hk
  have hcut : eCutS (some (.sc (.string ⟨#[48, 49, 50, 51, 52, 53, 54, 55, 56, 57, 97, 98, 99, 100, 101, 102]⟩))) (some (some (k : Int))) (some (some ((k + 1 : Nat) : Int))) = some [.sc (.string (ofN [byteAt hexS k]))] := by
    rw [e_cS (by omega) (by omega) (by show ((k + 1 : Nat) : Int) ≤ ((16 : Nat) : Int); omega)]
    exact congrArg (fun z => some [DV.sc (.string z)]) hb
  refine meets_upf Try.func185 u_spec_l1Hex_g rfl ?_; simp only [u_spec_l1Hex_u]
  repeat' (first | (with_reducible refine jn_in ?_) | (with_reducible refine cl_ok (by assumption) rfl ?_) | (with_reducible refine br_if (fun hbr => ?_) (fun hbr => ?_)) | (with_reducible refine br_ifn (fun hbr => ?_) (fun hbr => ?_)) | (with_reducible refine br_nb (fun hbr => ?_) (fun hbr => ?_)) | (with_reducible refine br_b (fun hbr => ?_) (fun hbr => ?_)) | simp (disch := first | omega | (simp only [List.length_take, List.length_drop, List.length_append, List.map_cons, List.map_nil, List.length_map, List.length_cons, List.length_nil, List.length_set, List.length_replicate]; omega) | (simp only [List.length_cons, List.length_nil, Nat.zero_add, Nat.reduceAdd])) only [go_sem, ↓reduceIte, Nat.reduceAdd, Int.reduceNeg, Int.reduceAdd, Int.reduceSub, Int.reduceMul, Int.reduceLT, Int.reduceLE, Int.reduceEq, Int.reduceToNat, Nat.reduceBEq, e_sle, e_sge, e_shl1, e_orI, e_andI, e_shr, wrapu, wrap8, tn1, nat1, ix_s, ix_z, st_s, st_z, fl_s, fl_z, fl1_s, fl1_z, map_s, map_z, hcut])
  rfl
theorem a1 (q : List Nat) (b : Nat) : ofN q ++ ofN [b] = ofN (q ++ [b]) := (ofN_app q [b]).symm
theorem a92 (q : List Nat) : ofN q ++ ⟨#[92]⟩ = ofN (q ++ [92]) := (ofN_app q [92]).symm
theorem a34 (q : List Nat) : ofN q ++ ⟨#[34]⟩ = ofN (q ++ [34]) := (ofN_app q [34]).symm
theorem a92n (q : List Nat) : ofN q ++ ⟨#[92, 110]⟩ = ofN (q ++ [92, 110]) := (ofN_app q [92, 110]).symm
theorem a92x (q : List Nat) : ofN q ++ ⟨#[92, 120]⟩ = ofN (q ++ [92, 120]) := (ofN_app q [92, 120]).symm
theorem e_catN {c : Bool} {q : List Nat} {t : ByteArray} (h : q.length + t.size ≤ 1000000000000) : eBin .add c (some (.sc (.string (ofN q)))) (some (.sc (.string t))) = some [.sc (.string (ofN q ++ t))] := e_cat (by rw [ofN_size]; unfold maxLen; omega)

set_option maxHeartbeats 4000000 in
theorem specQuo_m (s : ByteArray) (hs : s.size ≤ 10000000000) : Meets Try.prog 153 [(false, [.sc (.string s)])] [(false, [.sc (.string (quoteB s))], true)] := by
  refine meets_upf Try.func153 u_spec_QuoteString_g rfl ?_; simp only [u_spec_QuoteString_u]
  simp (disch := first | omega | (simp only [List.length_take, List.length_drop, List.length_append, List.map_cons, List.map_nil, List.length_map, List.length_cons, List.length_nil, List.length_set, List.length_replicate]; omega) | (simp only [List.length_cons, List.length_nil, Nat.zero_add, Nat.reduceAdd])) only [go_sem, ↓reduceIte, Nat.reduceAdd, Int.reduceNeg, Int.reduceAdd, Int.reduceSub, Int.reduceMul, Int.reduceLT, Int.reduceLE, Int.reduceEq, Int.reduceToNat, Nat.reduceBEq, e_sle, e_sge, e_shl1, e_orI, e_andI, e_shr, wrapu, wrap8, tn1, nat1, ix_s, ix_z, st_s, st_z, fl_s, fl_z, fl1_s, fl1_z, map_s, map_z, true_and]
  refine lp_n s.size (fun i => [.sc (.int .i64 i), .sc (.string (ofN (qP s i)))]) rfl fun i hi => ?_
  have hl := qP_len s i
  have z92 : (⟨#[92]⟩ : ByteArray).size = 1 := rfl
  have z34 : (⟨#[34]⟩ : ByteArray).size = 1 := rfl
  have zn : (⟨#[92, 110]⟩ : ByteArray).size = 2 := rfl
  have zx : (⟨#[92, 120]⟩ : ByteArray).size = 2 := rfl
  have z1 : ∀ b, (ofN [b]).size = 1 := fun b => ofN_size [b]
  simp only [u_spec_QuoteString_l1]
  by_cases hlt : i < s.size
  · have hbt := byteAt_lt s i
    have hq : qP s (i + 1) = qP s i ++ qc (byteAt s i) := rfl
    have hx := byte_mk hlt
    have hcut : eCutS (some (.sc (.string s))) (some (some (i : Int))) (some (some ((i + 1 : Nat) : Int))) = some [.sc (.string (ofN [byteAt s i]))] := by
      rw [e_cS (by omega) (by omega) (by omega)]
      exact congrArg (fun z => some [DV.sc (.string z)]) hx
    generalize hB : byteAt s i = b at *
    have hw : IntKind.i64.wrap (b : Int) = (b : Int) := wrap_id (by omega) (by omega)
    have hsh := @e_shr false .u64 b 4 (by decide)
    have han := @e_and false b 15 (by omega)
    rw [show b &&& 15 = b % 16 from Nat.and_two_pow_sub_one_eq_mod b 4] at han
    simp only [show ((4 : Nat) : Int) = 4 from rfl, show ((15 : Nat) : Int) = 15 from rfl, show (2 : Nat) ^ 4 = 16 from rfl] at hsh han
    have h1 := l1Hex_m (b / 16) (by omega)
    have h2 := l1Hex_m (b % 16) (by omega)
    have c1 := @e_catN false (qP s i) ⟨#[92]⟩ (by omega)
    have c2 := @e_catN false (qP s i ++ [92]) (ofN [b]) (by simp only [List.length_append, List.length_singleton]; have := z1 b; omega)
    have c3 := @e_catN false (qP s i) ⟨#[92, 110]⟩ (by omega)
    have c4 := @e_catN false (qP s i) ⟨#[92, 120]⟩ (by omega)
    have c5 := @e_catN false (qP s i ++ [92, 120]) (ofN [byteAt hexS (b / 16)]) (by simp only [List.length_append, List.length_cons, List.length_nil]; have := z1 (byteAt hexS (b / 16)); omega)
    have c6 := @e_catN false (qP s i ++ [92, 120] ++ [byteAt hexS (b / 16)]) (ofN [byteAt hexS (b % 16)]) (by simp only [List.length_append, List.length_cons, List.length_nil]; have := z1 (byteAt hexS (b % 16)); omega)
    have c7 := @e_catN false (qP s i) (ofN [b]) (by have := z1 b; omega)
    repeat' (first | (with_reducible refine jn_in ?_) | (with_reducible refine cl_ok (by assumption) rfl ?_) | (with_reducible refine br_if (fun hbr => ?_) (fun hbr => ?_)) | (with_reducible refine br_ifn (fun hbr => ?_) (fun hbr => ?_)) | (with_reducible refine br_nb (fun hbr => ?_) (fun hbr => ?_)) | (with_reducible refine br_b (fun hbr => ?_) (fun hbr => ?_)) | simp (disch := first | omega | (simp only [List.length_take, List.length_drop, List.length_append, List.map_cons, List.map_nil, List.length_map, List.length_cons, List.length_nil, List.length_set, List.length_replicate]; omega) | (simp only [List.length_cons, List.length_nil, Nat.zero_add, Nat.reduceAdd])) only [go_sem, ↓reduceIte, Nat.reduceAdd, Int.reduceNeg, Int.reduceAdd, Int.reduceSub, Int.reduceMul, Int.reduceLT, Int.reduceLE, Int.reduceEq, Int.reduceToNat, Nat.reduceBEq, e_sle, e_sge, e_shl1, e_orI, e_andI, e_shr, wrapu, wrap8, tn1, nat1, ix_s, ix_z, st_s, st_z, fl_s, fl_z, fl1_s, fl1_z, map_s, map_z, hB, hw, hsh, han, hcut, c1, c2, c3, c4, c5, c6, c7, a1, a92, a92n, a92x, u_spec_QuoteString_j0])
    all_goals first | omega | skip
    all_goals (refine ⟨?_, hlt⟩; rw [hq]; unfold qc)
    all_goals first
      | (rw [if_pos (by omega)]; simp; done)
      | (rw [if_neg (by omega), if_pos (by omega)]; done)
      | (rw [if_neg (by omega), if_neg (by omega), if_pos (by omega)]; simp; done)
      | (rw [if_neg (by omega), if_neg (by omega), if_neg (by omega)]; done)
      | skip
  · obtain rfl : i = s.size := by omega
    have c8 := @e_catN false (qP s s.size) ⟨#[34]⟩ (by omega)
    repeat' (first | (with_reducible refine jn_in ?_) | (with_reducible refine cl_ok (by assumption) rfl ?_) | (with_reducible refine br_if (fun hbr => ?_) (fun hbr => ?_)) | (with_reducible refine br_ifn (fun hbr => ?_) (fun hbr => ?_)) | (with_reducible refine br_nb (fun hbr => ?_) (fun hbr => ?_)) | (with_reducible refine br_b (fun hbr => ?_) (fun hbr => ?_)) | simp (disch := first | omega | (simp only [List.length_take, List.length_drop, List.length_append, List.map_cons, List.map_nil, List.length_map, List.length_cons, List.length_nil, List.length_set, List.length_replicate]; omega) | (simp only [List.length_cons, List.length_nil, Nat.zero_add, Nat.reduceAdd])) only [go_sem, ↓reduceIte, Nat.reduceAdd, Int.reduceNeg, Int.reduceAdd, Int.reduceSub, Int.reduceMul, Int.reduceLT, Int.reduceLE, Int.reduceEq, Int.reduceToNat, Nat.reduceBEq, e_sle, e_sge, e_shl1, e_orI, e_andI, e_shr, wrapu, wrap8, tn1, nat1, ix_s, ix_z, st_s, st_z, fl_s, fl_z, fl1_s, fl1_z, map_s, map_z, c8, a34])
    all_goals first | omega | rfl
theorem encU_34 : ([[.sc (.int .u8 34)]] : List (List DV)) = [34].map encU := rfl
set_option maxHeartbeats 4000000 in
theorem implQuo_m (s : ByteArray) (hs : s.size ≤ 10000000000) : Meets Try.prog 104 [(false, [.sc (.string s)])] [(false, [.sc (.string (quoteB s))], true)] := by
  refine meets_upf Try.func104 u_impl_QuoteString_g rfl ?_; simp only [u_impl_QuoteString_u]
  simp (disch := first | omega | (simp only [List.length_take, List.length_drop, List.length_append, List.map_cons, List.map_nil, List.length_map, List.length_cons, List.length_nil, List.length_set, List.length_replicate]; omega) | (simp only [List.length_cons, List.length_nil, Nat.zero_add, Nat.reduceAdd])) only [go_sem, ↓reduceIte, Nat.reduceAdd, Int.reduceNeg, Int.reduceAdd, Int.reduceSub, Int.reduceMul, Int.reduceLT, Int.reduceLE, Int.reduceEq, Int.reduceToNat, Nat.reduceBEq, e_sle, e_sge, e_shl1, e_orI, e_andI, e_shr, wrapu, wrap8, tn1, nat1, ix_s, ix_z, st_s, st_z, fl_s, fl_z, fl1_s, fl1_z, map_s, map_z, true_and]
  refine lp_n s.size (fun i => [.sc (.int .i64 i), .sl 5 1 ((qP s i).map encU)]) rfl fun i hi => ?_
  have hl := qP_len s i
  have ap : ∀ m : List Nat, m.length ≤ 10 → eApp 5 1 1 (some (.sl 5 1 ((qP s i).map encU))) (some (.sl 5 1 (m.map encU))) = some [.sl 5 1 ((qP s i ++ m).map encU)] := fun m hm => e_appm (by omega) (by omega) (by decide)
  have ap1 : ∀ a : Nat, eApp 5 1 1 (some (.sl 5 1 ((qP s i).map encU))) (some (.sl 5 1 [[.sc (.int .u8 (a : Int))]])) = some [.sl 5 1 ((qP s i ++ [a]).map encU)] := fun a => ap [a] (by simp)
  have ap2 : ∀ (a b : Nat), eApp 5 1 1 (some (.sl 5 1 ((qP s i).map encU))) (some (.sl 5 1 [[.sc (.int .u8 (a : Int))], [.sc (.int .u8 (b : Int))]])) = some [.sl 5 1 ((qP s i ++ [a, b]).map encU)] := fun a b => ap [a, b] (by simp)
  simp only [u_impl_QuoteString_l2]
  by_cases hlt : i < s.size
  · have hbt := byteAt_lt s i
    have hq : qP s (i + 1) = qP s i ++ qc (byteAt s i) := rfl
    generalize hB : byteAt s i = b at *
    have h2a : eApp 5 1 1 (some (.sl 5 1 ((qP s i).map encU))) (some (.sl 5 1 [[.sc (.int .u8 92)], [.sc (.int .u8 (b : Int))]])) = some [.sl 5 1 ((qP s i ++ [92, b]).map encU)] := ap2 92 b
    have h2b : eApp 5 1 1 (some (.sl 5 1 ((qP s i).map encU))) (some (.sl 5 1 [[.sc (.int .u8 92)], [.sc (.int .u8 110)]])) = some [.sl 5 1 ((qP s i ++ [92, 110]).map encU)] := ap2 92 110
    have h1b := ap1 b
    have h4 : eApp 5 1 1 (some (.sl 5 1 ((qP s i).map encU))) (some (.sl 5 1 [[.sc (.int .u8 92)], [.sc (.int .u8 120)], [.sc (.int .u8 (byteAt hexS (b / 16) : Int))], [.sc (.int .u8 (byteAt hexS (b % 16) : Int))]])) = some [.sl 5 1 ((qP s i ++ [92, 120, byteAt hexS (b / 16), byteAt hexS (b % 16)]).map encU)] := ap [92, 120, byteAt hexS (b / 16), byteAt hexS (b % 16)] (by simp)
    have f2 : ∀ a c : Int, eFlat (some (.sl 5 1 [[.sc (.int .u8 a)], [.sc (.int .u8 c)]])) = some [] := fun _ _ => rfl
    have f4 : ∀ a c d e : Int, eFlat (some (.sl 5 1 [[.sc (.int .u8 a)], [.sc (.int .u8 c)], [.sc (.int .u8 d)], [.sc (.int .u8 e)]])) = some [] := fun _ _ _ _ => rfl
    have d1 : (b : Int).tdiv 16 = ((b / 16 : Nat) : Int) := rfl
    have d2 : (b : Int).tmod 16 = ((b % 16 : Nat) : Int) := rfl
    have d3 : IntKind.u8.wrap ((b / 16 : Nat) : Int) = ((b / 16 : Nat) : Int) := wrap8 (by omega) (by omega)
    have hz : hexS.size = 16 := rfl
    have x1 : ∀ k : Nat, k < 16 → eChr (some (.sc (.string ⟨#[48, 49, 50, 51, 52, 53, 54, 55, 56, 57, 97, 98, 99, 100, 101, 102]⟩))) (some (.sc (.int .u8 (k : Int)))) = some [.sc (.int .u8 (byteAt hexS k))] := fun k hk => e_chr' (s := hexS) (by omega) (by omega)
    have x2 := x1 (b / 16) (by omega)
    have x3 := x1 (b % 16) (by omega)
    repeat' (first | (with_reducible refine jn_in ?_) | (with_reducible refine cl_ok (by assumption) rfl ?_) | (with_reducible refine br_if (fun hbr => ?_) (fun hbr => ?_)) | (with_reducible refine br_ifn (fun hbr => ?_) (fun hbr => ?_)) | (with_reducible refine br_nb (fun hbr => ?_) (fun hbr => ?_)) | (with_reducible refine br_b (fun hbr => ?_) (fun hbr => ?_)) | simp (disch := first | omega | (simp only [List.length_take, List.length_drop, List.length_append, List.map_cons, List.map_nil, List.length_map, List.length_cons, List.length_nil, List.length_set, List.length_replicate]; omega) | (simp only [List.length_cons, List.length_nil, Nat.zero_add, Nat.reduceAdd])) only [go_sem, ↓reduceIte, Nat.reduceAdd, Int.reduceNeg, Int.reduceAdd, Int.reduceSub, Int.reduceMul, Int.reduceLT, Int.reduceLE, Int.reduceEq, Int.reduceToNat, Nat.reduceBEq, e_sle, e_sge, e_shl1, e_orI, e_andI, e_shr, wrapu, wrap8, tn1, nat1, ix_s, ix_z, st_s, st_z, fl_s, fl_z, fl1_s, fl1_z, map_s, map_z, hB, d1, d2, d3, x2, x3, h2a, h2b, h1b, h4, fl1_z, f2, f4, u_impl_QuoteString_j0, u_impl_QuoteString_j1])
    all_goals first | omega | skip
    all_goals (refine ⟨?_, hlt⟩; rw [hq]; unfold qc)
    all_goals first
      | (rw [if_pos (by omega)]; done)
      | (rw [if_neg (by omega), if_pos (by omega)]; done)
      | (rw [if_neg (by omega), if_neg (by omega), if_pos (by omega)]; done)
      | (rw [if_neg (by omega), if_neg (by omega), if_neg (by omega)]; done)
      | skip
  · obtain rfl : i = s.size := by omega
    have h1b : eApp 5 1 1 (some (.sl 5 1 ((qP s s.size).map encU))) (some (.sl 5 1 [[.sc (.int .u8 34)]])) = some [.sl 5 1 ((qP s s.size ++ [34]).map encU)] := ap1 34
    repeat' (first | (with_reducible refine jn_in ?_) | (with_reducible refine cl_ok (by assumption) rfl ?_) | (with_reducible refine br_if (fun hbr => ?_) (fun hbr => ?_)) | (with_reducible refine br_ifn (fun hbr => ?_) (fun hbr => ?_)) | (with_reducible refine br_nb (fun hbr => ?_) (fun hbr => ?_)) | (with_reducible refine br_b (fun hbr => ?_) (fun hbr => ?_)) | simp (disch := first | omega | (simp only [List.length_take, List.length_drop, List.length_append, List.map_cons, List.map_nil, List.length_map, List.length_cons, List.length_nil, List.length_set, List.length_replicate]; omega) | (simp only [List.length_cons, List.length_nil, Nat.zero_add, Nat.reduceAdd])) only [go_sem, ↓reduceIte, Nat.reduceAdd, Int.reduceNeg, Int.reduceAdd, Int.reduceSub, Int.reduceMul, Int.reduceLT, Int.reduceLE, Int.reduceEq, Int.reduceToNat, Nat.reduceBEq, e_sle, e_sge, e_shl1, e_orI, e_andI, e_shr, wrapu, wrap8, tn1, nat1, ix_s, ix_z, st_s, st_z, fl_s, fl_z, fl1_s, fl1_z, map_s, map_z, h1b, fl1_z, cvB_u])
    all_goals first | omega | rfl
end Go.Proofs.Ytbddjkbbnflnkaa
