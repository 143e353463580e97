/- Proved: for every input the law 'FnTokens' returns true and its arguments read behind the call as before: part 4 of its proof. No condition. -/
import Derived.WalkKit
import Derived.Lib.Hide
import Derived.WalkSpells
import Derived.Laws.OwnMore
import Derived.Deep.AppendLies
import Derived.Deep.Draws
import Derived.Maps.AppendAt
import Derived.RegionTactic
import Derived.OwnWalk
import Derived.Below
import Derived.Laws.AppendOwnNone
import Derived.Deep.QuietTactic
import Derived.BigQuiet
import Derived.StillTailTactics
import Derived.Laws.Cells
import Derived.Laws.IdiomCopy
import Derived.ChangeKeysEq
import Derived.Laws.BytesArg
import Derived.Laws.StructEq
import Derived.Laws.Tables
import Derived.Great.BuildSlice
import Derived.StillTail
import Derived.OrdersHeld
import Derived.Test.YtkeoohonidpjeaaProg
import Derived.Deep.Slices
import Derived.Deep.Fields
import Derived.ChangeSame
import Derived.OpenShut
import Derived.Test.YtkeoohonidpjeaaFnTokensQ3
set_option linter.unusedVariables false
set_option linter.unusedSimpArgs false
namespace Go.Proofs.Ytkeoohonidpjeaa
open Go.RowKit
section
variable {P : Program} {R : List (Bool × List DV)→Prop} {k : UP} {L : Lbl} {ρ : List DV}
theorem jn_in {n : Nat} {rest : UP} (hk : V P R k (L ++ [fun vs=>V P R rest L (psh vs ρ)]) ρ) : V P R (.join n rest k) L ρ:=⟨fun vs=>V P R rest L (psh vs ρ),fun vs _ h=>h,hk⟩
end
theorem ret_b {b c : Bool} (h : b = c) : isRes [(false,[.sc (.bool b)],true)] [(false,[.sc (.bool c)])]:=by subst h;rfl
theorem ret_z {k : IntKind} {b c : Int} (h : b = c) : isRes [(false,[.sc (.int k b)],true)] [(false,[.sc (.int k c)])]:=by subst h;rfl
theorem ret_s {b c : ByteArray} (h : b = c) : isRes [(false,[.sc (.string b)],true)] [(false,[.sc (.string c)])]:=by subst h;rfl
def allB (p : Nat→Bool) (n : Nat) : Bool:=(List.range n).all p
theorem allB_zero (p : Nat→Bool) : allB p 0 = true:=rfl
theorem allB_succ (p : Nat→Bool) (n : Nat) : allB p (n + 1) = (allB p n && p n):=by simp [allB,List.range_succ]
theorem allB_iff {p : Nat→Bool} {n : Nat} : allB p n = true ↔ ∀ i,i < n→p i = true:=by simp [allB]
theorem allB_no {p : Nat→Bool} {n i : Nat} (h : i < n) (hp : p i = false) : allB p n = false:=by
  cases hb : allB p n
  · rfl
  · rw [allB_iff.1 hb i h] at hp;cases hp
theorem allB_step {p : Nat→Bool} {i : Nat} (h : allB p i = true) (hp : p i = true) : allB p (i + 1) = true:=by rw [allB_succ,h,hp];rfl
theorem allB_congr {p q : Nat→Bool} {n : Nat} (h : ∀ i,i < n→p i = q i) : allB p n = allB q n:=by
  induction n with
  | zero=>rfl
  | succ n ih=>rw [allB_succ,allB_succ,ih (fun i hi=>h i (by omega)),h n (by omega)]
def fIdx : List ByteArray→ByteArray→Nat→Int
  | [],_,_=>-1
  | x :: l,s,k=>if x = s then (k : Int) else fIdx l s (k + 1)
def find1 (l : List ByteArray) (s : ByteArray) : Int:=fIdx l s 0
def hasB (l : List ByteArray) (s : ByteArray) : Bool:=decide (0≤find1 l s)
theorem fIdx_at (s : ByteArray) : ∀ (l : List ByteArray) (k m : Nat),(∀ j,j < k→l[j]? ≠ some s)→l[k]? = some s→fIdx l s m = ((m + k : Nat) : Int):=by
  intro l
  induction l with
  | nil=>intro k m _ hk;simp at hk
  | cons x l ih =>
    intro k m h hk
    unfold fIdx
    cases k with
    | zero=>simp at hk;rw [if_pos hk];simp
    | succ k =>
      rw [if_neg (fun e=>h 0 (by omega) (by simp [e])),ih k (m + 1) (fun j hj=>by have:=h (j + 1) (by omega);simpa using this) (by simpa using hk)]
      omega
theorem fIdx_none (s : ByteArray) : ∀ (l : List ByteArray) (m : Nat),(∀ j,j < l.length→l[j]? ≠ some s)→fIdx l s m = -1:=by
  intro l
  induction l with
  | nil=>intro m _;rfl
  | cons x l ih =>
    intro m h
    unfold fIdx
    rw [if_neg (fun e=>h 0 (by simp) (by simp [e]))]
    exact ih _ (fun j hj=>by have:=h (j + 1) (by simpa using hj);simpa using this)
theorem fIdx_spec (s : ByteArray) : ∀ (l : List ByteArray) (m : Nat),(fIdx l s m = -1∧s ∉ l) ∨ ∃ k : Nat,fIdx l s m = ((m + k : Nat) : Int)∧l[k]? = some s∧∀ j,j < k→l[j]? ≠ some s:=by
  intro l
  induction l with
  | nil=>intro m;exact .inl ⟨rfl,by simp⟩
  | cons x l ih =>
    intro m
    unfold fIdx
    by_cases e : x = s
    · rw [if_pos e];exact .inr ⟨0,by simp,by simp [e],fun j hj=>by omega⟩
    · rw [if_neg e]
      rcases ih (m + 1) with ⟨h1,h2⟩ | ⟨k,h1,h2,h3⟩
      · exact .inl ⟨h1,by simp [h2];exact fun h=>e h.symm⟩
      · refine .inr ⟨k + 1,by rw [h1];omega,by simpa using h2,fun j hj=>?_⟩
        cases j with
        | zero=>simpa using e
        | succ j=>simpa using h3 j (by omega)
theorem find1_spec (l : List ByteArray) (s : ByteArray) : (find1 l s = -1∧s ∉ l) ∨ ∃ k : Nat,find1 l s = k∧l[k]? = some s∧∀ j,j < k→l[j]? ≠ some s:=by
  rcases fIdx_spec s l 0 with h | ⟨k,h1,h2⟩
  · exact .inl h
  · exact .inr ⟨k,by unfold find1;rw [h1];simp,h2⟩
theorem hasB_iff (l : List ByteArray) (s : ByteArray) : hasB l s = true ↔ s ∈ l:=by
  unfold hasB
  rcases find1_spec l s with ⟨h,h2⟩ | ⟨k,h1,h2,_⟩
  · rw [h];simp [h2]
  · rw [h1];simp;exact List.mem_of_getElem? h2
theorem getD_some {α : Type} [Inhabited α] {l : List α} {i : Nat} (h : i < l.length) : l[i]? = some (l.getD i default):=by
  rw [List.getD_eq_getElem?_getD,List.getElem?_eq_getElem h];rfl
theorem find1_hit {l : List ByteArray} {s : ByteArray} {i : Nat} (h : allB (fun j=>!decide (l.getD j default = s)) i = true) (hi : i < l.length) (he : l.getD i default = s) : find1 l s = i:=by
  unfold find1
  rw [fIdx_at s l i 0 (fun j hj hx=>?_) (by rw [getD_some hi,he])]
  · simp
  · have:=allB_iff.1 h j hj
    rw [List.getD_eq_getElem?_getD,hx] at this
    simp at this
theorem find1_miss {l : List ByteArray} {s : ByteArray} (h : allB (fun j=>!decide (l.getD j default = s)) l.length = true) : find1 l s = -1:=by
  refine fIdx_none s l 0 fun j hj hx=>?_
  have:=allB_iff.1 h j hj
  rw [List.getD_eq_getElem?_getD,hx] at this
  simp at this
theorem getD_le {l : List ByteArray} {m : Nat} (h : ∀ x ∈ l,x.size≤m) (i : Nat) : (l.getD i default).size≤m:=by
  rw [List.getD_eq_getElem?_getD]
  cases hi : l[i]? with
  | none=>exact Nat.zero_le _
  | some x=>exact h x (List.mem_of_getElem? hi)
theorem byteAt_lt (s : ByteArray) (i : Nat) : byteAt s i < 256:=by
  unfold byteAt
  cases h : s[i]? with
  | none=>decide
  | some u=>exact u.toNat_lt
def nameC (s : ByteArray) (i : Nat) : Bool:=decide (33≤byteAt s i) && (decide (byteAt s i≤126) && !decide (byteAt s i = 96))
def nameB (s : ByteArray) : Bool:=allB (nameC s) s.size && decide (1≤s.size∧s.size≤20)
theorem nameB_no {s : ByteArray} {i : Nat} (h : i < s.size) (hp : nameC s i = false) : nameB s = false:=by unfold nameB;rw [allB_no h hp];rfl
theorem nameB_size {s : ByteArray} (h : nameB s = true) : 1≤s.size∧s.size≤20:=by
  unfold nameB at h;simp only [Bool.and_eq_true,decide_eq_true_eq] at h;exact h.2
theorem ofInt_nat (a : Nat) : BitVec.ofInt 64 (a : Int) = BitVec.ofNat 64 a:=by simp
theorem bv_and {a b : Nat} (ha : a < 2 ^ 63) : IntKind.i64.wrap ((BitVec.ofInt 64 (a : Int) &&& BitVec.ofInt 64 (b : Int)).toNat : Nat) = ((a &&& b : Nat) : Int):=by
  have h1 : (BitVec.ofInt 64 (a : Int) &&& BitVec.ofInt 64 (b : Int)).toNat = a &&& b:=by
    rw [ofInt_nat,ofInt_nat,BitVec.toNat_and,BitVec.toNat_ofNat,BitVec.toNat_ofNat,← Nat.and_mod_two_pow]
    have : a &&& b≤a:=Nat.and_le_left
    exact Nat.mod_eq_of_lt (by omega)
  rw [h1]
  have : a &&& b≤a:=Nat.and_le_left
  exact wrap_id (by omega) (by omega)
theorem bv_or {a b : Nat} (ha : a < 2 ^ 63) (hb : b < 2 ^ 63) : IntKind.i64.wrap ((BitVec.ofInt 64 (a : Int) ||| BitVec.ofInt 64 (b : Int)).toNat : Nat) = ((a ||| b : Nat) : Int):=by
  have h0 : a ||| b < 2 ^ 63:=Nat.or_lt_two_pow ha hb
  have h1 : (BitVec.ofInt 64 (a : Int) ||| BitVec.ofInt 64 (b : Int)).toNat = a ||| b:=by
    rw [ofInt_nat,ofInt_nat,BitVec.toNat_or,BitVec.toNat_ofNat,BitVec.toNat_ofNat,← Nat.or_mod_two_pow]
    exact Nat.mod_eq_of_lt (by omega)
  rw [h1]
  exact wrap_id (by omega) (by omega)
theorem e_and {c : Bool} {a b : Nat} (ha : a < 2 ^ 63) : eBin .and c (some (.sc (.int .i64 (a : Int)))) (some (.sc (.int .i64 (b : Int)))) = some [.sc (.int .i64 ((a &&& b : Nat) : Int))]:=by
  simp only [eBin,binG,intF,if_true,sc1]
  exact congrArg (fun z=>some [DV.sc (.int .i64 z)]) (bv_and ha)
theorem e_or {c : Bool} {a b : Nat} (ha : a < 2 ^ 63) (hb : b < 2 ^ 63) : eBin .or c (some (.sc (.int .i64 (a : Int)))) (some (.sc (.int .i64 (b : Int)))) = some [.sc (.int .i64 ((a ||| b : Nat) : Int))]:=by
  simp only [eBin,binG,intF,if_true,sc1]
  exact congrArg (fun z=>some [DV.sc (.int .i64 z)]) (bv_or ha hb)
theorem e_shr {c : Bool} {k : IntKind} {a b : Nat} (hb : b≤64) : eBin .shr c (some (.sc (.int .i64 (a : Int)))) (some (.sc (.int k (b : Int)))) = some [.sc (.int .i64 ((a / 2 ^ b : Nat) : Int))]:=by
  have h1 : ¬ (b : Int) < 0:=by omega
  simp only [eBin,binG,intF,if_neg h1,sc1,IntKind.bits,Int.toNat_natCast,Nat.min_eq_left hb]
  have h2 : (2 : Int) ^ b = ((2 ^ b : Nat) : Int):=by simp
  rw [h2,Int.fdiv_eq_ediv_of_nonneg _ (Int.natCast_nonneg _)];rfl
theorem e_shl {c : Bool} {k : IntKind} {a b : Nat} (hb : b≤64) (h : a * 2 ^ b < 2 ^ 63) : eBin .shl c (some (.sc (.int .i64 (a : Int)))) (some (.sc (.int k (b : Int)))) = some [.sc (.int .i64 ((a * 2 ^ b : Nat) : Int))]:=by
  have h1 : ¬ (b : Int) < 0:=by omega
  have h2 : (a : Int) * 2 ^ b = ((a * 2 ^ b : Nat) : Int):=by simp
  simp only [eBin,binG,intF,if_neg h1,sc1,IntKind.bits,Int.toNat_natCast,Nat.min_eq_left hb,h2]
  rw [wrap_id (by omega) (by omega)]
theorem e_shl1 {c : Bool} {k : IntKind} {b : Nat} (hb : b≤62) : eBin .shl c (some (.sc (.int .i64 1))) (some (.sc (.int k (b : Int)))) = some [.sc (.int .i64 ((2 ^ b : Nat) : Int))]:=by
  have hp : 2 ^ b≤2 ^ 62:=Nat.pow_le_pow_right (by decide) hb
  have:=@e_shl c k 1 b (by omega) (by omega)
  rwa [Nat.one_mul] at this
theorem e_orI {c : Bool} {a b : Int} (h0 : 0≤a) (ha : a < 9223372036854775808) (h1 : 0≤b) (hb : b < 9223372036854775808) : eBin .or c (some (.sc (.int .i64 a))) (some (.sc (.int .i64 b))) = some [.sc (.int .i64 ((a.toNat ||| b.toNat : Nat) : Int))]:=by
  obtain ⟨m,rfl⟩:=Int.eq_ofNat_of_zero_le h0
  obtain ⟨n,rfl⟩:=Int.eq_ofNat_of_zero_le h1
  exact e_or (by omega) (by omega)
theorem e_andI {c : Bool} {a b : Int} (h0 : 0≤a) (ha : a < 9223372036854775808) (h1 : 0≤b) : eBin .and c (some (.sc (.int .i64 a))) (some (.sc (.int .i64 b))) = some [.sc (.int .i64 ((a.toNat &&& b.toNat : Nat) : Int))]:=by
  obtain ⟨m,rfl⟩:=Int.eq_ofNat_of_zero_le h0
  obtain ⟨n,rfl⟩:=Int.eq_ofNat_of_zero_le h1
  exact e_and (by omega)
theorem wrapu {n : Nat} (h : n < 9223372036854775808) : IntKind.u64.wrap (n : Int) = n:=by
  simp only [IntKind.wrap,IntKind.bits,IntKind.signed]
  simp;omega
theorem wrap8 {z : Int} (h : 0≤z) (h2 : z < 256) : IntKind.u8.wrap z = z:=by
  simp only [IntKind.wrap,IntKind.bits,IntKind.signed]
  simp;omega
theorem tn1 {i : Nat} : ((i : Int) - 1).toNat = i - 1:=by omega
theorem e_sle {c : Bool} {s t : ByteArray} : eBin .leq c (some (.sc (.string s))) (some (.sc (.string t))) = some [.sc (.bool (Op.bytesLess s.toList t.toList || decide (s = t)))]:=by simp [eBin,binG,strF,sc1]
theorem e_sge {c : Bool} {s t : ByteArray} : eBin .geq c (some (.sc (.string s))) (some (.sc (.string t))) = some [.sc (.bool (!Op.bytesLess s.toList t.toList))]:=by simp [eBin,binG,strF,sc1]
end Go.Proofs.Ytkeoohonidpjeaa
namespace Go.Proofs.Ytkeoohonidpjeaa
open Int (reduceNeg reduceSub reduceMul reduceLT reduceLE reduceEq reduceToNat)
open Go.RowKit
set_option maxRecDepth 100000
def encS (s : ByteArray) : List DV:=[.sc (.string s)]
def encZ (n : Int) : List DV:=[.sc (.int .i64 n)]
def encSs (l : List ByteArray) : DV:=.sl 9 1 (l.map encS)
theorem ix_s {t : Nat} {l : List ByteArray} {kd : IntKind} {z : Int} (h : 0≤z) (h1 : z < l.length) : eIdx 1 (some (.sl t 1 (l.map encS))) (some (.sc (.int kd z))) = some [.sc (.string (l.getD z.toNat default))]:=e_idx_map (fun _=>rfl) h h1
theorem ix_z {t : Nat} {l : List Int} {kd : IntKind} {z : Int} (h : 0≤z) (h1 : z < l.length) : eIdx 1 (some (.sl t 1 (l.map encZ))) (some (.sc (.int kd z))) = some [.sc (.int .i64 (l.getD z.toNat default))]:=e_idx_map (fun _=>rfl) h h1
theorem st_s {t : Nat} {l : List ByteArray} {kd : IntKind} {z : Int} {s : ByteArray} (h : 0≤z) (h1 : z < l.length) : eSet 1 0 (some (.sl t 1 (l.map encS))) (some (.sc (.int kd z))) (some [.sc (.string s)]) = some [.sl t 1 ((l.set z.toNat s).map encS)]:=by
  rw [e_set_map (e:=encS) (fun _=>rfl) h h1 rfl,List.map_set];rfl
theorem st_z {t : Nat} {l : List Int} {kd : IntKind} {z n : Int} (h : 0≤z) (h1 : z < l.length) : eSet 1 0 (some (.sl t 1 (l.map encZ))) (some (.sc (.int kd z))) (some [.sc (.int .i64 n)]) = some [.sl t 1 ((l.set z.toNat n).map encZ)]:=by
  rw [e_set_map (e:=encZ) (fun _=>rfl) h h1 rfl,List.map_set];rfl
theorem fl_s {t k : Nat} {l : List ByteArray} : eFlat (some (.sl t k (l.map encS))) = some []:=e_flat_map fun _=>rfl
theorem fl_z {t k : Nat} {l : List Int} : eFlat (some (.sl t k (l.map encZ))) = some []:=e_flat_map fun _=>rfl
theorem fl1_s {t : Nat} {s : ByteArray} : eFlat (some (.sl t 1 [[.sc (.string s)]])) = some []:=rfl
theorem fl1_z {t : Nat} {kd : IntKind} {n : Int} : eFlat (some (.sl t 1 [[.sc (.int kd n)]])) = some []:=rfl
theorem map_s (l : List ByteArray) (s : ByteArray) : l.map encS ++ [[.sc (.string s)]] = (l ++ [s]).map encS:=by rw [List.map_append];rfl
theorem map_z (l : List Int) (n : Int) : l.map encZ ++ [[.sc (.int .i64 n)]] = (l ++ [n]).map encZ:=by rw [List.map_append];rfl
attribute [go_sem] e_sle e_sge e_shl1 e_orI e_andI e_shr wrapu wrap8 tn1 ix_s ix_z st_s st_z fl_s fl_z fl1_s fl1_z map_s map_z
theorem textIndex_m (t : Nat) (l : List ByteArray) (s : ByteArray) (hl : l.length≤100000000000) : Meets Try.prog 59 [(false,[.sl t 1 (l.map encS)]),(false,[.sc (.string s)])] [(false,[.sc (.int .i64 (find1 l s))],true)]:=by
  refine meets_upf Try.func59 u_impl_textIndex_g rfl ?_;simp only [u_impl_textIndex_u]
  simp (disch:=first | omega | (simp only [lnA];omega) | simp only [lnB,Nat.reduceAdd]) only [go_sem,↓reduceIte,Nat.reduceAdd,reduceNeg,Int.reduceAdd,reduceSub,reduceMul,reduceLT,reduceLE,reduceEq,reduceToNat,Nat.reduceBEq,true_and]
  refine lp (fun i : Nat=>[.sc (.int .i64 i)]) (fun i=>i≤l.length∧allB (fun j=>!decide (l.getD j default = s)) i = true) (fun i=>l.length - i) 0 rfl ⟨by omega,rfl⟩ ?_
  rintro i ⟨hi,hb⟩
  simp only [u_impl_textIndex_l0]
  repeat' (first | (with_reducible first | refine jn_in ?_ | refine cl_ok (by assumption) rfl ?_ | refine cl_okP (by assumption) rfl ?_ | refine br_x (fun hbr=>?_) fun hbr=>?_) | simp (disch:=first | omega | (simp only [lnA];omega) | simp only [lnB,Nat.reduceAdd]) only [go_sem,↓reduceIte,Nat.reduceAdd,reduceNeg,Int.reduceAdd,reduceSub,reduceMul,reduceLT,reduceLE,reduceEq,reduceToNat,Nat.reduceBEq,ix_s,nat1])
  · rw [find1_hit hb (by omega) ‹_›];rfl
  · exact ⟨i + 1,rfl,⟨by omega,allB_step hb (by simpa using ‹¬ l.getD i default = s›)⟩,by omega⟩
  · obtain rfl : i = l.length:=by omega
    rw [find1_miss hb];rfl
theorem hasText_m (t : Nat) (l : List ByteArray) (s : ByteArray) (hl : l.length≤100000000000) : Meets Try.prog 50 [(false,[.sl t 1 (l.map encS)]),(false,[.sc (.string s)])] [(false,[.sc (.bool (hasB l s))],true)]:=by
  have h:=textIndex_m t l s hl
  refine meets_upf Try.func50 u_impl_hasText_g rfl ?_;simp only [u_impl_hasText_u]
  repeat' (first | (with_reducible first | refine jn_in ?_ | refine cl_ok (by assumption) rfl ?_ | refine cl_okP (by assumption) rfl ?_ | refine br_x (fun hbr=>?_) fun hbr=>?_) | simp (disch:=first | omega | (simp only [lnA];omega) | simp only [lnB,Nat.reduceAdd]) only [go_sem,↓reduceIte,Nat.reduceAdd,reduceNeg,Int.reduceAdd,reduceSub,reduceMul,reduceLT,reduceLE,reduceEq,reduceToNat,Nat.reduceBEq,true_and])
  rfl
theorem implName_m (s : ByteArray) (hs : s.size≤100000000000) : Meets Try.prog 21 [(false,[.sc (.string s)])] [(false,[.sc (.bool (nameB s))],true)]:=by
  refine meets_upf Try.func21 u_impl_IsName_g rfl ?_;simp only [u_impl_IsName_u]
  simp (disch:=first | omega | (simp only [lnA];omega) | simp only [lnB,Nat.reduceAdd]) only [go_sem,↓reduceIte,Nat.reduceAdd,reduceNeg,Int.reduceAdd,reduceSub,reduceMul,reduceLT,reduceLE,reduceEq,reduceToNat,Nat.reduceBEq,true_and]
  refine lp (fun i : Nat=>[.sc (.int .i64 i)]) (fun i=>i≤s.size∧allB (nameC s) i = true) (fun i=>s.size - i) 0 rfl ⟨by omega,rfl⟩ ?_
  rintro i ⟨hi,hb⟩
  simp only [u_impl_IsName_l0]
  repeat' (first | (with_reducible first | refine jn_in ?_ | refine cl_ok (by assumption) rfl ?_ | refine cl_okP (by assumption) rfl ?_ | refine br_x (fun hbr=>?_) fun hbr=>?_) | simp (disch:=first | omega | (simp only [lnA];omega) | simp only [lnB,Nat.reduceAdd]) only [go_sem,↓reduceIte,Nat.reduceAdd,reduceNeg,Int.reduceAdd,reduceSub,reduceMul,reduceLT,reduceLE,reduceEq,reduceToNat,Nat.reduceBEq,nat1])
  · rw [nameB_no (i:=i) (by omega) (by simp [nameC];omega)];rfl
  · rw [nameB_no (i:=i) (by omega) (by simp [nameC];omega)];rfl
  · rw [nameB_no (i:=i) (by omega) (by simp [nameC];omega)];rfl
  · exact ⟨i + 1,rfl,⟨by omega,allB_step hb (by simp [nameC];omega)⟩,by omega⟩
  · obtain rfl : i = s.size:=by omega
    refine ret_b ?_
    unfold nameB;rw [hb,Bool.true_and,Bool.eq_iff_iff]
    simp;omega
  · obtain rfl : i = s.size:=by omega
    refine ret_b ?_
    unfold nameB;rw [hb,Bool.true_and,Bool.eq_iff_iff]
    simp;omega
theorem l1In_m (x lo hi : Int) : Meets Try.prog 58 [(false,[.sc (.int .i64 x)]),(false,[.sc (.int .i64 lo)]),(false,[.sc (.int .i64 hi)])] [(false,[.sc (.bool (decide (lo≤x∧x≤hi)))],true)]:=by
  refine meets_upf Try.func58 u_spec_l1In_g rfl ?_;simp only [u_spec_l1In_u]
  repeat' (first | (with_reducible first | refine jn_in ?_ | refine cl_ok (by assumption) rfl ?_ | refine cl_okP (by assumption) rfl ?_ | refine br_x (fun hbr=>?_) fun hbr=>?_) | simp (disch:=first | omega | (simp only [lnA];omega) | simp only [lnB,Nat.reduceAdd]) only [go_sem,↓reduceIte,Nat.reduceAdd,reduceNeg,Int.reduceAdd,reduceSub,reduceMul,reduceLT,reduceLE,reduceEq,reduceToNat,Nat.reduceBEq,true_and])
  all_goals (refine ret_b ?_;rw [Bool.eq_iff_iff];simp;omega)
theorem l1Find_m (t : Nat) (l : List ByteArray) (s : ByteArray) (hl : l.length≤100000000000) : Meets Try.prog 47 [(false,[.sl t 1 (l.map encS)]),(false,[.sc (.string s)])] [(false,[.sc (.int .i64 (find1 l s))],true)]:=by
  refine meets_upf Try.func47 u_spec_l1Find_g rfl ?_;simp only [u_spec_l1Find_u]
  simp (disch:=first | omega | (simp only [lnA];omega) | simp only [lnB,Nat.reduceAdd]) only [go_sem,↓reduceIte,Nat.reduceAdd,reduceNeg,Int.reduceAdd,reduceSub,reduceMul,reduceLT,reduceLE,reduceEq,reduceToNat,Nat.reduceBEq,true_and]
  refine lp (fun i : Nat=>[.sc (.int .i64 i)]) (fun i=>i≤l.length∧allB (fun j=>!decide (l.getD j default = s)) i = true) (fun i=>l.length - i) 0 rfl ⟨by omega,rfl⟩ ?_
  rintro i ⟨hi,hb⟩
  simp only [u_spec_l1Find_l0]
  repeat' (first | (with_reducible first | refine jn_in ?_ | refine cl_ok (by assumption) rfl ?_ | refine cl_okP (by assumption) rfl ?_ | refine br_x (fun hbr=>?_) fun hbr=>?_) | simp (disch:=first | omega | (simp only [lnA];omega) | simp only [lnB,Nat.reduceAdd]) only [go_sem,↓reduceIte,Nat.reduceAdd,reduceNeg,Int.reduceAdd,reduceSub,reduceMul,reduceLT,reduceLE,reduceEq,reduceToNat,Nat.reduceBEq,ix_s,nat1])
  · rw [find1_hit hb (by omega) ‹_›];rfl
  · exact ⟨i + 1,rfl,⟨by omega,allB_step hb (by simpa using ‹¬ l.getD i default = s›)⟩,by omega⟩
  · obtain rfl : i = l.length:=by omega
    rw [find1_miss hb];rfl
theorem l1Has_m (t : Nat) (l : List ByteArray) (s : ByteArray) (hl : l.length≤100000000000) : Meets Try.prog 19 [(false,[.sl t 1 (l.map encS)]),(false,[.sc (.string s)])] [(false,[.sc (.bool (hasB l s))],true)]:=by
  have h:=l1Find_m t l s hl
  refine meets_upf Try.func19 u_spec_l1Has_g rfl ?_;simp only [u_spec_l1Has_u]
  repeat' (first | (with_reducible first | refine jn_in ?_ | refine cl_ok (by assumption) rfl ?_ | refine cl_okP (by assumption) rfl ?_ | refine br_x (fun hbr=>?_) fun hbr=>?_) | simp (disch:=first | omega | (simp only [lnA];omega) | simp only [lnB,Nat.reduceAdd]) only [go_sem,↓reduceIte,Nat.reduceAdd,reduceNeg,Int.reduceAdd,reduceSub,reduceMul,reduceLT,reduceLE,reduceEq,reduceToNat,Nat.reduceBEq,true_and])
  rfl
theorem specName_m (s : ByteArray) (hs : s.size≤100000000000) : Meets Try.prog 42 [(false,[.sc (.string s)])] [(false,[.sc (.bool (nameB s))],true)]:=by
  have h:=l1In_m s.size 1 20
  refine meets_upf Try.func42 u_spec_IsName_g rfl ?_;simp only [u_spec_IsName_u]
  simp (disch:=first | omega | (simp only [lnA];omega) | simp only [lnB,Nat.reduceAdd]) only [go_sem,↓reduceIte,Nat.reduceAdd,reduceNeg,Int.reduceAdd,reduceSub,reduceMul,reduceLT,reduceLE,reduceEq,reduceToNat,Nat.reduceBEq,true_and]
  refine lp (fun i : Nat=>[.sc (.int .i64 i)]) (fun i=>i≤s.size∧allB (nameC s) i = true) (fun i=>s.size - i) 0 rfl ⟨by omega,rfl⟩ ?_
  rintro i ⟨hi,hb⟩
  simp only [u_spec_IsName_l0]
  repeat' (first | (with_reducible first | refine jn_in ?_ | refine cl_ok (by assumption) rfl ?_ | refine cl_okP (by assumption) rfl ?_ | refine br_x (fun hbr=>?_) fun hbr=>?_) | simp (disch:=first | omega | (simp only [lnA];omega) | simp only [lnB,Nat.reduceAdd]) only [go_sem,↓reduceIte,Nat.reduceAdd,reduceNeg,Int.reduceAdd,reduceSub,reduceMul,reduceLT,reduceLE,reduceEq,reduceToNat,Nat.reduceBEq,nat1])
  · rw [nameB_no (i:=i) (by omega) (by simp [nameC];omega)];rfl
  · rw [nameB_no (i:=i) (by omega) (by simp [nameC];omega)];rfl
  · rw [nameB_no (i:=i) (by omega) (by simp [nameC];omega)];rfl
  · exact ⟨i + 1,rfl,⟨by omega,allB_step hb (by simp [nameC];omega)⟩,by omega⟩
  · obtain rfl : i = s.size:=by omega
    refine ret_b ?_
    unfold nameB;rw [hb,Bool.true_and,Bool.eq_iff_iff]
    simp;omega
def letB (b : Int) : Bool:=decide (97≤b∧b≤122) || decide (65≤b∧b≤90)
def digB (b : Int) : Bool:=decide (48≤b∧b≤57)
theorem isLetter_m (b : Int) : Meets Try.prog 35 [(false,[.sc (.int .u8 b)])] [(false,[.sc (.bool (letB b))],true)]:=by
  refine meets_upf Try.func35 u_impl_isLetter_g rfl ?_;simp only [u_impl_isLetter_u]
  repeat' (first | (with_reducible first | refine jn_in ?_ | refine cl_ok (by assumption) rfl ?_ | refine cl_okP (by assumption) rfl ?_ | refine br_x (fun hbr=>?_) fun hbr=>?_) | simp (disch:=first | omega | (simp only [lnA];omega) | simp only [lnB,Nat.reduceAdd]) only [go_sem,↓reduceIte,Nat.reduceAdd,reduceNeg,Int.reduceAdd,reduceSub,reduceMul,reduceLT,reduceLE,reduceEq,reduceToNat,Nat.reduceBEq,true_and])
  all_goals (refine ret_b ?_;unfold letB;rw [Bool.eq_iff_iff];simp;omega)
theorem l1Letter_m (b : Int) : Meets Try.prog 43 [(false,[.sc (.int .u8 b)])] [(false,[.sc (.bool (letB b))],true)]:=by
  refine meets_upf Try.func43 u_spec_l1Letter_g rfl ?_;simp only [u_spec_l1Letter_u]
  repeat' (first | (with_reducible first | refine jn_in ?_ | refine cl_ok (by assumption) rfl ?_ | refine cl_okP (by assumption) rfl ?_ | refine br_x (fun hbr=>?_) fun hbr=>?_) | simp (disch:=first | omega | (simp only [lnA];omega) | simp only [lnB,Nat.reduceAdd]) only [go_sem,↓reduceIte,Nat.reduceAdd,reduceNeg,Int.reduceAdd,reduceSub,reduceMul,reduceLT,reduceLE,reduceEq,reduceToNat,Nat.reduceBEq,true_and])
  all_goals (refine ret_b ?_;unfold letB;rw [Bool.eq_iff_iff];simp;omega)
theorem isDigit_m (b : Int) : Meets Try.prog 31 [(false,[.sc (.int .u8 b)])] [(false,[.sc (.bool (digB b))],true)]:=by
  refine meets_upf Try.func31 u_impl_isDigit_g rfl ?_;simp only [u_impl_isDigit_u]
  repeat' (first | (with_reducible first | refine jn_in ?_ | refine cl_ok (by assumption) rfl ?_ | refine cl_okP (by assumption) rfl ?_ | refine br_x (fun hbr=>?_) fun hbr=>?_) | simp (disch:=first | omega | (simp only [lnA];omega) | simp only [lnB,Nat.reduceAdd]) only [go_sem,↓reduceIte,Nat.reduceAdd,reduceNeg,Int.reduceAdd,reduceSub,reduceMul,reduceLT,reduceLE,reduceEq,reduceToNat,Nat.reduceBEq,true_and])
  all_goals (refine ret_b ?_;unfold digB;rw [Bool.eq_iff_iff];simp;omega)
theorem l1Digit_m (b : Int) : Meets Try.prog 39 [(false,[.sc (.int .u8 b)])] [(false,[.sc (.bool (digB b))],true)]:=by
  refine meets_upf Try.func39 u_spec_l1Digit_g rfl ?_;simp only [u_spec_l1Digit_u]
  repeat' (first | (with_reducible first | refine jn_in ?_ | refine cl_ok (by assumption) rfl ?_ | refine cl_okP (by assumption) rfl ?_ | refine br_x (fun hbr=>?_) fun hbr=>?_) | simp (disch:=first | omega | (simp only [lnA];omega) | simp only [lnB,Nat.reduceAdd]) only [go_sem,↓reduceIte,Nat.reduceAdd,reduceNeg,Int.reduceAdd,reduceSub,reduceMul,reduceLT,reduceLE,reduceEq,reduceToNat,Nat.reduceBEq,true_and])
  all_goals (refine ret_b ?_;unfold digB;rw [Bool.eq_iff_iff];simp;omega)
def resL : List ByteArray:=[⟨#[105,102]⟩,⟨#[101,108,115,101]⟩,⟨#[102,111,114]⟩,⟨#[105,110]⟩,⟨#[119,104,105,108,101]⟩,⟨#[98,114,101,97,107]⟩,⟨#[110,101,120,116]⟩,⟨#[102,117,110,99,116,105,111,110]⟩,⟨#[114,101,116,117,114,110]⟩,⟨#[84,82,85,69]⟩,⟨#[70,65,76,83,69]⟩,⟨#[78,85,76,76]⟩,⟨#[78,65]⟩,
  ⟨#[78,65,95,110,117,109,98,101,114,95]⟩,⟨#[78,65,95,99,104,97,114,97,99,116,101,114,95]⟩,⟨#[116,114,121,67,97,116,99,104]⟩,⟨#[119,105,116,104,67,97,108,108,105,110,103,72,97,110,100,108,101,114,115]⟩,⟨#[119,105,116,104,82,101,115,116,97,114,116]⟩,⟨#[105,110,118,111,107,101,82,101,115,116,97,114,116]⟩,⟨#[109,105,115,115,105,110,103]⟩,⟨#[111,110,46,101,120,105,116]⟩,⟨#[85,115,101,77,101,116,104,111,100]⟩,⟨#[78,101,120,116,77,101,116,104,111,100]⟩]
def resB (s : ByteArray) : Bool:=hasB resL s
theorem l1Reserved_m (s : ByteArray) : Meets Try.prog 44 [(false,[.sc (.string s)])] [(false,[.sc (.bool (resB s))],true)]:=by
  have h:=l1Has_m 9 resL s (by decide)
  simp only [resL,List.map_cons,List.map_nil,encS] at h
  refine meets_upf Try.func44 u_spec_l1Reserved_g rfl ?_;simp only [u_spec_l1Reserved_u]
  repeat' (first | (with_reducible first | refine jn_in ?_ | refine cl_ok (by assumption) rfl ?_ | refine cl_okP (by assumption) rfl ?_ | refine br_x (fun hbr=>?_) fun hbr=>?_) | simp (disch:=first | omega | (simp only [lnA];omega) | simp only [lnB,Nat.reduceAdd]) only [go_sem,↓reduceIte,Nat.reduceAdd,reduceNeg,Int.reduceAdd,reduceSub,reduceMul,reduceLT,reduceLE,reduceEq,reduceToNat,Nat.reduceBEq,true_and])
  rfl
theorem isReserved_m (s : ByteArray) : Meets Try.prog 49 [(false,[.sc (.string s)])] [(false,[.sc (.bool (resB s))],true)]:=by
  refine meets_upf Try.func49 u_impl_isReserved_g rfl ?_;simp only [u_impl_isReserved_u]
  repeat' (first | (with_reducible first | refine jn_in ?_ | refine cl_ok (by assumption) rfl ?_ | refine cl_okP (by assumption) rfl ?_ | refine br_x (fun hbr=>?_) fun hbr=>?_) | simp (disch:=first | omega | (simp only [lnA];omega) | simp only [lnB,Nat.reduceAdd]) only [go_sem,↓reduceIte,Nat.reduceAdd,reduceNeg,Int.reduceAdd,reduceSub,reduceMul,reduceLT,reduceLE,reduceEq,reduceToNat,Nat.reduceBEq,u_impl_isReserved_j0])
  all_goals refine ret_b ?_
  all_goals first
    | contradiction
    | (rw [Bool.eq_false_iff];unfold resB;rw [ne_eq,hasB_iff];simp only [resL,List.mem_cons,List.not_mem_nil,or_false,not_or];simp only [*,not_false_eq_true,and_self];done)
    | (unfold resB;rw [hasB_iff];simp only [resL,List.mem_cons, *,true_or,or_true];done)
    | skip
def synC (s : ByteArray) (i : Nat) : Bool:=letB (byteAt s i) || (decide (byteAt s i = 46) || (!decide (i = 0) && (digB (byteAt s i) || decide (byteAt s i = 95))))
def synI (s : ByteArray) (i : Nat) : Bool:=letB (byteAt s i) || (digB (byteAt s i) || (decide (byteAt s i = 46) || decide (byteAt s i = 95)))
def synB (s : ByteArray) : Bool:=nameB s && (!resB s && (allB (synC s) s.size && !(decide (byteAt s 0 = 46) && (decide (1 < s.size) && digB (byteAt s 1)))))
theorem synB_no {s : ByteArray} {i : Nat} (h : i < s.size) (hp : synC s i = false) : synB s = false:=by unfold synB;rw [allB_no h hp];simp
theorem synB_name {s : ByteArray} (h : synB s = true) : nameB s = true:=by unfold synB at h;simp only [Bool.and_eq_true] at h;exact h.1
set_option maxHeartbeats 2000000 in
theorem specSyn_m (s : ByteArray) (hs : s.size≤100000000000) : Meets Try.prog 45 [(false,[.sc (.string s)])] [(false,[.sc (.bool (synB s))],true)]:=by
  have h1:=fun i=>l1Letter_m (byteAt s i)
  have h2:=fun i=>l1Digit_m (byteAt s i)
  have h3:=specName_m s (by omega)
  have h4:=l1Reserved_m s
  refine meets_upf Try.func45 u_spec_IsSyntacticName_g rfl ?_;simp only [u_spec_IsSyntacticName_u]
  simp (disch:=first | omega | (simp only [lnA];omega) | simp only [lnB,Nat.reduceAdd]) only [go_sem,↓reduceIte,Nat.reduceAdd,reduceNeg,Int.reduceAdd,reduceSub,reduceMul,reduceLT,reduceLE,reduceEq,reduceToNat,Nat.reduceBEq,nat1,true_and]
  refine lp (fun i : Nat=>[.sc (.int .i64 i)]) (fun i=>i≤s.size∧allB (synC s) i = true) (fun i=>s.size - i) 0 rfl ⟨by omega,rfl⟩ ?_
  rintro i ⟨hi,hb⟩
  have h1i:=h1 i
  have h2i:=h2 i
  have h20:=h2 1
  simp only [u_spec_IsSyntacticName_l1]
  by_cases hlt : i < s.size
  · repeat' (first | (with_reducible first | refine jn_in ?_ | refine cl_ok (by assumption) rfl ?_ | refine cl_okP (by assumption) rfl ?_ | refine br_x (fun hbr=>?_) fun hbr=>?_) | simp (disch:=first | omega | (simp only [lnA];omega) | simp only [lnB,Nat.reduceAdd]) only [go_sem,↓reduceIte,Nat.reduceAdd,reduceNeg,Int.reduceAdd,reduceSub,reduceMul,reduceLT,reduceLE,reduceEq,reduceToNat,Nat.reduceBEq,nat1,u_spec_IsSyntacticName_j0])
    all_goals first | omega | exact ret_b (synB_no (i:=i) hlt (by (first | (simp [-List.getD_eq_getElem?_getD,synC, *];done) | (simp_all [-List.getD_eq_getElem?_getD,synC];done) | (simp [-List.getD_eq_getElem?_getD,synC, *];omega) | (simp_all [-List.getD_eq_getElem?_getD,synC];omega) | omega))) | exact ⟨i + 1,rfl,⟨by omega,allB_step hb (by (first | (simp [-List.getD_eq_getElem?_getD,synC, *];done) | (simp_all [-List.getD_eq_getElem?_getD,synC];done) | (simp [-List.getD_eq_getElem?_getD,synC, *];omega) | (simp_all [-List.getD_eq_getElem?_getD,synC];omega) | omega))⟩,by omega⟩ | skip
  · obtain rfl : i = s.size:=by omega
    simp (disch:=first | omega | (simp only [lnA];omega) | simp only [lnB,Nat.reduceAdd]) only [go_sem,↓reduceIte,Nat.reduceAdd,reduceNeg,Int.reduceAdd,reduceSub,reduceMul,reduceLT,reduceLE,reduceEq,reduceToNat,Nat.reduceBEq,nat1,true_and]
    refine br_if (fun hbr=>?_) (fun hbr=>?_)
    · omega
    simp (disch:=first | omega | (simp only [lnA];omega) | simp only [lnB,Nat.reduceAdd]) only [go_sem,↓reduceIte,Nat.reduceAdd,reduceNeg,Int.reduceAdd,reduceSub,reduceMul,reduceLT,reduceLE,reduceEq,reduceToNat,Nat.reduceBEq,nat1,true_and]
    refine cl_ok h3 rfl ?_
    cases hn : nameB s
    · simp (disch:=first | omega | (simp only [lnA];omega) | simp only [lnB,Nat.reduceAdd]) only [go_sem,↓reduceIte,Nat.reduceAdd,reduceNeg,Int.reduceAdd,reduceSub,reduceMul,reduceLT,reduceLE,reduceEq,reduceToNat,Nat.reduceBEq,nat1,true_and]
      exact ret_b (by unfold synB;rw [hn];rfl)
    have hsz:=nameB_size hn
    rcases Nat.lt_or_ge 1 s.size with h1s | h1s
    · repeat' (first | (with_reducible first | refine jn_in ?_ | refine cl_ok (by assumption) rfl ?_ | refine cl_okP (by assumption) rfl ?_ | refine br_x (fun hbr=>?_) fun hbr=>?_) | simp (disch:=first | omega | (simp only [lnA];omega) | simp only [lnB,Nat.reduceAdd]) only [go_sem,↓reduceIte,Nat.reduceAdd,reduceNeg,Int.reduceAdd,reduceSub,reduceMul,reduceLT,reduceLE,reduceEq,reduceToNat,Nat.reduceBEq,nat1,true_and])
      all_goals first | omega | (refine ret_b ?_;unfold synB;rw [hn,hb];simp_all)
      all_goals (first | omega | assumption | contradiction | (intro hh;omega) | (left;omega) | (right;omega) | (right;assumption) | (left;assumption))
    · repeat' (first | (with_reducible first | refine jn_in ?_ | refine cl_ok (by assumption) rfl ?_ | refine cl_okP (by assumption) rfl ?_ | refine br_x (fun hbr=>?_) fun hbr=>?_) | simp (disch:=first | omega | (simp only [lnA];omega) | simp only [lnB,Nat.reduceAdd]) only [go_sem,↓reduceIte,Nat.reduceAdd,reduceNeg,Int.reduceAdd,reduceSub,reduceMul,reduceLT,reduceLE,reduceEq,reduceToNat,Nat.reduceBEq,nat1,true_and])
      all_goals first | omega | (refine ret_b ?_;unfold synB;rw [hn,hb];simp_all)
      all_goals (first | omega | assumption | contradiction | (intro hh;omega) | (left;omega) | (right;omega) | (right;assumption) | (left;assumption))
theorem synI_C {s : ByteArray} (h0 : 0 < s.size) (h : letB (byteAt s 0) = true ∨ byteAt s 0 = 46) {n : Nat} : allB (synI s) n = allB (synC s) n:=by
  refine allB_congr fun i hi=>?_
  unfold synI synC
  by_cases hz : i = 0
  · subst hz
    rcases h with h | h
    · rw [h];rfl
    · simp [h]
  · simp only [hz,decide_false,Bool.not_false,Bool.true_and]
    cases letB (byteAt s i) <;> cases digB (byteAt s i) <;> cases decide (byteAt s i = 46) <;> simp
set_option maxHeartbeats 2000000 in
theorem implSyn_m (s : ByteArray) (hs : s.size≤100000000000) : Meets Try.prog 37 [(false,[.sc (.string s)])] [(false,[.sc (.bool (synB s))],true)]:=by
  have h1:=fun i=>isLetter_m (byteAt s i)
  have h2:=fun i=>isDigit_m (byteAt s i)
  have h3:=implName_m s (by omega)
  have h4:=isReserved_m s
  cases hn : nameB s
  · rw [hn] at h3
    refine meets_upf Try.func37 u_impl_IsSyntacticName_g rfl ?_;simp only [u_impl_IsSyntacticName_u]
    repeat' (first | (with_reducible first | refine jn_in ?_ | refine cl_ok (by assumption) rfl ?_ | refine cl_okP (by assumption) rfl ?_ | refine br_x (fun hbr=>?_) fun hbr=>?_) | simp (disch:=first | omega | (simp only [lnA];omega) | simp only [lnB,Nat.reduceAdd]) only [go_sem,↓reduceIte,Nat.reduceAdd,reduceNeg,Int.reduceAdd,reduceSub,reduceMul,reduceLT,reduceLE,reduceEq,reduceToNat,Nat.reduceBEq,u_impl_IsSyntacticName_j3])
    exact ret_b (by unfold synB;rw [hn];rfl)
  rw [hn] at h3
  have hsz:=nameB_size hn
  have h10:=h1 0
  have h21:=h2 1
  have hcg:=@synI_C s (by omega)
  have key : ∀ c0 c1 c2,(letB (byteAt s 0) = true ∨ byteAt s 0 = 46)→resB s = false→(byteAt s 0 = 46→1 < s.size→digB (byteAt s 1) = false)→V Try.prog (isRes [(false,[.sc (.bool (synB s))],true)]) (.loop [0] u_impl_IsSyntacticName_l1) [] [.sc (.int .i64 0),c0,c1,c2,.sc (.string s)]:=by
    intro c0 c1 c2 k1 k2 k3
    have hcg:=@synI_C s (by omega) k1
    refine lp (fun i : Nat=>[.sc (.int .i64 i)]) (fun i=>i≤s.size∧allB (synI s) i = true) (fun i=>s.size - i) 0 rfl ⟨by omega,rfl⟩ ?_
    rintro i ⟨hi,hb⟩
    have h1i:=h1 i
    have h2i:=h2 i
    simp only [u_impl_IsSyntacticName_l1]
    by_cases hlt : i < s.size
    · repeat' (first | (with_reducible first | refine jn_in ?_ | refine cl_ok (by assumption) rfl ?_ | refine cl_okP (by assumption) rfl ?_ | refine br_x (fun hbr=>?_) fun hbr=>?_) | simp (disch:=first | omega | (simp only [lnA];omega) | simp only [lnB,Nat.reduceAdd]) only [go_sem,↓reduceIte,Nat.reduceAdd,reduceNeg,Int.reduceAdd,reduceSub,reduceMul,reduceLT,reduceLE,reduceEq,reduceToNat,Nat.reduceBEq,nat1,u_impl_IsSyntacticName_j0])
      all_goals first | omega | exact ⟨i + 1,rfl,⟨by omega,allB_step hb (by (first | (simp [-List.getD_eq_getElem?_getD,synI, *];done) | (simp_all [-List.getD_eq_getElem?_getD,synI];done) | (simp [-List.getD_eq_getElem?_getD,synI, *];omega) | (simp_all [-List.getD_eq_getElem?_getD,synI];omega) | omega))⟩,by omega⟩ | skip
      refine ret_b ?_
      unfold synB
      rw [← hcg (n:=s.size),allB_no hlt (by (first | (simp [-List.getD_eq_getElem?_getD,synI, *];done) | (simp_all [-List.getD_eq_getElem?_getD,synI];done) | (simp [-List.getD_eq_getElem?_getD,synI, *];omega) | (simp_all [-List.getD_eq_getElem?_getD,synI];omega) | omega))];simp
    · obtain rfl : i = s.size:=by omega
      simp (disch:=first | omega | (simp only [lnA];omega) | simp only [lnB,Nat.reduceAdd]) only [go_sem,↓reduceIte,Nat.reduceAdd,reduceNeg,Int.reduceAdd,reduceSub,reduceMul,reduceLT,reduceLE,reduceEq,reduceToNat,Nat.reduceBEq,nat1,true_and]
      refine br_if (fun hbr=>absurd hbr (by omega)) (fun hbr=>?_)
      repeat' (first | (with_reducible first | refine jn_in ?_ | refine cl_ok (by assumption) rfl ?_ | refine cl_okP (by assumption) rfl ?_ | refine br_x (fun hbr=>?_) fun hbr=>?_) | simp (disch:=first | omega | (simp only [lnA];omega) | simp only [lnB,Nat.reduceAdd]) only [go_sem,↓reduceIte,Nat.reduceAdd,reduceNeg,Int.reduceAdd,reduceSub,reduceMul,reduceLT,reduceLE,reduceEq,reduceToNat,Nat.reduceBEq,nat1,true_and])
      · refine ret_b ?_
        rw [hcg] at hb
        unfold synB;rw [hn,hb,k2]
        by_cases e1 : byteAt s 0 = 46
        · by_cases e2 : 1 < s.size
          · simp [e1,e2,k3 e1 e2]
          · simp [e2]
        · simp [e1]
  refine meets_upf Try.func37 u_impl_IsSyntacticName_g rfl ?_;simp only [u_impl_IsSyntacticName_u]
  repeat' (first | (with_reducible first | refine jn_in ?_ | refine cl_ok (by assumption) rfl ?_ | refine cl_okP (by assumption) rfl ?_ | refine br_x (fun hbr=>?_) fun hbr=>?_) | simp (disch:=first | omega | (simp only [lnA];omega) | simp only [lnB,Nat.reduceAdd]) only [go_sem,↓reduceIte,Nat.reduceAdd,reduceNeg,Int.reduceAdd,reduceSub,reduceMul,reduceLT,reduceLE,reduceEq,reduceToNat,Nat.reduceBEq,nat1,u_impl_IsSyntacticName_j3,u_impl_IsSyntacticName_j2])
  all_goals first
    | omega
    | (refine key _ _ _ ?_ ‹resB s = false› ?_
       · first | exact .inl ‹letB _ = true› | (right;omega)
       · intro e1 e2;first | omega | exact ‹digB _ = false›)
    | skip
  all_goals first
    | exact ret_b (synB_no (i:=0) (by omega) (by (first | (simp [-List.getD_eq_getElem?_getD,synC, *];done) | (simp_all [-List.getD_eq_getElem?_getD,synC];done) | (simp [-List.getD_eq_getElem?_getD,synC, *];omega) | (simp_all [-List.getD_eq_getElem?_getD,synC];omega) | omega)))
    | (refine ret_b ?_;unfold synB;rw [hn];simp_all)
  all_goals (intro _;exact ⟨by omega,by omega⟩)
def fmtName (s : ByteArray) : ByteArray:=if nameB s = true then (if synB s = true then s else ⟨#[96]⟩ ++ s ++ ⟨#[96]⟩) else ⟨#[]⟩
theorem fmtName_size (s : ByteArray) : (fmtName s).size≤22:=by
  unfold fmtName
  split
  · rename_i h
    have:=nameB_size h
    split
    · omega
    · simp only [ByteArray.size_append]
      have e : (⟨#[96]⟩ : ByteArray).size = 1:=rfl
      omega
  · exact Nat.zero_le _
theorem implFmtName_m (s : ByteArray) (hs : s.size≤100000000000) : Meets Try.prog 25 [(false,[.sc (.string s)])] [(false,[.sc (.string (fmtName s))],true)]:=by
  have h1:=implSyn_m s hs
  have h2:=implName_m s (by omega)
  have h3:=@synB_name s
  have hsz:=@nameB_size s
  have e : (⟨#[96]⟩ : ByteArray).size = 1:=rfl
  unfold fmtName
  cases hn : nameB s
  · rw [hn] at h2 h3
    have hy : synB s = false:=by cases h : synB s <;> simp_all
    rw [hy] at h1
    refine meets_upf Try.func25 u_impl_FormatName_g rfl ?_;simp only [u_impl_FormatName_u]
    repeat' (first | (with_reducible first | refine jn_in ?_ | refine cl_ok (by assumption) rfl ?_ | refine cl_okP (by assumption) rfl ?_ | refine br_x (fun hbr=>?_) fun hbr=>?_) | simp (disch:=first | omega | (simp only [lnA];omega) | simp only [lnB,Nat.reduceAdd]) only [go_sem,↓reduceIte,Nat.reduceAdd,reduceNeg,Int.reduceAdd,reduceSub,reduceMul,reduceLT,reduceLE,reduceEq,reduceToNat,Nat.reduceBEq,true_and])
    rfl
  · rw [hn] at h2
    have hsz:=hsz hn
    cases hy : synB s
    · rw [hy] at h1
      refine meets_upf Try.func25 u_impl_FormatName_g rfl ?_;simp only [u_impl_FormatName_u]
      repeat' (first | (with_reducible first | refine jn_in ?_ | refine cl_ok (by assumption) rfl ?_ | refine cl_okP (by assumption) rfl ?_ | refine br_x (fun hbr=>?_) fun hbr=>?_) | simp (disch:=first | omega | (simp only [lnA];omega) | simp only [lnB,Nat.reduceAdd]) only [go_sem,↓reduceIte,Nat.reduceAdd,reduceNeg,Int.reduceAdd,reduceSub,reduceMul,reduceLT,reduceLE,reduceEq,reduceToNat,Nat.reduceBEq,e_cat (show (⟨#[96]⟩ : ByteArray).size + s.size≤maxLen by unfold maxLen;omega),e_cat (show ((⟨#[96]⟩ : ByteArray) ++ s).size + (⟨#[96]⟩ : ByteArray).size≤maxLen by rw [ByteArray.size_append];unfold maxLen;omega)])
      rfl
    · rw [hy] at h1
      refine meets_upf Try.func25 u_impl_FormatName_g rfl ?_;simp only [u_impl_FormatName_u]
      repeat' (first | (with_reducible first | refine jn_in ?_ | refine cl_ok (by assumption) rfl ?_ | refine cl_okP (by assumption) rfl ?_ | refine br_x (fun hbr=>?_) fun hbr=>?_) | simp (disch:=first | omega | (simp only [lnA];omega) | simp only [lnB,Nat.reduceAdd]) only [go_sem,↓reduceIte,Nat.reduceAdd,reduceNeg,Int.reduceAdd,reduceSub,reduceMul,reduceLT,reduceLE,reduceEq,reduceToNat,Nat.reduceBEq,true_and])
      rfl
theorem specFmtName_m (s : ByteArray) (hs : s.size≤100000000000) : Meets Try.prog 53 [(false,[.sc (.string s)])] [(false,[.sc (.string (fmtName s))],true)]:=by
  have h1:=specSyn_m s hs
  have h2:=specName_m s (by omega)
  have hsz:=@nameB_size s
  have e : (⟨#[96]⟩ : ByteArray).size = 1:=rfl
  unfold fmtName
  cases hn : nameB s
  · rw [hn] at h2
    refine meets_upf Try.func53 u_spec_FormatName_g rfl ?_;simp only [u_spec_FormatName_u]
    repeat' (first | (with_reducible first | refine jn_in ?_ | refine cl_ok (by assumption) rfl ?_ | refine cl_okP (by assumption) rfl ?_ | refine br_x (fun hbr=>?_) fun hbr=>?_) | simp (disch:=first | omega | (simp only [lnA];omega) | simp only [lnB,Nat.reduceAdd]) only [go_sem,↓reduceIte,Nat.reduceAdd,reduceNeg,Int.reduceAdd,reduceSub,reduceMul,reduceLT,reduceLE,reduceEq,reduceToNat,Nat.reduceBEq,true_and])
    rfl
  · rw [hn] at h2
    have hsz:=hsz hn
    cases hy : synB s
    · rw [hy] at h1
      refine meets_upf Try.func53 u_spec_FormatName_g rfl ?_;simp only [u_spec_FormatName_u]
      repeat' (first | (with_reducible first | refine jn_in ?_ | refine cl_ok (by assumption) rfl ?_ | refine cl_okP (by assumption) rfl ?_ | refine br_x (fun hbr=>?_) fun hbr=>?_) | simp (disch:=first | omega | (simp only [lnA];omega) | simp only [lnB,Nat.reduceAdd]) only [go_sem,↓reduceIte,Nat.reduceAdd,reduceNeg,Int.reduceAdd,reduceSub,reduceMul,reduceLT,reduceLE,reduceEq,reduceToNat,Nat.reduceBEq,e_cat (show (⟨#[96]⟩ : ByteArray).size + s.size≤maxLen by unfold maxLen;omega),e_cat (show ((⟨#[96]⟩ : ByteArray) ++ s).size + (⟨#[96]⟩ : ByteArray).size≤maxLen by rw [ByteArray.size_append];unfold maxLen;omega)])
      rfl
    · rw [hy] at h1
      refine meets_upf Try.func53 u_spec_FormatName_g rfl ?_;simp only [u_spec_FormatName_u]
      repeat' (first | (with_reducible first | refine jn_in ?_ | refine cl_ok (by assumption) rfl ?_ | refine cl_okP (by assumption) rfl ?_ | refine br_x (fun hbr=>?_) fun hbr=>?_) | simp (disch:=first | omega | (simp only [lnA];omega) | simp only [lnB,Nat.reduceAdd]) only [go_sem,↓reduceIte,Nat.reduceAdd,reduceNeg,Int.reduceAdd,reduceSub,reduceMul,reduceLT,reduceLE,reduceEq,reduceToNat,Nat.reduceBEq,true_and])
      rfl
def encU (n : Nat) : List DV:=[.sc (.int .u8 (n : Int))]
def ofN (l : List Nat) : ByteArray:=strOfNums (l.map fun n : Nat=>(n : Int))
theorem ofN_data (l : List Nat) : (ofN l).data.toList = l.map UInt8.ofNat:=by
  unfold ofN;rw [strOfNums_data,List.map_map];rfl
theorem ofN_app (l m : List Nat) : ofN (l ++ m) = ofN l ++ ofN m:=by
  apply ByteArray.ext
  apply Array.ext'
  rw [ByteArray.data_append,Array.toList_append,ofN_data,ofN_data,ofN_data,List.map_append]
theorem ofN_size (l : List Nat) : (ofN l).size = l.length:=by
  unfold ofN;rw [strOfNums_size,List.length_map]
theorem nums_encU (l : List Nat) : numsOf (l.map encU) = some (l.map fun n : Nat=>(n : Int)):=by
  induction l with
  | nil=>rfl
  | cons n l ih=>simp only [List.map_cons,encU,numsOf];rw [ih]
theorem cvB_u {t : Nat} {l : List Nat} : eCvB (some (.sl t 1 (l.map encU))) = some [.sc (.string (ofN l))]:=e_cvB (nums_encU l)
theorem ix_u {t : Nat} {l : List Nat} {kd : IntKind} {z : Int} (h : 0≤z) (h1 : z < l.length) : eIdx 1 (some (.sl t 1 (l.map encU))) (some (.sc (.int kd z))) = some [.sc (.int .u8 (l.getD z.toNat default : Nat))]:=e_idx_map (fun _=>rfl) h h1
theorem st_u {t : Nat} {l : List Nat} {kd : IntKind} {z : Int} {n : Nat} (h : 0≤z) (h1 : z < l.length) : eSet 1 0 (some (.sl t 1 (l.map encU))) (some (.sc (.int kd z))) (some [.sc (.int .u8 (n : Int))]) = some [.sl t 1 ((l.set z.toNat n).map encU)]:=by
  rw [e_set_map (e:=encU) (fun _=>rfl) h h1 rfl,List.map_set];rfl
theorem map_u (l : List Nat) (n : Nat) : l.map encU ++ [[.sc (.int .u8 (n : Int))]] = (l ++ [n]).map encU:=by rw [List.map_append];rfl
theorem byte_mk {s : ByteArray} {i : Nat} (h : i < s.size) : s.extract i (i + 1) = ofN [byteAt s i]:=by
  apply ByteArray.ext
  apply Array.ext'
  rw [ofN_data,ByteArray.data_extract]
  have hd : i < s.data.size:=h
  have hb : byteAt s i = (s.data[i]).toNat:=by unfold byteAt;rw [getElem?_pos s i h];rfl
  rw [hb]
  apply List.ext_getElem
  · simp;omega
  · intro j h1 h2
    simp at h1 h2
    have : j = 0:=by omega
    subst this
    simp
def dgs (m : Nat) : List Nat:=if h : m = 0 then [] else dgs (m / 10) ++ [48 + m % 10]
termination_by m
decreasing_by omega
theorem dgs_zero : dgs 0 = []:=by rw [dgs];simp
theorem dgs_pos {m : Nat} (h : m ≠ 0) : dgs m = dgs (m / 10) ++ [48 + m % 10]:=by rw [dgs,dif_neg h]
theorem dgs_len (k : Nat) : ∀ m,m < 10 ^ k→(dgs m).length≤k:=by
  induction k with
  | zero => intro m h; have : m = 0 := by simpa using h
            subst this;rw [dgs_zero];exact Nat.zero_le _
  | succ k ih =>
    intro m h
    by_cases h0 : m = 0
    · subst h0;rw [dgs_zero];exact Nat.zero_le _
    · rw [dgs_pos h0,List.length_append,List.length_singleton]
      have:=ih (m / 10) (by rw [Nat.pow_succ] at h;omega)
      omega
theorem dgs_len19 {m : Nat} (h : m≤9223372036854775808) : (dgs m).length≤19:=dgs_len 19 m (Nat.lt_of_le_of_lt h (by decide))
def fmtIntL (n : Int) : List Nat:=if n = 0 then [48] else if n < 0 then 45 :: dgs n.natAbs else dgs n.natAbs
def fmtInt (n : Int) : ByteArray:=ofN (fmtIntL n)
theorem fmtIntL_len {n : Int} (h : In64 n) : (fmtIntL n).length≤20:=by
  have h2 : n.natAbs≤9223372036854775808:=by unfold In64 at h;omega
  have:=dgs_len19 h2
  unfold fmtIntL
  split
  · simp
  · split
    · simp;omega
    · omega
theorem absdiv {x : Int} : (x.tdiv 10).natAbs = x.natAbs / 10:=by rw [Int.natAbs_tdiv];rfl
theorem absmod {x : Int} : (x.tmod 10).natAbs = x.natAbs % 10:=by rw [Int.natAbs_tmod];rfl
def digS : ByteArray:=⟨#[48,49,50,51,52,53,54,55,56,57]⟩
theorem digS_at {d : Nat} (h : d < 10) : digS.extract d (d + 1) = ofN [48 + d]:=by
  have hs : d < digS.size:=h
  rw [byte_mk hs]
  have : ∀ k : Fin 10,byteAt digS k.val = 48 + k.val:=by decide
  rw [this ⟨d,h⟩]
set_option maxHeartbeats 1000000 in
theorem specFmtInt_m (n : Int) (hn : In64 n) : Meets Try.prog 56 [(false,[.sc (.int .i64 n)])] [(false,[.sc (.string (fmtInt n))],true)]:=by
  have hn' : -9223372036854775808≤n∧n≤9223372036854775807:=hn
  have hlen:=dgs_len19 (m:=n.natAbs) (by omega)
  refine meets_upf Try.func56 u_spec_FormatInt_g rfl ?_;simp only [u_spec_FormatInt_u]
  simp (disch:=first | omega | (simp only [lnA];omega) | simp only [lnB,Nat.reduceAdd]) only [go_sem,↓reduceIte,Nat.reduceAdd,reduceNeg,Int.reduceAdd,reduceSub,reduceMul,reduceLT,reduceLE,reduceEq,reduceToNat,Nat.reduceBEq,nat1,true_and]
  refine lp (fun s : Int × List Nat=>[.sc (.int .i64 s.1),.sc (.string (ofN s.2))]) (fun s=>s.1.natAbs≤9223372036854775808∧-9223372036854775808≤s.1∧s.1≤9223372036854775807∧dgs s.1.natAbs ++ s.2 = dgs n.natAbs) (fun s=>s.1.natAbs) (n,[]) rfl ⟨by simp only;omega,by simp only;omega,by simp only;omega,by simp⟩ ?_
  rintro ⟨x,acc⟩ ⟨g1,g2,g3,g4⟩
  simp only at g1 g2 g3 g4 ⊢
  simp only [u_spec_FormatInt_l1]
  by_cases hx : x = 0
  · subst hx
    rw [Int.natAbs_zero,dgs_zero,List.nil_append] at g4
    have hsz:=ofN_size acc
    rw [g4] at hsz ⊢
    have e1 : (⟨#[45]⟩ : ByteArray).size + (ofN (dgs n.natAbs)).size≤maxLen:=by
      have e : (⟨#[45]⟩ : ByteArray).size = 1:=rfl
      unfold maxLen;omega
    repeat' (first | (with_reducible first | refine jn_in ?_ | refine cl_ok (by assumption) rfl ?_ | refine cl_okP (by assumption) rfl ?_ | refine br_x (fun hbr=>?_) fun hbr=>?_) | simp (disch:=first | omega | (simp only [lnA];omega) | simp only [lnB,Nat.reduceAdd]) only [go_sem,↓reduceIte,Nat.reduceAdd,reduceNeg,Int.reduceAdd,reduceSub,reduceMul,reduceLT,reduceLE,reduceEq,reduceToNat,Nat.reduceBEq,nat1,e_cat e1])
    · exact ret_s (by unfold fmtInt fmtIntL;rw [if_pos ‹n = 0›];rfl)
    · refine ret_s ?_
      unfold fmtInt fmtIntL
      rw [if_neg ‹¬ n = 0›,if_pos ‹n < 0›]
      exact ofN_app [45] _
    · refine ret_s ?_
      unfold fmtInt fmtIntL
      rw [if_neg ‹¬ n = 0›,if_neg ‹¬ n < 0›]
  · have hd:=dgs_pos (m:=x.natAbs) (by omega)
    have a1:=@absdiv x
    have a2:=@absmod x
    have a3 : x.tmod 10 < 10∧-10 < x.tmod 10:=by omega
    have hl2 : acc.length≤19:=by
      have:=congrArg List.length g4
      rw [List.length_append] at this;omega
    have hsz:=ofN_size acc
    have hm10 : x.natAbs % 10 < 10:=Nat.mod_lt _ (by decide)
    have hdg:=digS_at hm10
    have e0 : (ofN [48 + x.natAbs % 10]).size = 1:=by rw [ofN_size];rfl
    have e1 : (ofN [48 + x.natAbs % 10]).size + (ofN acc).size≤maxLen:=by unfold maxLen;omega
    have happ : ofN [48 + x.natAbs % 10] ++ ofN acc = ofN ((48 + x.natAbs % 10) :: acc):=(ofN_app [48 + x.natAbs % 10] acc).symm
    have hne : ¬ (10 : Int) = 0:=by decide
    have hfin : ∀ y : Int,y = x.tdiv 10→(∃ a' : Int × List Nat,[DV.sc (.int .i64 y),.sc (.string (ofN ((48 + x.natAbs % 10) :: acc)))] = [.sc (.int .i64 a'.1),.sc (.string (ofN a'.2))]∧(a'.1.natAbs≤9223372036854775808∧-9223372036854775808≤a'.1∧a'.1≤9223372036854775807∧dgs a'.1.natAbs ++ a'.2 = dgs n.natAbs)∧a'.1.natAbs < x.natAbs):=by
      rintro y rfl
      refine ⟨(x.tdiv 10,(48 + x.natAbs % 10) :: acc),rfl,⟨by simp only;omega,by simp only;omega,by simp only;omega,?_⟩,by simp only;omega⟩
      rw [← g4,hd,a1];simp
    generalize hdd : x.natAbs % 10 = d at *
    by_cases hneg : x.tmod 10 < 0
    · have t1 : x.tmod 10 = -(d : Int):=by omega
      have c1 : (0 : Int) - -(d : Int) = (d : Int):=by omega
      have hcut : eCutS (some (.sc (.string ⟨#[48,49,50,51,52,53,54,55,56,57]⟩))) (some (some (d : Int))) (some (some ((d + 1 : Nat) : Int))) = some [.sc (.string (ofN [48 + d]))]:=by
        rw [e_cS (by omega) (by omega) (by show ((d + 1 : Nat) : Int)≤((10 : Nat) : Int);omega)]
        exact congrArg (fun z=>some [DV.sc (.string z)]) hdg
      repeat' (first | (with_reducible first | refine jn_in ?_ | refine cl_ok (by assumption) rfl ?_ | refine cl_okP (by assumption) rfl ?_ | refine br_x (fun hbr=>?_) fun hbr=>?_) | simp (disch:=first | omega | (simp only [lnA];omega) | simp only [lnB,Nat.reduceAdd]) only [go_sem,↓reduceIte,Nat.reduceAdd,reduceNeg,Int.reduceAdd,reduceSub,reduceMul,reduceLT,reduceLE,reduceEq,reduceToNat,Nat.reduceBEq,nat1,t1,c1,hcut,e_cat e1,happ,u_spec_FormatInt_j0])
      all_goals first | omega | exact hfin _ rfl
    · have t1 : x.tmod 10 = (d : Int):=by omega
      have hcut : eCutS (some (.sc (.string ⟨#[48,49,50,51,52,53,54,55,56,57]⟩))) (some (some (d : Int))) (some (some ((d + 1 : Nat) : Int))) = some [.sc (.string (ofN [48 + d]))]:=by
        rw [e_cS (by omega) (by omega) (by show ((d + 1 : Nat) : Int)≤((10 : Nat) : Int);omega)]
        exact congrArg (fun z=>some [DV.sc (.string z)]) hdg
      repeat' (first | (with_reducible first | refine jn_in ?_ | refine cl_ok (by assumption) rfl ?_ | refine cl_okP (by assumption) rfl ?_ | refine br_x (fun hbr=>?_) fun hbr=>?_) | simp (disch:=first | omega | (simp only [lnA];omega) | simp only [lnB,Nat.reduceAdd]) only [go_sem,↓reduceIte,Nat.reduceAdd,reduceNeg,Int.reduceAdd,reduceSub,reduceMul,reduceLT,reduceLE,reduceEq,reduceToNat,Nat.reduceBEq,nat1,t1,hcut,e_cat e1,happ,u_spec_FormatInt_j0])
      all_goals first | omega | exact hfin _ rfl
def swp (D : List Nat) (i : Nat) : List Nat:=(List.range D.length).map fun k=>if k < i ∨ D.length - 1 - k < i then D.getD (D.length - 1 - k) default else D.getD k default
theorem swp_len (D : List Nat) (i : Nat) : (swp D i).length = D.length:=by simp [swp]
theorem swp_at (D : List Nat) (i k : Nat) (h : k < D.length) : (swp D i)[k]? = some (if k < i ∨ D.length - 1 - k < i then D.getD (D.length - 1 - k) default else D.getD k default):=by
  unfold swp;rw [List.getElem?_map,List.getElem?_range h];rfl
theorem swp_getD (D : List Nat) (i k : Nat) (h : k < D.length) : (swp D i).getD k default = if k < i ∨ D.length - 1 - k < i then D.getD (D.length - 1 - k) default else D.getD k default:=by
  rw [List.getD_eq_getElem?_getD,swp_at D i k h];rfl
theorem swp_zero (D : List Nat) : swp D 0 = D:=by
  apply List.ext_getElem?
  intro k
  by_cases h : k < D.length
  · rw [swp_at D 0 k h,if_neg (by omega),getD_some h]
  · rw [List.getElem?_eq_none (by rw [swp_len];omega),List.getElem?_eq_none (by omega)]
theorem swp_step {D : List Nat} {i : Nat} (h : i < D.length - 1 - i) : ((swp D i).set i ((swp D i).getD (D.length - 1 - i) default)).set (D.length - 1 - i) ((swp D i).getD i default) = swp D (i + 1):=by
  apply List.ext_getElem?
  intro k
  by_cases hk : k < D.length
  · rw [List.getElem?_set,List.getElem?_set,swp_at D (i + 1) k hk,swp_at D i k hk,swp_getD D i i (by omega),swp_getD D i (D.length - 1 - i) (by omega)]
    by_cases e1 : D.length - 1 - i = k
    · subst e1
      rw [if_pos rfl,if_pos (by rw [List.length_set,swp_len];exact hk),if_neg (by omega),if_pos (by omega)]
      congr 2;omega
    · rw [if_neg e1]
      by_cases e2 : i = k
      · subst e2
        rw [if_pos rfl,if_pos (by rw [swp_len];exact hk),if_neg (by omega),if_pos (by omega)]
      · rw [if_neg e2]
        by_cases e3 : k < i ∨ D.length - 1 - k < i
        · rw [if_pos e3,if_pos (by omega)]
        · rw [if_neg e3,if_neg (by omega)]
  · rw [List.getElem?_eq_none (by simp [swp_len];omega),List.getElem?_eq_none (by rw [swp_len];omega)]
theorem swp_end {D : List Nat} {i : Nat} (h : ¬ i < D.length - 1 - i) : swp D i = D.reverse:=by
  apply List.ext_getElem?
  intro k
  by_cases hk : k < D.length
  · rw [swp_at D i k hk,List.getElem?_reverse hk]
    split
    · rw [getD_some (by omega)]
    · rw [← getD_some hk];congr 1;omega
  · rw [List.getElem?_eq_none (by rw [swp_len];omega),List.getElem?_eq_none (by simp;omega)]
set_option maxHeartbeats 2000000 in
theorem implFmtInt_m (n : Int) (hn : In64 n) : Meets Try.prog 48 [(false,[.sc (.int .i64 n)])] [(false,[.sc (.string (fmtInt n))],true)]:=by
  have hn' : -9223372036854775808≤n∧n≤9223372036854775807:=hn
  have hlen:=dgs_len19 (m:=n.natAbs) (by omega)
  refine meets_upf Try.func48 u_impl_FormatInt_g rfl ?_;simp only [u_impl_FormatInt_u]
  simp (disch:=first | omega | (simp only [lnA];omega) | simp only [lnB,Nat.reduceAdd]) only [go_sem,↓reduceIte,Nat.reduceAdd,reduceNeg,Int.reduceAdd,reduceSub,reduceMul,reduceLT,reduceLE,reduceEq,reduceToNat,Nat.reduceBEq,nat1,true_and]
  refine br_if (fun hn0=>?_) (fun hn0=>?_)
  · simp (disch:=first | omega | (simp only [lnA];omega) | simp only [lnB,Nat.reduceAdd]) only [go_sem,↓reduceIte,Nat.reduceAdd,reduceNeg,Int.reduceAdd,reduceSub,reduceMul,reduceLT,reduceLE,reduceEq,reduceToNat,Nat.reduceBEq,nat1,true_and]
    exact ret_s (by unfold fmtInt fmtIntL;rw [if_pos hn0];rfl)
  simp (disch:=first | omega | (simp only [lnA];omega) | simp only [lnB,Nat.reduceAdd]) only [go_sem,↓reduceIte,Nat.reduceAdd,reduceNeg,Int.reduceAdd,reduceSub,reduceMul,reduceLT,reduceLE,reduceEq,reduceToNat,Nat.reduceBEq,nat1,true_and]
  refine lp (fun s : Int × List Nat=>[.sc (.int .i64 s.1),.sl 5 1 (s.2.map encU)]) (fun s=>s.1.natAbs≤9223372036854775808∧-9223372036854775808≤s.1∧s.1≤9223372036854775807∧dgs s.1.natAbs ++ s.2.reverse = dgs n.natAbs) (fun s=>s.1.natAbs) (n,[]) rfl ⟨by simp only;omega,by simp only;omega,by simp only;omega,by simp⟩ ?_
  rintro ⟨x,acc⟩ ⟨g1,g2,g3,g4⟩
  simp only at g1 g2 g3 g4 ⊢
  simp only [u_impl_FormatInt_l3]
  have hl2 : acc.length≤19:=by
    have:=congrArg List.length g4
    rw [List.length_append,List.length_reverse] at this;omega
  by_cases hx : x = 0
  · subst hx
    rw [Int.natAbs_zero,dgs_zero,List.nil_append] at g4
    have m45 : acc.map encU ++ [[.sc (.int .u8 45)]] = (acc ++ [45]).map encU:=by rw [List.map_append];rfl
    have key : ∀ (J : List DV→Prop) (c0 c : DV) (D : List Nat),D.length≤20→D.reverse = fmtIntL n→V Try.prog (isRes [(false,[.sc (.string (fmtInt n))],true)]) u_impl_FormatInt_j2 [J] [.sl 5 1 (D.map encU),c0,c]:=by
      intro J c0 c D hD hrev
      simp only [u_impl_FormatInt_j2]
      simp (disch:=first | omega | (simp only [lnA];omega) | simp only [lnB,Nat.reduceAdd]) only [go_sem,↓reduceIte,Nat.reduceAdd,reduceNeg,Int.reduceAdd,reduceSub,reduceMul,reduceLT,reduceLE,reduceEq,reduceToNat,Nat.reduceBEq,nat1,true_and]
      refine lp (fun i : Nat=>[.sc (.int .i64 ((D.length : Int) - 1 - i)),.sc (.int .i64 i),.sl 5 1 ((swp D i).map encU)]) (fun i=>2 * i≤D.length) (fun i=>D.length - i) 0 (by simp [gL,swp_zero]) (by omega) ?_
      intro i hi
      have hsl:=swp_len D i
      simp only [u_impl_FormatInt_l1]
      by_cases hlt : i < D.length - 1 - i
      · have hj : (D.length : Int) - 1 - i = ((D.length - 1 - i : Nat) : Int):=by omega
        have hst:=swp_step hlt
        have hj2 : ((D.length - 1 - i : Nat) : Int) - 1 = (D.length : Int) - 1 - ((i + 1 : Nat) : Int):=by omega
        rw [hj]
        generalize D.length - 1 - i = j at *
        repeat' (first | (with_reducible first | refine jn_in ?_ | refine cl_ok (by assumption) rfl ?_ | refine cl_okP (by assumption) rfl ?_ | refine br_x (fun hbr=>?_) fun hbr=>?_) | simp (disch:=first | omega | (simp only [lnA];omega) | simp only [lnB,Nat.reduceAdd]) only [go_sem,↓reduceIte,Nat.reduceAdd,reduceNeg,Int.reduceAdd,reduceSub,reduceMul,reduceLT,reduceLE,reduceEq,reduceToNat,Nat.reduceBEq,nat1,ix_u,st_u,List.length_set,hsl,hst,hj2])
        · exact ⟨i + 1,rfl,by omega,by omega⟩
        · omega
      · have he:=swp_end hlt
        repeat' (first | (with_reducible first | refine jn_in ?_ | refine cl_ok (by assumption) rfl ?_ | refine cl_okP (by assumption) rfl ?_ | refine br_x (fun hbr=>?_) fun hbr=>?_) | simp (disch:=first | omega | (simp only [lnA];omega) | simp only [lnB,Nat.reduceAdd]) only [go_sem,↓reduceIte,Nat.reduceAdd,reduceNeg,Int.reduceAdd,reduceSub,reduceMul,reduceLT,reduceLE,reduceEq,reduceToNat,Nat.reduceBEq,nat1,cvB_u,he,hrev])
        · omega
        · rfl
    simp (disch:=first | omega | (simp only [lnA];omega) | simp only [lnB,Nat.reduceAdd]) only [go_sem,↓reduceIte,Nat.reduceAdd,reduceNeg,Int.reduceAdd,reduceSub,reduceMul,reduceLT,reduceLE,reduceEq,reduceToNat,Nat.reduceBEq,nat1,true_and]
    by_cases hneg : n < 0
    · repeat' (first | (with_reducible first | refine jn_in ?_ | refine cl_ok (by assumption) rfl ?_ | refine cl_okP (by assumption) rfl ?_ | refine br_x (fun hbr=>?_) fun hbr=>?_) | simp (disch:=first | omega | (simp only [lnA];omega) | simp only [lnB,Nat.reduceAdd]) only [go_sem,↓reduceIte,Nat.reduceAdd,reduceNeg,Int.reduceAdd,reduceSub,reduceMul,reduceLT,reduceLE,reduceEq,reduceToNat,Nat.reduceBEq,nat1,hneg,m45])
      exact key _ _ _ (acc ++ [45]) (by simp;omega) (by rw [List.reverse_append,g4];unfold fmtIntL;rw [if_neg hn0,if_pos hneg];rfl)
    · repeat' (first | (with_reducible first | refine jn_in ?_ | refine cl_ok (by assumption) rfl ?_ | refine cl_okP (by assumption) rfl ?_ | refine br_x (fun hbr=>?_) fun hbr=>?_) | simp (disch:=first | omega | (simp only [lnA];omega) | simp only [lnB,Nat.reduceAdd]) only [go_sem,↓reduceIte,Nat.reduceAdd,reduceNeg,Int.reduceAdd,reduceSub,reduceMul,reduceLT,reduceLE,reduceEq,reduceToNat,Nat.reduceBEq,nat1,hneg,m45])
      exact key _ _ _ acc (by omega) (by rw [g4];unfold fmtIntL;rw [if_neg hn0,if_neg hneg])
  · have hd:=dgs_pos (m:=x.natAbs) (by omega)
    have a1:=@absdiv x
    have a2:=@absmod x
    have a3 : x.tmod 10 < 10∧-10 < x.tmod 10:=by omega
    have hm10 : x.natAbs % 10 < 10:=Nat.mod_lt _ (by decide)
    have hfin : ∀ y : Int,y = x.tdiv 10→(∃ a' : Int × List Nat,[DV.sc (.int .i64 y),.sl 5 1 ((acc ++ [48 + x.natAbs % 10]).map encU)] = [.sc (.int .i64 a'.1),.sl 5 1 (a'.2.map encU)]∧(a'.1.natAbs≤9223372036854775808∧-9223372036854775808≤a'.1∧a'.1≤9223372036854775807∧dgs a'.1.natAbs ++ a'.2.reverse = dgs n.natAbs)∧a'.1.natAbs < x.natAbs):=by
      rintro y rfl
      refine ⟨(x.tdiv 10,acc ++ [48 + x.natAbs % 10]),rfl,⟨by simp only;omega,by simp only;omega,by simp only;omega,?_⟩,by simp only;omega⟩
      rw [← g4,hd,a1];simp
    generalize hdd : x.natAbs % 10 = d at *
    have c3 : (48 : Int) + (d : Int) = ((48 + d : Nat) : Int):=rfl
    have w8 : IntKind.u8.wrap ((48 + d : Nat) : Int) = ((48 + d : Nat) : Int):=wrap8 (by omega) (by omega)
    by_cases hneg : x.tmod 10 < 0
    · have t1 : x.tmod 10 = -(d : Int):=by omega
      have c1 : (0 : Int) - -(d : Int) = (d : Int):=by omega
      repeat' (first | (with_reducible first | refine jn_in ?_ | refine cl_ok (by assumption) rfl ?_ | refine cl_okP (by assumption) rfl ?_ | refine br_x (fun hbr=>?_) fun hbr=>?_) | simp (disch:=first | omega | (simp only [lnA];omega) | simp only [lnB,Nat.reduceAdd]) only [go_sem,↓reduceIte,Nat.reduceAdd,reduceNeg,Int.reduceAdd,reduceSub,reduceMul,reduceLT,reduceLE,reduceEq,reduceToNat,Nat.reduceBEq,nat1,t1,c1,c3,w8,map_u,u_impl_FormatInt_j0])
      all_goals first | omega | with_reducible exact hfin _ rfl
    · have t1 : x.tmod 10 = (d : Int):=by omega
      repeat' (first | (with_reducible first | refine jn_in ?_ | refine cl_ok (by assumption) rfl ?_ | refine cl_okP (by assumption) rfl ?_ | refine br_x (fun hbr=>?_) fun hbr=>?_) | simp (disch:=first | omega | (simp only [lnA];omega) | simp only [lnB,Nat.reduceAdd]) only [go_sem,↓reduceIte,Nat.reduceAdd,reduceNeg,Int.reduceAdd,reduceSub,reduceMul,reduceLT,reduceLE,reduceEq,reduceToNat,Nat.reduceBEq,nat1,t1,c3,w8,map_u,u_impl_FormatInt_j0])
      all_goals first | omega | with_reducible exact hfin _ rfl
def hexS : ByteArray:=⟨#[48,49,50,51,52,53,54,55,56,57,97,98,99,100,101,102]⟩
def qc (b : Nat) : List Nat:=if b = 34 ∨ b = 92 then [92,b] else if b = 10 then [92,110] else if b < 32 ∨ 126 < b then [92,120,byteAt hexS (b / 16),byteAt hexS (b % 16)] else [b]
def qP (s : ByteArray) : Nat→List Nat
  | 0=>[34]
  | i + 1=>qP s i ++ qc (byteAt s i)
def quoteB (s : ByteArray) : ByteArray:=ofN (qP s s.size ++ [34])
theorem qc_len (b : Nat) : (qc b).length ≤ 4 := by unfold qc; split; · simp
                                                   split;· simp
                                                   split <;> simp
theorem qP_len (s : ByteArray) : ∀ i,(qP s i).length≤1 + 4 * i
  | 0=>by simp [qP]
  | i + 1=>by have:=qP_len s i;have:=qc_len (byteAt s i);simp only [qP,List.length_append];omega
theorem quoteB_size (s : ByteArray) : (quoteB s).size≤2 + 4 * s.size:=by
  unfold quoteB;rw [ofN_size,List.length_append,List.length_singleton]
  have:=qP_len s s.size;omega
theorem l1Hex_m (k : Nat) (hk : k < 16) : Meets Try.prog 60 [(false,[.sc (.int .i64 k)])] [(false,[.sc (.string (ofN [byteAt hexS k]))],true)]:=by
  have hb:=byte_mk (s:=hexS) (i:=k) hk
  have hcut : eCutS (some (.sc (.string ⟨#[48,49,50,51,52,53,54,55,56,57,97,98,99,100,101,102]⟩))) (some (some (k : Int))) (some (some ((k + 1 : Nat) : Int))) = some [.sc (.string (ofN [byteAt hexS k]))]:=by
    rw [e_cS (by omega) (by omega) (by show ((k + 1 : Nat) : Int)≤((16 : Nat) : Int);omega)]
    exact congrArg (fun z=>some [DV.sc (.string z)]) hb
  refine meets_upf Try.func60 u_spec_l1Hex_g rfl ?_;simp only [u_spec_l1Hex_u]
  repeat' (first | (with_reducible first | refine jn_in ?_ | refine cl_ok (by assumption) rfl ?_ | refine cl_okP (by assumption) rfl ?_ | refine br_x (fun hbr=>?_) fun hbr=>?_) | simp (disch:=first | omega | (simp only [lnA];omega) | simp only [lnB,Nat.reduceAdd]) only [go_sem,↓reduceIte,Nat.reduceAdd,reduceNeg,Int.reduceAdd,reduceSub,reduceMul,reduceLT,reduceLE,reduceEq,reduceToNat,Nat.reduceBEq,nat1,hcut])
  rfl
theorem a1 (q : List Nat) (b : Nat) : ofN q ++ ofN [b] = ofN (q ++ [b]):=(ofN_app q [b]).symm
theorem a92 (q : List Nat) : ofN q ++ ⟨#[92]⟩ = ofN (q ++ [92]):=(ofN_app q [92]).symm
theorem a34 (q : List Nat) : ofN q ++ ⟨#[34]⟩ = ofN (q ++ [34]):=(ofN_app q [34]).symm
theorem a92n (q : List Nat) : ofN q ++ ⟨#[92,110]⟩ = ofN (q ++ [92,110]):=(ofN_app q [92,110]).symm
theorem a92x (q : List Nat) : ofN q ++ ⟨#[92,120]⟩ = ofN (q ++ [92,120]):=(ofN_app q [92,120]).symm
theorem e_catN {c : Bool} {q : List Nat} {t : ByteArray} (h : q.length + t.size≤1000000000000) : eBin .add c (some (.sc (.string (ofN q)))) (some (.sc (.string t))) = some [.sc (.string (ofN q ++ t))]:=e_cat (by rw [ofN_size];unfold maxLen;omega)
set_option maxHeartbeats 4000000 in
theorem specQuo_m (s : ByteArray) (hs : s.size≤10000000000) : Meets Try.prog 52 [(false,[.sc (.string s)])] [(false,[.sc (.string (quoteB s))],true)]:=by
  refine meets_upf Try.func52 u_spec_QuoteString_g rfl ?_;simp only [u_spec_QuoteString_u]
  simp (disch:=first | omega | (simp only [lnA];omega) | simp only [lnB,Nat.reduceAdd]) only [go_sem,↓reduceIte,Nat.reduceAdd,reduceNeg,Int.reduceAdd,reduceSub,reduceMul,reduceLT,reduceLE,reduceEq,reduceToNat,Nat.reduceBEq,nat1,true_and]
  refine lp_n s.size (fun i=>[.sc (.int .i64 i),.sc (.string (ofN (qP s i)))]) rfl fun i hi=>?_
  have hl:=qP_len s i
  have z92 : (⟨#[92]⟩ : ByteArray).size = 1:=rfl
  have z34 : (⟨#[34]⟩ : ByteArray).size = 1:=rfl
  have zn : (⟨#[92,110]⟩ : ByteArray).size = 2:=rfl
  have zx : (⟨#[92,120]⟩ : ByteArray).size = 2:=rfl
  have z1 : ∀ b,(ofN [b]).size = 1:=fun b=>ofN_size [b]
  simp only [u_spec_QuoteString_l1]
  by_cases hlt : i < s.size
  · have hbt:=byteAt_lt s i
    have hq : qP s (i + 1) = qP s i ++ qc (byteAt s i):=rfl
    have hx:=byte_mk hlt
    have hcut : eCutS (some (.sc (.string s))) (some (some (i : Int))) (some (some ((i + 1 : Nat) : Int))) = some [.sc (.string (ofN [byteAt s i]))]:=by
      rw [e_cS (by omega) (by omega) (by omega)]
      exact congrArg (fun z=>some [DV.sc (.string z)]) hx
    generalize hB : byteAt s i = b at *
    have hw : IntKind.i64.wrap (b : Int) = (b : Int):=wrap_id (by omega) (by omega)
    have hsh:=@e_shr false .u64 b 4 (by decide)
    have han:=@e_and false b 15 (by omega)
    rw [show b &&& 15 = b % 16 from Nat.and_two_pow_sub_one_eq_mod b 4] at han
    simp only [show ((4 : Nat) : Int) = 4 from rfl,show ((15 : Nat) : Int) = 15 from rfl,show (2 : Nat) ^ 4 = 16 from rfl] at hsh han
    have h1:=l1Hex_m (b / 16) (by omega)
    have h2:=l1Hex_m (b % 16) (by omega)
    have c1:=@e_catN false (qP s i) ⟨#[92]⟩ (by omega)
    have c2:=@e_catN false (qP s i ++ [92]) (ofN [b]) (by simp only [List.length_append,List.length_singleton];have:=z1 b;omega)
    have c3:=@e_catN false (qP s i) ⟨#[92,110]⟩ (by omega)
    have c4:=@e_catN false (qP s i) ⟨#[92,120]⟩ (by omega)
    have c5:=@e_catN false (qP s i ++ [92,120]) (ofN [byteAt hexS (b / 16)]) (by simp only [List.length_append,List.length_cons,List.length_nil];have:=z1 (byteAt hexS (b / 16));omega)
    have c6:=@e_catN false (qP s i ++ [92,120] ++ [byteAt hexS (b / 16)]) (ofN [byteAt hexS (b % 16)]) (by simp only [List.length_append,List.length_cons,List.length_nil];have:=z1 (byteAt hexS (b % 16));omega)
    have c7:=@e_catN false (qP s i) (ofN [b]) (by have:=z1 b;omega)
    repeat' (first | (with_reducible first | refine jn_in ?_ | refine cl_ok (by assumption) rfl ?_ | refine cl_okP (by assumption) rfl ?_ | refine br_x (fun hbr=>?_) fun hbr=>?_) | simp (disch:=first | omega | (simp only [lnA];omega) | simp only [lnB,Nat.reduceAdd]) only [go_sem,↓reduceIte,Nat.reduceAdd,reduceNeg,Int.reduceAdd,reduceSub,reduceMul,reduceLT,reduceLE,reduceEq,reduceToNat,Nat.reduceBEq,nat1,hB,hw,hsh,han,hcut,c1,c2,c3,c4,c5,c6,c7,a1,a92,a92n,a92x,u_spec_QuoteString_j0])
    all_goals first | omega | skip
    all_goals (refine ⟨?_,hlt⟩;rw [hq];unfold qc)
    all_goals first
      | (rw [if_pos (by omega)];simp;done)
      | (rw [if_neg (by omega),if_pos (by omega)];done)
      | (rw [if_neg (by omega),if_neg (by omega),if_pos (by omega)];simp;done)
      | (rw [if_neg (by omega),if_neg (by omega),if_neg (by omega)];done)
      | skip
  · obtain rfl : i = s.size:=by omega
    have c8:=@e_catN false (qP s s.size) ⟨#[34]⟩ (by omega)
    repeat' (first | (with_reducible first | refine jn_in ?_ | refine cl_ok (by assumption) rfl ?_ | refine cl_okP (by assumption) rfl ?_ | refine br_x (fun hbr=>?_) fun hbr=>?_) | simp (disch:=first | omega | (simp only [lnA];omega) | simp only [lnB,Nat.reduceAdd]) only [go_sem,↓reduceIte,Nat.reduceAdd,reduceNeg,Int.reduceAdd,reduceSub,reduceMul,reduceLT,reduceLE,reduceEq,reduceToNat,Nat.reduceBEq,nat1,c8,a34])
    all_goals first | omega | rfl
set_option maxHeartbeats 4000000 in
theorem implQuo_m (s : ByteArray) (hs : s.size≤10000000000) : Meets Try.prog 24 [(false,[.sc (.string s)])] [(false,[.sc (.string (quoteB s))],true)]:=by
  refine meets_upf Try.func24 u_impl_QuoteString_g rfl ?_;simp only [u_impl_QuoteString_u]
  simp (disch:=first | omega | (simp only [lnA];omega) | simp only [lnB,Nat.reduceAdd]) only [go_sem,↓reduceIte,Nat.reduceAdd,reduceNeg,Int.reduceAdd,reduceSub,reduceMul,reduceLT,reduceLE,reduceEq,reduceToNat,Nat.reduceBEq,nat1,true_and]
  refine lp_n s.size (fun i=>[.sc (.int .i64 i),.sl 5 1 ((qP s i).map encU)]) rfl fun i hi=>?_
  have hl:=qP_len s i
  have ap : ∀ m : List Nat,m.length≤10→eApp 5 1 1 (some (.sl 5 1 ((qP s i).map encU))) (some (.sl 5 1 (m.map encU))) = some [.sl 5 1 ((qP s i ++ m).map encU)]:=fun m hm=>e_appm (by omega) (by omega) (by decide)
  have ap1 : ∀ a : Nat,eApp 5 1 1 (some (.sl 5 1 ((qP s i).map encU))) (some (.sl 5 1 [[.sc (.int .u8 (a : Int))]])) = some [.sl 5 1 ((qP s i ++ [a]).map encU)]:=fun a=>ap [a] (by simp)
  have ap2 : ∀ (a b : Nat),eApp 5 1 1 (some (.sl 5 1 ((qP s i).map encU))) (some (.sl 5 1 [[.sc (.int .u8 (a : Int))],[.sc (.int .u8 (b : Int))]])) = some [.sl 5 1 ((qP s i ++ [a,b]).map encU)]:=fun a b=>ap [a,b] (by simp)
  simp only [u_impl_QuoteString_l2]
  by_cases hlt : i < s.size
  · have hbt:=byteAt_lt s i
    have hq : qP s (i + 1) = qP s i ++ qc (byteAt s i):=rfl
    generalize hB : byteAt s i = b at *
    have h2a : eApp 5 1 1 (some (.sl 5 1 ((qP s i).map encU))) (some (.sl 5 1 [[.sc (.int .u8 92)],[.sc (.int .u8 (b : Int))]])) = some [.sl 5 1 ((qP s i ++ [92,b]).map encU)]:=ap2 92 b
    have h2b : eApp 5 1 1 (some (.sl 5 1 ((qP s i).map encU))) (some (.sl 5 1 [[.sc (.int .u8 92)],[.sc (.int .u8 110)]])) = some [.sl 5 1 ((qP s i ++ [92,110]).map encU)]:=ap2 92 110
    have h1b:=ap1 b
    have h4 : eApp 5 1 1 (some (.sl 5 1 ((qP s i).map encU))) (some (.sl 5 1 [[.sc (.int .u8 92)],[.sc (.int .u8 120)],[.sc (.int .u8 (byteAt hexS (b / 16) : Int))],[.sc (.int .u8 (byteAt hexS (b % 16) : Int))]])) = some [.sl 5 1 ((qP s i ++ [92,120,byteAt hexS (b / 16),byteAt hexS (b % 16)]).map encU)]:=ap [92,120,byteAt hexS (b / 16),byteAt hexS (b % 16)] (by simp)
    have f2 : ∀ a c : Int,eFlat (some (.sl 5 1 [[.sc (.int .u8 a)],[.sc (.int .u8 c)]])) = some []:=fun _ _=>rfl
    have f4 : ∀ a c d e : Int,eFlat (some (.sl 5 1 [[.sc (.int .u8 a)],[.sc (.int .u8 c)],[.sc (.int .u8 d)],[.sc (.int .u8 e)]])) = some []:=fun _ _ _ _=>rfl
    have d1 : (b : Int).tdiv 16 = ((b / 16 : Nat) : Int):=rfl
    have d2 : (b : Int).tmod 16 = ((b % 16 : Nat) : Int):=rfl
    have d3 : IntKind.u8.wrap ((b / 16 : Nat) : Int) = ((b / 16 : Nat) : Int):=wrap8 (by omega) (by omega)
    have hz : hexS.size = 16:=rfl
    have x1 : ∀ k : Nat,k < 16→eChr (some (.sc (.string ⟨#[48,49,50,51,52,53,54,55,56,57,97,98,99,100,101,102]⟩))) (some (.sc (.int .u8 (k : Int)))) = some [.sc (.int .u8 (byteAt hexS k))]:=fun k hk=>e_chr' (s:=hexS) (by omega) (by omega)
    have x2:=x1 (b / 16) (by omega)
    have x3:=x1 (b % 16) (by omega)
    repeat' (first | (with_reducible first | refine jn_in ?_ | refine cl_ok (by assumption) rfl ?_ | refine cl_okP (by assumption) rfl ?_ | refine br_x (fun hbr=>?_) fun hbr=>?_) | simp (disch:=first | omega | (simp only [lnA];omega) | simp only [lnB,Nat.reduceAdd]) only [go_sem,↓reduceIte,Nat.reduceAdd,reduceNeg,Int.reduceAdd,reduceSub,reduceMul,reduceLT,reduceLE,reduceEq,reduceToNat,Nat.reduceBEq,nat1,hB,d1,d2,d3,x2,x3,h2a,h2b,h1b,h4,fl1_z,f2,f4,u_impl_QuoteString_j0,u_impl_QuoteString_j1])
    all_goals first | omega | skip
    all_goals (refine ⟨?_,hlt⟩;rw [hq];unfold qc)
    all_goals first
      | (rw [if_pos (by omega)];done)
      | (rw [if_neg (by omega),if_pos (by omega)];done)
      | (rw [if_neg (by omega),if_neg (by omega),if_pos (by omega)];done)
      | (rw [if_neg (by omega),if_neg (by omega),if_neg (by omega)];done)
      | skip
  · obtain rfl : i = s.size:=by omega
    have h1b : eApp 5 1 1 (some (.sl 5 1 ((qP s s.size).map encU))) (some (.sl 5 1 [[.sc (.int .u8 34)]])) = some [.sl 5 1 ((qP s s.size ++ [34]).map encU)]:=ap1 34
    repeat' (first | (with_reducible first | refine jn_in ?_ | refine cl_ok (by assumption) rfl ?_ | refine cl_okP (by assumption) rfl ?_ | refine br_x (fun hbr=>?_) fun hbr=>?_) | simp (disch:=first | omega | (simp only [lnA];omega) | simp only [lnB,Nat.reduceAdd]) only [go_sem,↓reduceIte,Nat.reduceAdd,reduceNeg,Int.reduceAdd,reduceSub,reduceMul,reduceLT,reduceLE,reduceEq,reduceToNat,Nat.reduceBEq,nat1,h1b,fl1_z,cvB_u])
    all_goals first | omega | rfl
theorem byteAt_ofN {L : List Nat} {i : Nat} (h : L.getD i 0 < 256) : byteAt (ofN L) i = L.getD i 0:=by
  unfold byteAt
  have e : (ofN L)[i]? = (L[i]?).map UInt8.ofNat:=by
    have : (ofN L)[i]? = (ofN L).data.toList[i]?:=by
      by_cases hi : i < (ofN L).size
      · rw [getElem?_pos _ i hi,List.getElem?_eq_getElem (by simpa using hi)];rfl
      · rw [getElem?_neg _ i hi,List.getElem?_eq_none (by simpa using hi)]
    rw [this,ofN_data,List.getElem?_map]
  rw [e,List.getD_eq_getElem?_getD] at *
  cases hx : L[i]? with
  | none=>rfl
  | some x =>
    rw [hx] at h
    simp only [Option.map_some,Option.getD_some,UInt8.toNat_ofNat'] at h ⊢
    omega
theorem qP_pre (t : ByteArray) : ∀ {n j},j≤n→∃ R,qP t n = qP t j ++ R
  | 0, j, h => ⟨[], by obtain rfl : j = 0 := by omega
                       simp⟩
  | n + 1,j,h=>by
    by_cases e : j = n + 1
    · subst e;exact ⟨[],by simp⟩
    · obtain ⟨R,hR⟩:=qP_pre t (n:=n) (j:=j) (by omega)
      exact ⟨R ++ qc (byteAt t n),by rw [qP,hR,List.append_assoc]⟩
theorem qc_lt {b : Nat} (h : b < 256) (m : Nat) : (qc b).getD m 0 < 256:=by
  have key : ∀ x ∈ qc b,x < 256:=by
    intro x hx
    unfold qc at hx
    have h1:=byteAt_lt hexS (b / 16)
    have h2:=byteAt_lt hexS (b % 16)
    split at hx
    · simp at hx;omega
    split at hx
    · simp at hx;omega
    split at hx
    · simp at hx;omega
    · simp at hx;omega
  rw [List.getD_eq_getElem?_getD]
  cases hx : (qc b)[m]? with
  | none=>simp
  | some x=>exact key x (List.mem_of_getElem? hx)
theorem quoteB_len (t : ByteArray) : (quoteB t).size = (qP t t.size).length + 1:=by
  unfold quoteB;rw [ofN_size,List.length_append];rfl
theorem qP_step (t : ByteArray) (j : Nat) : (qP t (j + 1)).length = (qP t j).length + (qc (byteAt t j)).length:=by rw [qP,List.length_append]
theorem qP_mono (t : ByteArray) {n j : Nat} (h : j≤n) : (qP t j).length≤(qP t n).length:=by
  obtain ⟨R,hR⟩:=qP_pre t h
  rw [hR,List.length_append];omega
theorem qat {t : ByteArray} {j m : Nat} (hj : j < t.size) (hm : m < (qc (byteAt t j)).length) : byteAt (quoteB t) ((qP t j).length + m) = (qc (byteAt t j)).getD m 0:=by
  obtain ⟨R,hR⟩:=qP_pre t (n:=t.size) (j:=j + 1) hj
  have e : (qP t t.size ++ [34]).getD ((qP t j).length + m) 0 = (qc (byteAt t j)).getD m 0:=by
    rw [hR,qP,List.getD_eq_getElem?_getD,List.append_assoc,List.append_assoc,List.getElem?_append_right (by omega),Nat.add_sub_cancel_left,List.getElem?_append_left hm,← List.getD_eq_getElem?_getD]
  unfold quoteB
  rw [byteAt_ofN (by rw [e];exact qc_lt (byteAt_lt t j) m),e]
theorem qfirst (t : ByteArray) : byteAt (quoteB t) 0 = 34:=by
  obtain ⟨R,hR⟩:=qP_pre t (n:=t.size) (j:=0) (by omega)
  unfold quoteB
  rw [hR]
  exact byteAt_ofN (by simp [qP])
theorem qlast (t : ByteArray) : byteAt (quoteB t) (qP t t.size).length = 34:=by
  have e : (qP t t.size ++ [34]).getD (qP t t.size).length 0 = 34:=by
    rw [List.getD_eq_getElem?_getD,List.getElem?_append_right (Nat.le_refl _),Nat.sub_self];rfl
  unfold quoteB
  rw [byteAt_ofN (by rw [e];decide),e]
def bl (t : ByteArray) (j : Nat) : List Nat:=(List.range j).map (byteAt t)
theorem bl_len (t : ByteArray) (j : Nat) : (bl t j).length = j:=by simp [bl]
theorem bl_succ (t : ByteArray) (j : Nat) : bl t (j + 1) = bl t j ++ [byteAt t j]:=by simp [bl,List.range_succ]
theorem bl_all (t : ByteArray) : ofN (bl t t.size) = t:=by
  apply ByteArray.ext
  apply Array.ext'
  rw [ofN_data]
  apply List.ext_getElem
  · rw [List.length_map,bl_len];rfl
  · intro i h1 h2
    rw [List.getElem_map]
    simp only [bl,List.getElem_map,List.getElem_range]
    have hi : i < t.size:=h2
    unfold byteAt
    rw [getElem?_pos t i hi]
    simp only [Option.map_some,Option.getD_some,UInt8.ofNat_toNat]
    rfl
def hexL : List Nat:=[48,49,50,51,52,53,54,55,56,57,97,98,99,100,101,102]
def hexI (b : Nat) : Nat:=hexL.findIdx (· == b)
theorem hexI_le (b : Nat) : hexI b≤16:=List.findIdx_le_length
theorem hexL_at : ∀ i,i < 16→byteAt hexS i = hexL.getD i 0:=by decide
theorem hexI_hit {b i : Nat} (h : i < 16) (hi : i = hexI b) : byteAt hexS i = b:=by
  rw [hexL_at i h,List.getD_eq_getElem?_getD,List.getElem?_eq_getElem (show i < hexL.length from h),Option.getD_some]
  subst hi
  have:=List.findIdx_getElem (xs:=hexL) (p:=(· == b)) (w:=h)
  simp only [beq_iff_eq] at this
  exact this
theorem hexI_miss {b i : Nat} (h : i < hexI b) : byteAt hexS i ≠ b:=by
  have h16:=hexI_le b
  rw [hexL_at i (by omega),List.getD_eq_getElem?_getD,List.getElem?_eq_getElem (show i < hexL.length by show i < 16;omega),Option.getD_some]
  have:=List.not_of_lt_findIdx h
  simpa using this
theorem hexI_of : ∀ k,k < 16→hexI (byteAt hexS k) = k:=by decide
theorem hexV_m (b : Nat) : Meets Try.prog 55 [(false,[.sc (.int .u8 (b : Int))])] [(false,[.sc (.int .i64 (if hexI b < 16 then (hexI b : Int) else -1))],true)]:=by
  have h16:=hexI_le b
  refine meets_upf Try.func55 u_impl_hexValue_g rfl ?_;simp only [u_impl_hexValue_u]
  simp (disch:=first | omega | (simp only [lnA];omega) | simp only [lnB,Nat.reduceAdd]) only [go_sem,↓reduceIte,Nat.reduceAdd,reduceNeg,Int.reduceAdd,reduceSub,reduceMul,reduceLT,reduceLE,reduceEq,reduceToNat,Nat.reduceBEq,nat1,true_and]
  refine lp_n (hexI b) (fun i=>[.sc (.int .i64 i)]) rfl fun i hi=>?_
  simp only [u_impl_hexValue_l0]
  have hchr : i < 16→eChr (some (.sc (.string ⟨#[48,49,50,51,52,53,54,55,56,57,97,98,99,100,101,102]⟩))) (some (.sc (.int .i64 (i : Int)))) = some [.sc (.int .u8 (byteAt hexS i))]:=fun hk=>e_chr' (s:=hexS) (by omega) (by have : hexS.size = 16:=rfl;omega)
  by_cases hlt : i < hexI b
  · have hne:=hexI_miss hlt
    have hc:=hchr (by omega)
    have hd : ¬ (byteAt hexS i : Int) = (b : Int):=fun e=>hne (by omega)
    repeat' (first | (with_reducible first | refine jn_in ?_ | refine cl_ok (by assumption) rfl ?_ | refine cl_okP (by assumption) rfl ?_ | refine br_x (fun hbr=>?_) fun hbr=>?_) | simp (disch:=first | omega | (simp only [lnA];omega) | simp only [lnB,Nat.reduceAdd]) only [go_sem,↓reduceIte,Nat.reduceAdd,reduceNeg,Int.reduceAdd,reduceSub,reduceMul,reduceLT,reduceLE,reduceEq,reduceToNat,Nat.reduceBEq,nat1,hc])
    all_goals first | omega | exact ⟨rfl,hlt⟩ | skip
  · by_cases h : i < 16
    · have hh:=hexI_hit h (b:=b) (by omega)
      have hc:=hchr h
      rw [hh] at hc
      repeat' (first | (with_reducible first | refine jn_in ?_ | refine cl_ok (by assumption) rfl ?_ | refine cl_okP (by assumption) rfl ?_ | refine br_x (fun hbr=>?_) fun hbr=>?_) | simp (disch:=first | omega | (simp only [lnA];omega) | simp only [lnB,Nat.reduceAdd]) only [go_sem,↓reduceIte,Nat.reduceAdd,reduceNeg,Int.reduceAdd,reduceSub,reduceMul,reduceLT,reduceLE,reduceEq,reduceToNat,Nat.reduceBEq,nat1,hc])
      all_goals first | omega | exact ret_z (by rw [if_pos (by omega)];omega)
    · repeat' (first | (with_reducible first | refine jn_in ?_ | refine cl_ok (by assumption) rfl ?_ | refine cl_okP (by assumption) rfl ?_ | refine br_x (fun hbr=>?_) fun hbr=>?_) | simp (disch:=first | omega | (simp only [lnA];omega) | simp only [lnB,Nat.reduceAdd]) only [go_sem,↓reduceIte,Nat.reduceAdd,reduceNeg,Int.reduceAdd,reduceSub,reduceMul,reduceLT,reduceLE,reduceEq,reduceToNat,Nat.reduceBEq,nat1,true_and])
      all_goals first | omega | exact ret_z (by rw [if_neg (by omega)])
theorem nib_m (b : Nat) : Meets Try.prog 57 [(false,[.sc (.int .u8 (b : Int))])] [(false,[.sc (.int .i64 (if hexI b < 16 then (hexI b : Int) else 0))],true)]:=by
  have h16:=hexI_le b
  refine meets_upf Try.func57 u_spec_l1Nibble_g rfl ?_;simp only [u_spec_l1Nibble_u]
  simp (disch:=first | omega | (simp only [lnA];omega) | simp only [lnB,Nat.reduceAdd]) only [go_sem,↓reduceIte,Nat.reduceAdd,reduceNeg,Int.reduceAdd,reduceSub,reduceMul,reduceLT,reduceLE,reduceEq,reduceToNat,Nat.reduceBEq,nat1,true_and]
  refine lp_n (hexI b) (fun i=>[.sc (.int .i64 i)]) rfl fun i hi=>?_
  simp only [u_spec_l1Nibble_l0]
  have hchr : i < 16→eChr (some (.sc (.string ⟨#[48,49,50,51,52,53,54,55,56,57,97,98,99,100,101,102]⟩))) (some (.sc (.int .i64 (i : Int)))) = some [.sc (.int .u8 (byteAt hexS i))]:=fun hk=>e_chr' (s:=hexS) (by omega) (by have : hexS.size = 16:=rfl;omega)
  by_cases hlt : i < hexI b
  · have hne:=hexI_miss hlt
    have hc:=hchr (by omega)
    have hd : ¬ (byteAt hexS i : Int) = (b : Int):=fun e=>hne (by omega)
    repeat' (first | (with_reducible first | refine jn_in ?_ | refine cl_ok (by assumption) rfl ?_ | refine cl_okP (by assumption) rfl ?_ | refine br_x (fun hbr=>?_) fun hbr=>?_) | simp (disch:=first | omega | (simp only [lnA];omega) | simp only [lnB,Nat.reduceAdd]) only [go_sem,↓reduceIte,Nat.reduceAdd,reduceNeg,Int.reduceAdd,reduceSub,reduceMul,reduceLT,reduceLE,reduceEq,reduceToNat,Nat.reduceBEq,nat1,hc])
    all_goals first | omega | exact ⟨rfl,hlt⟩ | skip
  · by_cases h : i < 16
    · have hh:=hexI_hit h (b:=b) (by omega)
      have hc:=hchr h
      rw [hh] at hc
      repeat' (first | (with_reducible first | refine jn_in ?_ | refine cl_ok (by assumption) rfl ?_ | refine cl_okP (by assumption) rfl ?_ | refine br_x (fun hbr=>?_) fun hbr=>?_) | simp (disch:=first | omega | (simp only [lnA];omega) | simp only [lnB,Nat.reduceAdd]) only [go_sem,↓reduceIte,Nat.reduceAdd,reduceNeg,Int.reduceAdd,reduceSub,reduceMul,reduceLT,reduceLE,reduceEq,reduceToNat,Nat.reduceBEq,nat1,hc])
      all_goals first | omega | exact ret_z (by rw [if_pos (by omega)];omega)
    · repeat' (first | (with_reducible first | refine jn_in ?_ | refine cl_ok (by assumption) rfl ?_ | refine cl_okP (by assumption) rfl ?_ | refine br_x (fun hbr=>?_) fun hbr=>?_) | simp (disch:=first | omega | (simp only [lnA];omega) | simp only [lnB,Nat.reduceAdd]) only [go_sem,↓reduceIte,Nat.reduceAdd,reduceNeg,Int.reduceAdd,reduceSub,reduceMul,reduceLT,reduceLE,reduceEq,reduceToNat,Nat.reduceBEq,nat1,true_and])
      all_goals first | omega | exact ret_z (by rw [if_neg (by omega)])
theorem ofN1_eq {x y : Nat} (hx : x < 256) (hy : y < 256) : ofN [x] = ofN [y] ↔ x = y:=by
  refine ⟨fun h=>?_,fun h=>by rw [h]⟩
  have h2 : byteAt (ofN [x]) 0 = byteAt (ofN [y]) 0:=by rw [h]
  rw [byteAt_ofN (by simpa using hx),byteAt_ofN (by simpa using hy)] at h2
  simpa using h2
theorem eq92 {x : Nat} (hx : x < 256) : eBin .eql false (some (.sc (.string (ofN [x])))) (some (.sc (.string ⟨#[92]⟩))) = some [.sc (.bool (decide (x = 92)))]:=by
  rw [e_seq]
  exact congrArg (fun z=>some [DV.sc (.bool z)]) (decide_eq_decide.2 (ofN1_eq hx (y:=92) (by decide)))
theorem eq110 {x : Nat} (hx : x < 256) : eBin .eql false (some (.sc (.string (ofN [x])))) (some (.sc (.string ⟨#[110]⟩))) = some [.sc (.bool (decide (x = 110)))]:=by
  rw [e_seq]
  exact congrArg (fun z=>some [DV.sc (.bool z)]) (decide_eq_decide.2 (ofN1_eq hx (y:=110) (by decide)))
theorem eq120 {x : Nat} (hx : x < 256) : eBin .eql false (some (.sc (.string (ofN [x])))) (some (.sc (.string ⟨#[120]⟩))) = some [.sc (.bool (decide (x = 120)))]:=by
  rw [e_seq]
  exact congrArg (fun z=>some [DV.sc (.bool z)]) (decide_eq_decide.2 (ofN1_eq hx (y:=120) (by decide)))
theorem qcut {t s : ByteArray} {j m : Nat} (hs : s = quoteB t) (hj : j < t.size) (hm : m < (qc (byteAt t j)).length) {a b : Int} (ha : a = ((qP t j).length + m : Nat)) (hb : b = ((qP t j).length + m + 1 : Nat)) :
    eCutS (some (.sc (.string s))) (some (some a)) (some (some b)) = some [.sc (.string (ofN [(qc (byteAt t j)).getD m 0]))]:=by
  subst ha hb
  have h1:=qP_step t j
  have h2:=qP_mono t (n:=t.size) (j:=j + 1) hj
  have h3:=quoteB_len t
  rw [e_cS (by omega) (by omega) (by rw [hs];omega),← qat hj hm,← hs]
  exact congrArg (fun z=>some [DV.sc (.string z)]) (byte_mk (by rw [hs];omega))
theorem qchr {t s : ByteArray} {j m : Nat} (hs : s = quoteB t) (hj : j < t.size) (hm : m < (qc (byteAt t j)).length) {k : IntKind} {a : Int} (ha : a = ((qP t j).length + m : Nat)) :
    eChr (some (.sc (.string s))) (some (.sc (.int k a))) = some [.sc (.int .u8 ((qc (byteAt t j)).getD m 0 : Nat))]:=by
  subst ha
  have h1:=qP_step t j
  have h2:=qP_mono t (n:=t.size) (j:=j + 1) hj
  have h3:=quoteB_len t
  rw [e_chr' (by omega) (by rw [hs];omega),hs,Int.toNat_natCast,qat hj hm]
theorem app_ofN (l : List Nat) (x : Nat) : ofN l ++ ofN [x] = ofN (l ++ [x]):=(ofN_app l [x]).symm
set_option maxHeartbeats 8000000 in
theorem specUnqA_m (t s : ByteArray) (hs : s = quoteB t) (ht : t.size≤1000000000) : Meets Try.prog 41 [(false,[.sc (.string s)])] [(false,[.sc (.string t)],true),(false,[.sc (.bool true)],true)]:=by
  have hq:=specQuo_m t (by omega)
  rw [← hs] at hq
  have hsz:=quoteB_len t
  rw [← hs] at hsz
  have hQn:=qP_len t t.size
  refine meets_upf Try.func41 u_spec_UnquoteString_g rfl ?_;simp only [u_spec_UnquoteString_u]
  simp (disch:=first | omega | (simp only [lnA];omega) | simp only [lnB,Nat.reduceAdd]) only [go_sem,↓reduceIte,Nat.reduceAdd,reduceNeg,Int.reduceAdd,reduceSub,reduceMul,reduceLT,reduceLE,reduceEq,reduceToNat,Nat.reduceBEq,nat1,true_and]
  refine lp_n t.size (fun j=>[.sc (.int .i64 ((qP t j).length : Nat)),.sc (.string (ofN (bl t j)))]) rfl fun j hj=>?_
  simp only [u_spec_UnquoteString_l1]
  have hbl:=bl_len t j
  by_cases hlt : j < t.size
  · have hstep:=qP_step t j
    have hmono:=qP_mono t (n:=t.size) (j:=j + 1) hlt
    have hb:=byteAt_lt t j
    have hbs:=bl_succ t j
    have c0:=fun m hm a b ha hb'=>@qcut t s j m hs hlt hm a b ha hb'
    have k0:=fun m hm k a ha=>@qchr t s j m hs hlt hm k a ha
    rw [hstep,hbs]
    generalize hB : byteAt t j = b at *
    have ecat:=@e_catN false (bl t j) (ofN [b]) (by rw [ofN_size,List.length_singleton];omega)
    rw [app_ofN] at ecat
    by_cases h1 : b = 34 ∨ b = 92
    · have hqc : qc b = [92,b]:=by unfold qc;rw [if_pos h1]
      rw [hqc] at c0 k0 hstep ⊢
      have e0:=c0 0 (by simp) ((qP t j).length : Nat) ((qP t j).length + 1 : Nat) rfl rfl
      have e1:=c0 1 (by simp) ((qP t j).length + 1 : Nat) ((qP t j).length + 1 + 1 : Nat) rfl rfl
      have f0:=@eq92 92 (by decide)
      have f1:=@eq110 b hb
      have f2:=@eq120 b hb
      rw [decide_eq_false (by omega)] at f1 f2
      rw [decide_eq_true rfl] at f0
      simp only [List.getD_cons_zero,List.getD_cons_succ,List.length_cons,List.length_nil] at e0 e1 hstep ⊢
      repeat' (first | (with_reducible first | refine jn_in ?_ | refine cl_ok (by assumption) rfl ?_ | refine cl_okP (by assumption) rfl ?_ | refine br_x (fun hbr=>?_) fun hbr=>?_) | simp (disch:=first | omega | (simp only [lnA];omega) | simp only [lnB,Nat.reduceAdd]) only [go_sem,↓reduceIte,Nat.reduceAdd,reduceNeg,Int.reduceAdd,reduceSub,reduceMul,reduceLT,reduceLE,reduceEq,reduceToNat,Nat.reduceBEq,nat1,e0,e1,f0,f1,f2,ecat,u_spec_UnquoteString_j0])
      all_goals first | omega | exact ⟨rfl,hlt⟩ | skip
    by_cases h2 : b = 10
    · have hqc : qc b = [92,110]:=by unfold qc;rw [if_neg h1,if_pos h2]
      rw [hqc] at c0 k0 hstep ⊢
      have e0:=c0 0 (by simp) ((qP t j).length : Nat) ((qP t j).length + 1 : Nat) rfl rfl
      have e1:=c0 1 (by simp) ((qP t j).length + 1 : Nat) ((qP t j).length + 1 + 1 : Nat) rfl rfl
      have f0:=@eq92 92 (by decide)
      have f1:=@eq110 110 (by decide)
      rw [decide_eq_true rfl] at f0 f1
      subst h2
      have ecat : eBin .add false (some (.sc (.string (ofN (bl t j))))) (some (.sc (.string ⟨#[10]⟩))) = some [.sc (.string (ofN (bl t j ++ [10])))]:=ecat
      simp only [List.getD_cons_zero,List.getD_cons_succ,List.length_cons,List.length_nil] at e0 e1 hstep ⊢
      repeat' (first | (with_reducible first | refine jn_in ?_ | refine cl_ok (by assumption) rfl ?_ | refine cl_okP (by assumption) rfl ?_ | refine br_x (fun hbr=>?_) fun hbr=>?_) | simp (disch:=first | omega | (simp only [lnA];omega) | simp only [lnB,Nat.reduceAdd]) only [go_sem,↓reduceIte,Nat.reduceAdd,reduceNeg,Int.reduceAdd,reduceSub,reduceMul,reduceLT,reduceLE,reduceEq,reduceToNat,Nat.reduceBEq,nat1,e0,e1,f0,f1,ecat,u_spec_UnquoteString_j0])
      all_goals first | omega | exact ⟨rfl,hlt⟩ | skip
    by_cases h3 : b < 32 ∨ 126 < b
    · have hqc : qc b = [92,120,byteAt hexS (b / 16),byteAt hexS (b % 16)]:=by unfold qc;rw [if_neg h1,if_neg h2,if_pos h3]
      rw [hqc] at c0 k0 hstep ⊢
      have e0:=c0 0 (by simp) ((qP t j).length : Nat) ((qP t j).length + 1 : Nat) rfl rfl
      have e1:=c0 1 (by simp) ((qP t j).length + 1 : Nat) ((qP t j).length + 1 + 1 : Nat) rfl rfl
      have k2:=k0 2 (by simp) .i64 ((qP t j).length + 1 + 1 : Nat) rfl
      have k3:=k0 3 (by simp) .i64 ((((qP t j).length + 1 : Nat) : Int) + 2) (by omega)
      have f0:=@eq92 92 (by decide)
      have f1:=@eq110 120 (by decide)
      have f2:=@eq120 120 (by decide)
      rw [decide_eq_true rfl] at f0 f2
      rw [decide_eq_false (by decide)] at f1
      have n1:=nib_m (byteAt hexS (b / 16))
      have n2:=nib_m (byteAt hexS (b % 16))
      rw [hexI_of _ (by omega),if_pos (by omega)] at n1 n2
      have hw : IntKind.u8.wrap (((b / 16 : Nat) : Int) * 16 + ((b % 16 : Nat) : Int)) = (b : Int):=by rw [wrap8 (by omega) (by omega)];omega
      have hcv : eCvB (some (.sl 5 1 [[.sc (.int .u8 (b : Int))]])) = some [.sc (.string (ofN [b]))]:=cvB_u (l:=[b])
      simp only [List.getD_cons_zero,List.getD_cons_succ,List.length_cons,List.length_nil] at e0 e1 k2 k3 hstep ⊢
      repeat' (first | (with_reducible first | refine jn_in ?_ | refine cl_ok (by assumption) rfl ?_ | refine cl_okP (by assumption) rfl ?_ | refine br_x (fun hbr=>?_) fun hbr=>?_) | simp (disch:=first | omega | (simp only [lnA];omega) | simp only [lnB,Nat.reduceAdd]) only [go_sem,↓reduceIte,Nat.reduceAdd,reduceNeg,Int.reduceAdd,reduceSub,reduceMul,reduceLT,reduceLE,reduceEq,reduceToNat,Nat.reduceBEq,nat1,e0,e1,k2,k3,f0,f1,f2,hw,hcv,ecat,u_spec_UnquoteString_j0])
      all_goals first | omega | exact ⟨rfl,hlt⟩ | skip
    · have hqc : qc b = [b]:=by unfold qc;rw [if_neg h1,if_neg h2,if_neg h3]
      rw [hqc] at c0 k0 hstep ⊢
      have e0:=c0 0 (by simp) ((qP t j).length : Nat) ((qP t j).length + 1 : Nat) rfl rfl
      simp only [List.getD_cons_zero] at e0
      have e1:=@eq92 b hb
      rw [decide_eq_false (by omega)] at e1
      simp only [List.length_singleton] at hstep ⊢
      repeat' (first | (with_reducible first | refine jn_in ?_ | refine cl_ok (by assumption) rfl ?_ | refine cl_okP (by assumption) rfl ?_ | refine br_x (fun hbr=>?_) fun hbr=>?_) | simp (disch:=first | omega | (simp only [lnA];omega) | simp only [lnB,Nat.reduceAdd]) only [go_sem,↓reduceIte,Nat.reduceAdd,reduceNeg,Int.reduceAdd,reduceSub,reduceMul,reduceLT,reduceLE,reduceEq,reduceToNat,Nat.reduceBEq,nat1,e0,e1,ecat,u_spec_UnquoteString_j0])
      all_goals first | omega | exact ⟨rfl,hlt⟩ | skip
  · obtain rfl : j = t.size:=by omega
    have hall:=bl_all t
    rw [hall]
    repeat' (first | (with_reducible first | refine jn_in ?_ | refine cl_ok (by assumption) rfl ?_ | refine cl_okP (by assumption) rfl ?_ | refine br_x (fun hbr=>?_) fun hbr=>?_) | simp (disch:=first | omega | (simp only [lnA];omega) | simp only [lnB,Nat.reduceAdd]) only [go_sem,↓reduceIte,Nat.reduceAdd,reduceNeg,Int.reduceAdd,reduceSub,reduceMul,reduceLT,reduceLE,reduceEq,reduceToNat,Nat.reduceBEq,nat1,true_and])
    all_goals first | omega | rfl | skip
theorem szl (a : Array UInt8) : (ByteArray.mk a).size = a.size:=rfl
theorem maxLen_n : maxLen = 9223372036854775807:=rfl
def nibZ (b : Nat) : Int:=if hexI b < 16 then (hexI b : Int) else 0
theorem nibZ_le (b : Nat) : 0≤nibZ b∧nibZ b≤15:=by unfold nibZ;split <;> omega
theorem nibZ_m (b : Nat) : Meets Try.prog 57 [(false,[.sc (.int .u8 (b : Int))])] [(false,[.sc (.int .i64 (nibZ b))],true)]:=nib_m b
theorem cvB_1 (z : Int) : ∃ t : ByteArray,t.size = 1∧eCvB (some (.sl 5 1 [[.sc (.int .u8 z)]])) = some [.sc (.string t)]:=by
  refine ⟨strOfNums [z],?_,e_cvB rfl⟩
  have : (strOfNums [z]).data.toList.length = 1:=by rw [strOfNums_data];rfl
  simpa using this
set_option maxHeartbeats 8000000 in
theorem specUnqB_m (s : ByteArray) (hs : ∀ t,quoteB t ≠ s) (hz : s.size≤1000000000) : Meets Try.prog 41 [(false,[.sc (.string s)])] [(false,[.sc (.string ⟨#[]⟩)],true),(false,[.sc (.bool false)],true)]:=by
  refine meets_upf Try.func41 u_spec_UnquoteString_g rfl ?_;simp only [u_spec_UnquoteString_u]
  simp (disch:=first | omega | (simp only [lnA];omega) | simp only [lnB,Nat.reduceAdd]) only [go_sem,↓reduceIte,Nat.reduceAdd,reduceNeg,Int.reduceAdd,reduceSub,reduceMul,reduceLT,reduceLE,reduceEq,reduceToNat,Nat.reduceBEq,nat1,true_and]
  refine lp (fun a : Nat × ByteArray=>[.sc (.int .i64 (a.1 : Nat)),.sc (.string a.2)]) (fun a=>1≤a.1∧a.2.size≤a.1∧a.1≤s.size + 4) (fun a=>s.size + 5 - a.1) (1,⟨#[]⟩) rfl ⟨Nat.le_refl _,Nat.zero_le _,by omega⟩ ?_
  rintro ⟨i,o⟩ ⟨h1,h2,h3⟩
  simp only at h1 h2 h3 ⊢
  simp only [u_spec_UnquoteString_l1]
  by_cases hlt : i + 1 < s.size
  · have b1:=nibZ_le (byteAt s (i + 1 + 1))
    have b2:=nibZ_le (byteAt s (i + 1 + 2))
    have hw : IntKind.u8.wrap (nibZ (byteAt s (i + 1 + 1)) * 16 + nibZ (byteAt s (i + 1 + 2))) = nibZ (byteAt s (i + 1 + 1)) * 16 + nibZ (byteAt s (i + 1 + 2)):=wrap8 (by omega) (by omega)
    obtain ⟨ct,ct1,ct2⟩:=cvB_1 (nibZ (byteAt s (i + 1 + 1)) * 16 + nibZ (byteAt s (i + 1 + 2)))
    have n1:=nibZ_m (byteAt s (i + 1 + 1))
    have n2:=nibZ_m (byteAt s (i + 1 + 2))
    have x1 : (s.extract i (i + 1)).size≤1:=by rw [ByteArray.size_extract];omega
    have x2 : (s.extract (i + 1) (i + 1 + 1)).size≤1:=by rw [ByteArray.size_extract];omega
    have z10 : (⟨#[10]⟩ : ByteArray).size = 1:=rfl
    have ti : ((((i + 1 : Nat) : Int) + 2).toNat) = i + 1 + 2:=by omega
    have m : maxLen = 9223372036854775807:=rfl
    repeat' (first | (with_reducible refine jn_in ?_) | (with_reducible refine cl_ok (by assumption) rfl ?_) | (with_reducible refine br_x (fun hbr=>?_) fun hbr=>?_) | simp (disch:=first | omega | (simp only [ByteArray.size_append,szl,List.size_toArray,List.length_cons,List.length_nil,Nat.zero_add,Nat.reduceAdd,maxLen_n];omega) | (simp only [List.length_append,List.map_cons,List.map_nil,List.length_map,List.length_cons,List.length_nil];omega) | (simp only [List.length_cons,List.length_nil,Nat.zero_add,Nat.reduceAdd])) only [go_sem,↓reduceIte,Nat.reduceAdd,reduceNeg,Int.reduceAdd,reduceSub,reduceMul,reduceLT,reduceLE,reduceEq,reduceToNat,Nat.reduceBEq,e_cat,ByteArray.append_assoc,e_sle,e_sge,nat1,ix_s,ix_z,fl_s,fl_z,fl1_s,fl1_z,map_s,map_z,hw,ct2,ti,Int.toNat_natCast,u_spec_UnquoteString_j0])
    all_goals first
      | omega
      | exact ⟨(i + 1,_),rfl,⟨by omega,by simp only [ByteArray.size_append];omega,by omega⟩,by simp only;omega⟩
      | exact ⟨(i + 1 + 1,_),rfl,⟨by omega,by simp only [ByteArray.size_append];omega,by omega⟩,by simp only;omega⟩
      | exact ⟨(i + 1 + 2 + 1,_),by congr 3,⟨by omega,by simp only [ByteArray.size_append];omega,by omega⟩,by simp only;omega⟩
      | skip
  · have hq:=specQuo_m o (by omega)
    have hne:=hs o
    repeat' (first | (with_reducible first | refine jn_in ?_ | refine cl_ok (by assumption) rfl ?_ | refine cl_okP (by assumption) rfl ?_ | refine br_x (fun hbr=>?_) fun hbr=>?_) | simp (disch:=first | omega | (simp only [lnA];omega) | simp only [lnB,Nat.reduceAdd]) only [go_sem,↓reduceIte,Nat.reduceAdd,reduceNeg,Int.reduceAdd,reduceSub,reduceMul,reduceLT,reduceLE,reduceEq,reduceToNat,Nat.reduceBEq,nat1,true_and])
    all_goals first | omega | rfl | exact absurd ‹quoteB o = s› hne | skip
def u_impl_ParseInt_h : List Hint:=[⟨3000010,2,⟨[(7,.p false [.d 14]),(6,.p false [.d 15]),(24,.p false [.d 11]),(4,.p false [.d 5]),(5,.p false [.d 6]),(15,.p false [.d 4]),(3,.p false [.d 2]),(2,.p false [.d 1]),(0,.p false [.d 0])],[],0,0,16,[(11,false),(8,false),(3,false),(2,false)]⟩,[]⟩,⟨1000004,2,⟨[(4,.p false [.d 5]),(5,.p false [.d 6]),(15,.p false [.d 4]),(3,.p false [.d 2]),(2,.p false [.d 1]),(0,.p false [.d 0])],[],0,0,7,[(3,false),(2,false)]⟩,[]⟩,⟨3,1,⟨[(15,.p false [.d 4]),(5,.p false [.d 3]),(4,.p false [.d 0]),(3,.p false [.d 2]),(2,.p false [.d 1]),(0,.p false [.d 0])],[],0,0,5,[(3,false),(2,false)]⟩,[]⟩]
def u_impl_ParseInt_d : List (Nat × Nat × Bool × List Nat):=[]
def u_impl_ParseInt_l0 : UP:=.po (.lenS 5) <| .po (.bin .lss false 2 0) <| .ite 0 (.po (.chr 7 3) <| .po (.k (.int .u8 48)) <| .po (.bin .lss false 1 0) <| .ite 0 (.po (.k (.bool true)) <| .po (.k (.int .i64 0)) <| .po (.k (.bool false)) <| .po (.sc 1) <| .po (.sc 0) <| .ret [(false,[1]),(false,[0])]) <| .po (.chr 10 6) <| .po (.k (.int .u8 57)) <| .po (.bin .gtr false 1 0) <| .ite 0 (.po (.k (.int .i64 0)) <| .po (.k (.bool false)) <| .po (.sc 1) <| .po (.sc 0) <| .ret [(false,[1]),(false,[0])]) <| .po (.k (.int .i64 10)) <| .po (.bin .mul false 0 9) <| .po (.chr 15 11) <| .po (.k (.int .u8 48)) <| .po (.bin .sub false 1 0) <| .po (.cvI .i64 0) <| .po (.bin .add false 4 0) <| .po (.k (.int .i64 1)) <| .po (.bin .add false 17 0) <| .jump 0 [0,2]) <| .ite 6 (.po (.un .neg 2) <| .sel [0,9] <| .cl 48 [(false,[0])] [(false,[none],true)] <| .po (.bin .neq false 0 2) <| .ite 0 (.po (.k (.int .i64 0)) <| .po (.k (.bool false)) <| .po (.sc 1) <| .po (.sc 0) <| .ret [(false,[1]),(false,[0])]) <| .po (.k (.bool true)) <| .po (.sc 3) <| .po (.sc 0) <| .ret [(false,[3]),(false,[0])]) <| .sel [2,8] <| .cl 48 [(false,[0])] [(false,[none],true)] <| .po (.bin .neq false 0 2) <| .ite 0 (.po (.k (.int .i64 0)) <| .po (.k (.bool false)) <| .po (.sc 1) <| .po (.sc 0) <| .ret [(false,[1]),(false,[0])]) <| .po (.k (.bool true)) <| .po (.sc 3) <| .po (.sc 0) <| .ret [(false,[3]),(false,[0])]
def u_impl_ParseInt_j1 : UP:=.po (.k (.string ⟨#[]⟩)) <| .po (.bin .eql false 2 0) <| .ite 0 (.po (.k (.bool true)) <| .po (.k (.int .i64 0)) <| .po (.k (.bool false)) <| .po (.sc 1) <| .po (.sc 0) <| .ret [(false,[1]),(false,[0])]) <| .po (.lenS 3) <| .po (.k (.int .i64 9)) <| .po (.bin .gtr false 1 0) <| .ite 0 (.po (.k (.int .i64 0)) <| .po (.k (.bool false)) <| .po (.sc 1) <| .po (.sc 0) <| .ret [(false,[1]),(false,[0])]) <| .po (.k (.int .i64 0)) <| .po (.k (.int .i64 0)) <| .sel [0,1,7,8,13] <| .loop [0,1] u_impl_ParseInt_l0
def u_impl_ParseInt_j2 : UP:=.join 2 u_impl_ParseInt_j1 <| .ite 0 (.po (.k (.bool true)) <| .po (.k (.int .i64 1)) <| .po (.cutS 6 (some 0) none) <| .jump 0 [0,2]) <| .jump 0 [4,1]
def u_impl_ParseInt_u : UP:=.po (.k (.int .i64 0)) <| .po (.k (.bool false)) <| .po (.k (.bool false)) <| .join 1 u_impl_ParseInt_j2 <| .po (.k (.string ⟨#[]⟩)) <| .po (.bin .neq false 4 0) <| .ite 0 (.po (.k (.int .i64 0)) <| .po (.chr 6 0) <| .po (.k (.int .u8 45)) <| .po (.bin .eql false 1 0) <| .jump 0 [0]) <| .po (.k (.bool false)) <| .jump 0 [0]
theorem u_impl_ParseInt_g : toUPf Try.prog 20 Try.f20 owA u_impl_ParseInt_h u_impl_ParseInt_d = some ([(false,1)],u_impl_ParseInt_u):=by kernel_rfl
def u_spec_ParseInt_h : List Hint:=[⟨1000012,1,⟨[(4,.p false [.d 11]),(55,.p false [.d 10]),(14,.p false [.d 6]),(6,.p false [.d 7]),(5,.p false [.d 8]),(3,.p false [.d 2]),(2,.p false [.d 1]),(0,.p false [.d 0])],[],0,0,12,[(2,false)]⟩,[]⟩,⟨11,1,⟨[(55,.p false [.d 10]),(14,.p false [.d 6]),(6,.p false [.d 7]),(5,.p false [.d 8]),(4,.p false [.d 9]),(3,.p false [.d 2]),(2,.p false [.d 1]),(0,.p false [.d 0])],[],0,0,11,[(2,false)]⟩,[]⟩,⟨2000000,4,⟨[(14,.p false [.d 6]),(6,.p false [.d 7]),(5,.p false [.d 8]),(4,.p false [.d 9]),(3,.p false [.d 2]),(2,.p false [.d 1]),(0,.p false [.d 0])],[],0,0,10,[(2,false)]⟩,[]⟩,⟨2000001,3,⟨[(24,.p false [.d 13]),(14,.p false [.d 12]),(6,.p false [.d 6]),(5,.p false [.d 14]),(4,.p false [.d 15]),(3,.p false [.d 2]),(2,.p false [.d 1]),(0,.p false [.d 0])],[],0,0,16,[(12,true),(10,true),(2,false)]⟩,[]⟩,⟨6,1,⟨[(24,.p false [.d 13]),(14,.p false [.d 12]),(6,.p false [.d 6]),(5,.p false [.d 7]),(4,.p false [.d 8]),(3,.p false [.d 2]),(2,.p false [.d 1]),(0,.p false [.d 0])],[],0,0,14,[(12,true),(10,true),(2,false)]⟩,[]⟩,⟨3000004,3,⟨[(6,.p false [.d 6]),(5,.p false [.d 7]),(4,.p false [.d 8]),(3,.p false [.d 2]),(2,.p false [.d 1]),(0,.p false [.d 0])],[],0,0,9,[(2,false)]⟩,[]⟩]
def u_spec_ParseInt_d : List (Nat × Nat × Bool × List Nat):=[]
def u_spec_ParseInt_j0 : UP:=.ite 0 (.jump 2 [0,2,1]) <| .po (.chr 4 3) <| .po (.k (.int .u8 48)) <| .po (.bin .lss false 1 0) <| .ite 0 (.po (.k (.bool true)) <| .po (.k (.int .i64 0)) <| .po (.k (.bool false)) <| .po (.sc 1) <| .po (.sc 0) <| .ret [(false,[1]),(false,[0])]) <| .po (.chr 7 6) <| .po (.k (.int .u8 57)) <| .po (.bin .gtr false 1 0) <| .ite 0 (.po (.k (.int .i64 0)) <| .po (.k (.bool false)) <| .po (.sc 1) <| .po (.sc 0) <| .ret [(false,[1]),(false,[0])]) <| .po (.k (.int .i64 10)) <| .po (.bin .mul false 8 0) <| .po (.chr 12 11) <| .po (.k (.int .u8 48)) <| .po (.bin .sub false 1 0) <| .po (.cvI .i64 0) <| .po (.bin .add false 4 0) <| .po (.k (.int .i64 1)) <| .po (.bin .add false 16 0) <| .jump 2 [15,0,2]
def u_spec_ParseInt_j1 : UP:=.po (.k (.int .i64 1)) <| .po (.bin .add false 6 0) <| .jump 1 [0,3,2]
def u_spec_ParseInt_l2 : UP:=.po (.lenS 8) <| .po (.bin .lss false 3 0) <| .ite 0 (.po (.k (.int .i64 10)) <| .po (.bin .lss false 4 0) <| .ite 0 (.sel [4,5,6,12] <| .join 3 u_spec_ParseInt_j1 <| .join 1 u_spec_ParseInt_j0 <| .po (.k (.int .i64 0)) <| .po (.bin .eql false 3 0) <| .ite 0 (.po (.chr 5 4) <| .po (.k (.int .u8 45)) <| .po (.bin .eql false 1 0) <| .jump 3 [0]) <| .po (.k (.bool false)) <| .jump 3 [0]) <| .jump 0 [0,6,5,4]) <| .po (.k (.bool false)) <| .jump 0 [0,5,4,3]
def u_spec_ParseInt_j3 : UP:=.po (.k (.int .i64 1)) <| .po (.bin .lss false 4 0) <| .ite 0 (.po (.k (.bool true)) <| .po (.k (.bool true)) <| .po (.k (.int .i64 0)) <| .po (.k (.bool false)) <| .po (.sc 1) <| .po (.sc 0) <| .ret [(false,[1]),(false,[0])]) <| .po (.k (.int .i64 9)) <| .po (.bin .gtr false 6 0) <| .ite 0 (.po (.k (.bool true)) <| .po (.k (.int .i64 0)) <| .po (.k (.bool false)) <| .po (.sc 1) <| .po (.sc 0) <| .ret [(false,[1]),(false,[0])]) <| .sel [4,8] <| .cl 56 [(false,[0])] [(false,[none],true)] <| .po (.bin .neq false 0 2) <| .ite 0 (.po (.k (.int .i64 0)) <| .po (.k (.bool false)) <| .po (.sc 1) <| .po (.sc 0) <| .ret [(false,[1]),(false,[0])]) <| .po (.k (.bool true)) <| .po (.sc 3) <| .po (.sc 0) <| .ret [(false,[3]),(false,[0])]
def u_spec_ParseInt_j4 : UP:=.join 1 u_spec_ParseInt_j3 <| .ite 0 (.po (.un .neg 1) <| .jump 0 [0]) <| .jump 0 [1]
def u_spec_ParseInt_j5 : UP:=.sel [0,1,9] <| .join 1 u_spec_ParseInt_j4 <| .po (.k (.int .i64 0)) <| .po (.bin .gtr false 2 0) <| .ite 0 (.po (.k (.int .i64 10)) <| .po (.bin .lss false 4 0) <| .ite 0 (.po (.k (.int .i64 0)) <| .po (.chr 7 0) <| .po (.k (.int .u8 45)) <| .po (.bin .eql false 1 0) <| .jump 0 [0]) <| .po (.k (.bool false)) <| .jump 0 [0]) <| .po (.k (.bool false)) <| .po (.k (.bool false)) <| .jump 0 [0]
def u_spec_ParseInt_u : UP:=.po (.k (.int .i64 0)) <| .po (.k (.bool false)) <| .po (.k (.int .i64 0)) <| .po (.k (.int .i64 0)) <| .po (.k (.int .i64 0)) <| .join 4 u_spec_ParseInt_j5 <| .loop [0,1,2] u_spec_ParseInt_l2
theorem u_spec_ParseInt_g : toUPf Try.prog 40 Try.f40 owA u_spec_ParseInt_h u_spec_ParseInt_d = some ([(false,1)],u_spec_ParseInt_u):=by kernel_rfl
theorem byteAt_ext {s : ByteArray} {a b i : Nat} (h : a + i < b) (hb : b≤s.size) : byteAt (s.extract a b) i = byteAt s (a + i):=by
  have h1 : i < (s.extract a b).size:=by rw [ByteArray.size_extract];omega
  unfold byteAt
  rw [getElem?_pos _ i h1,getElem?_pos s (a + i) (by omega)]
  simp [ByteArray.getElem_extract]
def vP (s : ByteArray) (k : Nat) : Nat→Nat
  | 0=>0
  | i + 1=>10 * vP s k i + (byteAt s (k + i) - 48)
def digT (s : ByteArray) (k i : Nat) : Bool:=digB (byteAt s (k + i))
theorem vP_lt {s : ByteArray} {k : Nat} : ∀ {i},allB (digT s k) i = true→vP s k i < 10 ^ i
  | 0,_=>by unfold vP;decide
  | i + 1,h=>by
    rw [allB_succ,Bool.and_eq_true] at h
    have h1:=vP_lt h.1
    have h2:=h.2
    unfold digT digB at h2
    rw [decide_eq_true_eq] at h2
    unfold vP
    rw [Nat.pow_succ];omega
def pk (s : ByteArray) : Nat:=if 0 < s.size∧byteAt s 0 = 45 then 1 else 0
def prsV (s : ByteArray) : Int:=if pk s = 1 then -(vP s 1 (s.size - 1) : Nat) else (vP s 0 s.size : Nat)
def prsB (s : ByteArray) : Bool:=decide (1≤s.size - pk s∧s.size - pk s≤9) && (allB (digT s (pk s)) (s.size - pk s) && decide (fmtInt (prsV s) = s))
theorem prsB_no {s : ByteArray} {i : Nat} (h : i < s.size - pk s) (hp : digT s (pk s) i = false) : prsB s = false:=by unfold prsB;rw [allB_no h hp];simp
theorem prsB_len {s : ByteArray} (h : ¬ (1≤s.size - pk s∧s.size - pk s≤9)) : prsB s = false:=by unfold prsB;rw [decide_eq_false h];rfl
theorem prs_no {s : ByteArray} (h : prsB s = false) : isRes [(false,[.sc (.int .i64 (if prsB s = true then prsV s else 0))],true),(false,[.sc (.bool (prsB s))],true)] [(false,[.sc (.int .i64 0)]),(false,[.sc (.bool false)])]:=by rw [h];rfl
theorem prs_yes {s : ByteArray} {z : Int} (h : prsB s = true) (hz : z = prsV s) : isRes [(false,[.sc (.int .i64 (if prsB s = true then prsV s else 0))],true),(false,[.sc (.bool (prsB s))],true)] [(false,[.sc (.int .i64 z)]),(false,[.sc (.bool true)])]:=by rw [h,hz];rfl
theorem pow9 {i : Nat} (h : i≤9) : 10 ^ i≤1000000000:=Nat.pow_le_pow_right (n:=10) (by decide) h
set_option maxHeartbeats 2000000 in
theorem implPrs_m (s : ByteArray) (hs : s.size≤100000000000) : Meets Try.prog 20 [(false,[.sc (.string s)])] [(false,[.sc (.int .i64 (if prsB s = true then prsV s else 0))],true),(false,[.sc (.bool (prsB s))],true)]:=by
  have key : ∀ (r : ByteArray) (c0 c1 c2 c3 : DV),r.size = s.size - pk s→(∀ i,i < r.size→byteAt r i = byteAt s (pk s + i)) →
      V Try.prog (isRes [(false,[.sc (.int .i64 (if prsB s = true then prsV s else 0))],true),(false,[.sc (.bool (prsB s))],true)]) u_impl_ParseInt_j1 [] [.sc (.bool (decide (pk s = 1))),.sc (.string r),c0,c1,c2,c3,.sc (.string s)]:=by
    intro r c0 c1 c2 c3 h1 h2
    simp only [u_impl_ParseInt_j1]
    simp (disch:=first | omega | (simp only [lnA];omega) | simp only [lnB,Nat.reduceAdd]) only [go_sem,↓reduceIte,Nat.reduceAdd,reduceNeg,Int.reduceAdd,reduceSub,reduceMul,reduceLT,reduceLE,reduceEq,reduceToNat,Nat.reduceBEq,nat1,true_and]
    refine br_if (fun h0=>?_) (fun h0=>?_)
    · simp (disch:=first | omega | (simp only [lnA];omega) | simp only [lnB,Nat.reduceAdd]) only [go_sem,↓reduceIte,Nat.reduceAdd,reduceNeg,Int.reduceAdd,reduceSub,reduceMul,reduceLT,reduceLE,reduceEq,reduceToNat,Nat.reduceBEq,nat1,true_and]
      subst h0
      exact prs_no (prsB_len (by have : (⟨#[]⟩ : ByteArray).size = 0:=rfl;omega))
    simp (disch:=first | omega | (simp only [lnA];omega) | simp only [lnB,Nat.reduceAdd]) only [go_sem,↓reduceIte,Nat.reduceAdd,reduceNeg,Int.reduceAdd,reduceSub,reduceMul,reduceLT,reduceLE,reduceEq,reduceToNat,Nat.reduceBEq,nat1,true_and]
    refine br_if (fun h9=>?_) (fun h9=>?_)
    · simp (disch:=first | omega | (simp only [lnA];omega) | simp only [lnB,Nat.reduceAdd]) only [go_sem,↓reduceIte,Nat.reduceAdd,reduceNeg,Int.reduceAdd,reduceSub,reduceMul,reduceLT,reduceLE,reduceEq,reduceToNat,Nat.reduceBEq,nat1,true_and]
      exact prs_no (prsB_len (by omega))
    have hr1 : 1≤r.size:=by
      apply Classical.byContradiction
      intro hc
      apply h0
      obtain ⟨a⟩:=r
      have : a.size = 0:=by have : (⟨a⟩ : ByteArray).size = a.size:=rfl;omega
      have:=Array.eq_empty_of_size_eq_zero this
      subst this;rfl
    simp (disch:=first | omega | (simp only [lnA];omega) | simp only [lnB,Nat.reduceAdd]) only [go_sem,↓reduceIte,Nat.reduceAdd,reduceNeg,Int.reduceAdd,reduceSub,reduceMul,reduceLT,reduceLE,reduceEq,reduceToNat,Nat.reduceBEq,nat1,true_and]
    refine lp (fun i : Nat=>[.sc (.int .i64 i),.sc (.int .i64 (vP s (pk s) i : Nat))]) (fun i=>i≤r.size∧allB (digT s (pk s)) i = true) (fun i=>r.size - i) 0 rfl ⟨by omega,rfl⟩ ?_
    rintro i ⟨hi,hb⟩
    have hv:=vP_lt hb
    have hp9:=pow9 (i:=i) (by omega)
    simp only [u_impl_ParseInt_l0]
    by_cases hlt : i < r.size
    · have hbt:=byteAt_lt s (pk s + i)
      have hv1 : vP s (pk s) (i + 1) = 10 * vP s (pk s) i + (byteAt s (pk s + i) - 48):=rfl
      have h2i:=h2 i hlt
      by_cases hdig : 48≤byteAt s (pk s + i)∧byteAt s (pk s + i)≤57
      · have hst:=allB_step hb (show digT s (pk s) i = true from decide_eq_true (by omega))
        have hw8 : IntKind.u8.wrap ((byteAt s (pk s + i) : Int) - 48) = ((byteAt s (pk s + i) - 48 : Nat) : Int):=by rw [wrap8 (by omega) (by omega)];omega
        have hcv : IntKind.i64.wrap ((byteAt s (pk s + i) - 48 : Nat) : Int) = ((byteAt s (pk s + i) - 48 : Nat) : Int):=wrap_id (by omega) (by omega)
        have hsum : (10 : Int) * ((vP s (pk s) i : Nat) : Int) + ((byteAt s (pk s + i) - 48 : Nat) : Int) = ((vP s (pk s) (i + 1) : Nat) : Int):=by omega
        repeat' (first | (with_reducible first | refine jn_in ?_ | refine cl_ok (by assumption) rfl ?_ | refine cl_okP (by assumption) rfl ?_ | refine br_x (fun hbr=>?_) fun hbr=>?_) | simp (disch:=first | omega | (simp only [lnA];omega) | simp only [lnB,Nat.reduceAdd]) only [go_sem,↓reduceIte,Nat.reduceAdd,reduceNeg,Int.reduceAdd,reduceSub,reduceMul,reduceLT,reduceLE,reduceEq,reduceToNat,Nat.reduceBEq,nat1,h2i,hw8,hcv,hsum])
        all_goals first | omega | with_reducible exact ⟨i + 1,rfl,⟨by omega,hst⟩,by omega⟩
      · have hno : prsB s = false:=prsB_no (i:=i) (by omega) (decide_eq_false (by omega))
        repeat' (first | (with_reducible first | refine jn_in ?_ | refine cl_ok (by assumption) rfl ?_ | refine cl_okP (by assumption) rfl ?_ | refine br_x (fun hbr=>?_) fun hbr=>?_) | simp (disch:=first | omega | (simp only [lnA];omega) | simp only [lnB,Nat.reduceAdd]) only [go_sem,↓reduceIte,Nat.reduceAdd,reduceNeg,Int.reduceAdd,reduceSub,reduceMul,reduceLT,reduceLE,reduceEq,reduceToNat,Nat.reduceBEq,nat1,h2i])
        all_goals first | omega | exact prs_no hno
    · obtain rfl : i = r.size:=by omega
      have hV : prsV s = if pk s = 1 then -((vP s (pk s) r.size : Nat) : Int) else ((vP s (pk s) r.size : Nat) : Int):=by
        unfold prsV
        by_cases hk : pk s = 1
        · rw [if_pos hk,if_pos hk,h1,hk]
        · have hk0 : pk s = 0:=by unfold pk at hk ⊢;split at hk <;> simp_all
          rw [if_neg hk,if_neg hk,h1,hk0,Nat.sub_zero]
      have hB : prsB s = decide (fmtInt (prsV s) = s):=by
        rw [h1] at hb
        unfold prsB;rw [hb,decide_eq_true (by omega)];simp
      by_cases hk : pk s = 1
      · rw [if_pos hk] at hV
        have hf:=implFmtInt_m (-((vP s (pk s) r.size : Nat) : Int)) (by unfold In64;omega)
        rw [← hV] at hf
        have hneg : (0 : Int) - ((vP s (pk s) r.size : Nat) : Int) = prsV s:=by omega
        simp only [hk] at hv hneg
        repeat' (first | (with_reducible first | refine jn_in ?_ | refine cl_ok (by assumption) rfl ?_ | refine cl_okP (by assumption) rfl ?_ | refine br_x (fun hbr=>?_) fun hbr=>?_) | simp (disch:=first | omega | (simp only [lnA];omega) | simp only [lnB,Nat.reduceAdd]) only [go_sem,↓reduceIte,Nat.reduceAdd,reduceNeg,Int.reduceAdd,reduceSub,reduceMul,reduceLT,reduceLE,reduceEq,reduceToNat,Nat.reduceBEq,nat1,hk,hneg])
        all_goals first | omega | skip
        · exact prs_yes (by rw [hB];exact decide_eq_true ‹_›) rfl
        · exact prs_no (by rw [hB];exact decide_eq_false ‹_›)
      · rw [if_neg hk] at hV
        have hf:=implFmtInt_m ((vP s (pk s) r.size : Nat) : Int) (by unfold In64;omega)
        repeat' (first | (with_reducible first | refine jn_in ?_ | refine cl_ok (by assumption) rfl ?_ | refine cl_okP (by assumption) rfl ?_ | refine br_x (fun hbr=>?_) fun hbr=>?_) | simp (disch:=first | omega | (simp only [lnA];omega) | simp only [lnB,Nat.reduceAdd]) only [go_sem,↓reduceIte,Nat.reduceAdd,reduceNeg,Int.reduceAdd,reduceSub,reduceMul,reduceLT,reduceLE,reduceEq,reduceToNat,Nat.reduceBEq,nat1,hk])
        all_goals first | omega | skip
        · exact prs_yes (by rw [hB,hV];exact decide_eq_true ‹_›) hV.symm
        · exact prs_no (by rw [hB,hV];exact decide_eq_false ‹_›)
  refine meets_upf Try.func20 u_impl_ParseInt_g rfl ?_;simp only [u_impl_ParseInt_u]
  simp (disch:=first | omega | (simp only [lnA];omega) | simp only [lnB,Nat.reduceAdd]) only [go_sem,↓reduceIte,Nat.reduceAdd,reduceNeg,Int.reduceAdd,reduceSub,reduceMul,reduceLT,reduceLE,reduceEq,reduceToNat,Nat.reduceBEq,nat1,true_and]
  refine jn_in ?_
  simp (disch:=first | omega | (simp only [lnA];omega) | simp only [lnB,Nat.reduceAdd]) only [go_sem,↓reduceIte,Nat.reduceAdd,reduceNeg,Int.reduceAdd,reduceSub,reduceMul,reduceLT,reduceLE,reduceEq,reduceToNat,Nat.reduceBEq,nat1,true_and]
  by_cases hk : 0 < s.size∧byteAt s 0 = 45
  · have hp : pk s = 1:=if_pos hk
    rw [hp] at key
    have hne : ¬ s = ⟨#[]⟩:=by rintro rfl;exact absurd hk.1 (by decide)
    have hk2 : ((byteAt s 0 : Nat) : Int) = 45:=by omega
    repeat' (first | (with_reducible first | refine jn_in ?_ | refine cl_ok (by assumption) rfl ?_ | refine cl_okP (by assumption) rfl ?_ | refine br_x (fun hbr=>?_) fun hbr=>?_) | simp (disch:=first | omega | (simp only [lnA];omega) | simp only [lnB,Nat.reduceAdd]) only [go_sem,↓reduceIte,Nat.reduceAdd,reduceNeg,Int.reduceAdd,reduceSub,reduceMul,reduceLT,reduceLE,reduceEq,reduceToNat,Nat.reduceBEq,nat1,hne,hk2,u_impl_ParseInt_j2])
    all_goals first | contradiction | skip
    exact key _ _ _ _ _ (by rw [ByteArray.size_extract];omega) (fun i hi=>by rw [ByteArray.size_extract] at hi;exact byteAt_ext (by omega) (Nat.le_refl _))
  · have hp : pk s = 0:=if_neg hk
    rw [hp] at key
    have hk':=fun c0 c1 c2 c3=>key s c0 c1 c2 c3 (by omega) (fun i hi=>by rw [Nat.zero_add])
    by_cases h0 : s = ⟨#[]⟩
    · subst h0
      repeat' (first | (with_reducible first | refine jn_in ?_ | refine cl_ok (by assumption) rfl ?_ | refine cl_okP (by assumption) rfl ?_ | refine br_x (fun hbr=>?_) fun hbr=>?_) | simp (disch:=first | omega | (simp only [lnA];omega) | simp only [lnB,Nat.reduceAdd]) only [go_sem,↓reduceIte,Nat.reduceAdd,reduceNeg,Int.reduceAdd,reduceSub,reduceMul,reduceLT,reduceLE,reduceEq,reduceToNat,Nat.reduceBEq,nat1,eq_self,u_impl_ParseInt_j2])
      all_goals first | exact absurd rfl ‹¬ (⟨#[]⟩ : ByteArray) = ⟨#[]⟩› | exact hk' _ _ _ _
    · have hpos : 0 < s.size:=by
        apply Classical.byContradiction
        intro hc
        apply h0
        obtain ⟨a⟩:=s
        have : a.size = 0:=by have : (⟨a⟩ : ByteArray).size = a.size:=rfl;omega
        have:=Array.eq_empty_of_size_eq_zero this
        subst this;rfl
      have hk2 : ¬ ((byteAt s 0 : Nat) : Int) = 45:=by omega
      repeat' (first | (with_reducible first | refine jn_in ?_ | refine cl_ok (by assumption) rfl ?_ | refine cl_okP (by assumption) rfl ?_ | refine br_x (fun hbr=>?_) fun hbr=>?_) | simp (disch:=first | omega | (simp only [lnA];omega) | simp only [lnB,Nat.reduceAdd]) only [go_sem,↓reduceIte,Nat.reduceAdd,reduceNeg,Int.reduceAdd,reduceSub,reduceMul,reduceLT,reduceLE,reduceEq,reduceToNat,Nat.reduceBEq,nat1,h0,hk2,u_impl_ParseInt_j2])
      all_goals first | contradiction | exact hk' _ _ _ _
theorem pk_le (s : ByteArray) : pk s≤1:=by unfold pk;split <;> omega
theorem pk_one {s : ByteArray} (h : pk s = 1) : 0 < s.size∧byteAt s 0 = 45:=by unfold pk at h;split at h <;> simp_all
theorem pk_zero {s : ByteArray} (h : pk s = 0) (hs : 0 < s.size) : ¬ byteAt s 0 = 45:=by unfold pk at h;split at h <;> simp_all
set_option maxHeartbeats 4000000 in
theorem specPrs_m (s : ByteArray) (hs : s.size≤100000000000) : Meets Try.prog 40 [(false,[.sc (.string s)])] [(false,[.sc (.int .i64 (if prsB s = true then prsV s else 0))],true),(false,[.sc (.bool (prsB s))],true)]:=by
  have hk1:=pk_le s
  have hno:=@prsB_no s
  have hle:=@prsB_len s
  have hP1:=@pk_one s
  have hP0:=@pk_zero s
  have hVd : prsV s = if pk s = 1 then -((vP s (pk s) (s.size - pk s) : Nat) : Int) else ((vP s (pk s) (s.size - pk s) : Nat) : Int):=by
    unfold prsV
    by_cases hk : pk s = 1
    · rw [if_pos hk,if_pos hk,hk]
    · have hk0 : pk s = 0:=by omega
      rw [if_neg hk,if_neg hk,hk0,Nat.sub_zero]
  have hB : allB (digT s (pk s)) (s.size - pk s) = true→1≤s.size - pk s→s.size - pk s≤9→prsB s = decide (fmtInt (prsV s) = s):=by
    intro h1 h2 h3
    unfold prsB;rw [h1,decide_eq_true ⟨h2,h3⟩];simp
  generalize pk s = k at hk1 hno hle hP1 hP0 hVd hB
  refine meets_upf Try.func40 u_spec_ParseInt_g rfl ?_;simp only [u_spec_ParseInt_u]
  simp (disch:=first | omega | (simp only [lnA];omega) | simp only [lnB,Nat.reduceAdd]) only [go_sem,↓reduceIte,Nat.reduceAdd,reduceNeg,Int.reduceAdd,reduceSub,reduceMul,reduceLT,reduceLE,reduceEq,reduceToNat,Nat.reduceBEq,nat1,true_and]
  refine jn_in ?_
  simp (disch:=first | omega | (simp only [lnA];omega) | simp only [lnB,Nat.reduceAdd]) only [go_sem,↓reduceIte,Nat.reduceAdd,reduceNeg,Int.reduceAdd,reduceSub,reduceMul,reduceLT,reduceLE,reduceEq,reduceToNat,Nat.reduceBEq,nat1,true_and]
  refine lp (fun i : Nat=>[.sc (.int .i64 i),.sc (.int .i64 ((i - k : Nat) : Int)),.sc (.int .i64 (vP s (k) (i - k) : Nat))]) (fun i=>i≤s.size∧i - k≤10∧allB (digT s (k)) (i - k) = true) (fun i=>s.size - i) 0 (by simp [gL,vP]) ⟨by omega,by omega,by simp [allB_zero]⟩ ?_
  rintro i ⟨hi,hi10,hb⟩
  have hv:=vP_lt hb
  have hp10 : 10 ^ (i - k)≤10000000000:=Nat.pow_le_pow_right (n:=10) (by decide) hi10
  simp only [u_spec_ParseInt_l2]
  rcases (show k = 0 ∨ k = 1 by omega) with rfl | rfl
  · simp only [Nat.sub_zero] at *
    by_cases hlt : i < s.size∧i < 10
    · have hbt:=byteAt_lt s i
      have hv1 : vP s 0 (i + 1) = 10 * vP s 0 i + (byteAt s (0 + i) - 48):=rfl
      rw [Nat.zero_add] at hv1
      have h45 : i = 0→¬ byteAt s i = 45:=fun e=>by have h9 : ¬ byteAt s 0 = 45:=(by first | exact hP0 rfl (by omega) | exact hP0 trivial (by omega));rw [e];exact h9
      by_cases hdig : 48≤byteAt s i∧byteAt s i≤57
      · have hst:=allB_step hb (show digT s 0 i = true by unfold digT;rw [Nat.zero_add];exact decide_eq_true (by omega))
        have hw8 : IntKind.u8.wrap ((byteAt s i : Int) - 48) = ((byteAt s i - 48 : Nat) : Int):=by rw [wrap8 (by omega) (by omega)];omega
        have hcv : IntKind.i64.wrap ((byteAt s i - 48 : Nat) : Int) = ((byteAt s i - 48 : Nat) : Int):=wrap_id (by omega) (by omega)
        have hsum : ((vP s 0 i : Nat) : Int) * 10 + ((byteAt s i - 48 : Nat) : Int) = ((vP s 0 (i + 1) : Nat) : Int):=by omega
        repeat' (first | (with_reducible first | refine jn_in ?_ | refine cl_ok (by assumption) rfl ?_ | refine cl_okP (by assumption) rfl ?_ | refine br_x (fun hbr=>?_) fun hbr=>?_) | simp (disch:=first | omega | (simp only [lnA];omega) | simp only [lnB,Nat.reduceAdd]) only [go_sem,↓reduceIte,Nat.reduceAdd,reduceNeg,Int.reduceAdd,reduceSub,reduceMul,reduceLT,reduceLE,reduceEq,reduceToNat,Nat.reduceBEq,nat1,hw8,hcv,hsum,u_spec_ParseInt_j0,u_spec_ParseInt_j1])
        all_goals first | omega | with_reducible exact ⟨i + 1,rfl,⟨by omega,by omega,hst⟩,by omega⟩ | skip
      · have hno1 : prsB s = false:=hno (i:=i) (by omega) (by unfold digT;rw [Nat.zero_add];exact decide_eq_false (by omega))
        repeat' (first | (with_reducible first | refine jn_in ?_ | refine cl_ok (by assumption) rfl ?_ | refine cl_okP (by assumption) rfl ?_ | refine br_x (fun hbr=>?_) fun hbr=>?_) | simp (disch:=first | omega | (simp only [lnA];omega) | simp only [lnB,Nat.reduceAdd]) only [go_sem,↓reduceIte,Nat.reduceAdd,reduceNeg,Int.reduceAdd,reduceSub,reduceMul,reduceLT,reduceLE,reduceEq,reduceToNat,Nat.reduceBEq,nat1,u_spec_ParseInt_j0,u_spec_ParseInt_j1])
        all_goals first | omega | exact prs_no hno1 | skip
    · have hf:=specFmtInt_m ((vP s 0 i : Nat) : Int) (by unfold In64;omega)
      have hend : i = s.size→1≤s.size→s.size≤9→prsV s = ((vP s 0 i : Nat) : Int)∧prsB s = decide (fmtInt (prsV s) = s):=by
        rintro rfl h1 h2
        exact ⟨by rw [hVd];rfl,hB hb h1 h2⟩
      have h45 : 0 < s.size→¬ ((byteAt s 0 : Nat) : Int) = 45:=fun h=>by
        have h9 : ¬ byteAt s 0 = 45:=by first | exact hP0 rfl h | exact hP0 trivial h
        omega
      rcases Nat.eq_zero_or_pos s.size with hz | hz
      · repeat' (first | (with_reducible first | refine jn_in ?_ | refine cl_ok (by assumption) rfl ?_ | refine cl_okP (by assumption) rfl ?_ | refine br_x (fun hbr=>?_) fun hbr=>?_) | simp (disch:=first | omega | (simp only [lnA];omega) | simp only [lnB,Nat.reduceAdd]) only [go_sem,↓reduceIte,Nat.reduceAdd,reduceNeg,Int.reduceAdd,reduceSub,reduceMul,reduceLT,reduceLE,reduceEq,reduceToNat,Nat.reduceBEq,nat1,u_spec_ParseInt_j5,u_spec_ParseInt_j4,u_spec_ParseInt_j3])
        all_goals first | omega | exact prs_no (hle (by omega))
      · have h45:=h45 hz
        repeat' (first | (with_reducible first | refine jn_in ?_ | refine cl_ok (by assumption) rfl ?_ | refine cl_okP (by assumption) rfl ?_ | refine br_x (fun hbr=>?_) fun hbr=>?_) | simp (disch:=first | omega | (simp only [lnA];omega) | simp only [lnB,Nat.reduceAdd]) only [go_sem,↓reduceIte,Nat.reduceAdd,reduceNeg,Int.reduceAdd,reduceSub,reduceMul,reduceLT,reduceLE,reduceEq,reduceToNat,Nat.reduceBEq,nat1,u_spec_ParseInt_j5,u_spec_ParseInt_j4,u_spec_ParseInt_j3])
        all_goals first
          | omega
          | exact prs_no (hle (by omega))
          | (obtain ⟨e1,e2⟩:=hend (by omega) (by omega) (by omega);exact prs_yes (by rw [e2,e1];exact decide_eq_true ‹_›) e1.symm)
          | (obtain ⟨e1,e2⟩:=hend (by omega) (by omega) (by omega);exact prs_no (by rw [e2,e1];exact decide_eq_false ‹_›))
          | skip
  · obtain ⟨hs0,h450⟩:=hP1 rfl
    have h45I : ((byteAt s 0 : Nat) : Int) = 45:=by omega
    by_cases hi0 : i = 0
    · subst hi0
      simp only [Nat.zero_sub]
      repeat' (first | (with_reducible first | refine jn_in ?_ | refine cl_ok (by assumption) rfl ?_ | refine cl_okP (by assumption) rfl ?_ | refine br_x (fun hbr=>?_) fun hbr=>?_) | simp (disch:=first | omega | (simp only [lnA];omega) | simp only [lnB,Nat.reduceAdd]) only [go_sem,↓reduceIte,Nat.reduceAdd,reduceNeg,Int.reduceAdd,reduceSub,reduceMul,reduceLT,reduceLE,reduceEq,reduceToNat,Nat.reduceBEq,nat1,h45I,u_spec_ParseInt_j0,u_spec_ParseInt_j1])
      all_goals first | omega | with_reducible exact ⟨1,rfl,⟨by omega,by omega,rfl⟩,by omega⟩ | skip
    obtain ⟨m,rfl⟩ : ∃ m,i = m + 1:=⟨i - 1,by omega⟩
    simp only [Nat.add_sub_cancel] at *
    have hmi : (m + 1 + 1) - 1 = m + 1:=rfl
    by_cases hlt : m + 1 < s.size∧m < 10
    · have hbt:=byteAt_lt s (m + 1)
      have hv1 : vP s 1 (m + 1) = 10 * vP s 1 m + (byteAt s (1 + m) - 48):=rfl
      rw [Nat.add_comm 1 m] at hv1
      by_cases hdig : 48≤byteAt s (m + 1)∧byteAt s (m + 1)≤57
      · have hst:=allB_step hb (show digT s 1 m = true by unfold digT;rw [Nat.add_comm 1 m];exact decide_eq_true (by omega))
        have hw8 : IntKind.u8.wrap ((byteAt s (m + 1) : Int) - 48) = ((byteAt s (m + 1) - 48 : Nat) : Int):=by rw [wrap8 (by omega) (by omega)];omega
        have hcv : IntKind.i64.wrap ((byteAt s (m + 1) - 48 : Nat) : Int) = ((byteAt s (m + 1) - 48 : Nat) : Int):=wrap_id (by omega) (by omega)
        have hsum : ((vP s 1 m : Nat) : Int) * 10 + ((byteAt s (m + 1) - 48 : Nat) : Int) = ((vP s 1 (m + 1) : Nat) : Int):=by omega
        repeat' (first | (with_reducible first | refine jn_in ?_ | refine cl_ok (by assumption) rfl ?_ | refine cl_okP (by assumption) rfl ?_ | refine br_x (fun hbr=>?_) fun hbr=>?_) | simp (disch:=first | omega | (simp only [lnA];omega) | simp only [lnB,Nat.reduceAdd]) only [go_sem,↓reduceIte,Nat.reduceAdd,reduceNeg,Int.reduceAdd,reduceSub,reduceMul,reduceLT,reduceLE,reduceEq,reduceToNat,Nat.reduceBEq,nat1,hw8,hcv,hsum,u_spec_ParseInt_j0,u_spec_ParseInt_j1])
        all_goals first | omega | exact ⟨m + 1 + 1,by simp only [Nat.add_sub_cancel],⟨by omega,by omega,by simpa only [Nat.add_sub_cancel] using hst⟩,by omega⟩ | skip
      · have hno1 : prsB s = false:=hno (i:=m) (by omega) (by unfold digT;rw [Nat.add_comm 1 m];exact decide_eq_false (by omega))
        repeat' (first | (with_reducible first | refine jn_in ?_ | refine cl_ok (by assumption) rfl ?_ | refine cl_okP (by assumption) rfl ?_ | refine br_x (fun hbr=>?_) fun hbr=>?_) | simp (disch:=first | omega | (simp only [lnA];omega) | simp only [lnB,Nat.reduceAdd]) only [go_sem,↓reduceIte,Nat.reduceAdd,reduceNeg,Int.reduceAdd,reduceSub,reduceMul,reduceLT,reduceLE,reduceEq,reduceToNat,Nat.reduceBEq,nat1,u_spec_ParseInt_j0,u_spec_ParseInt_j1])
        all_goals first | omega | exact prs_no hno1 | skip
    · have hf:=specFmtInt_m (-((vP s 1 m : Nat) : Int)) (by unfold In64;omega)
      have hf0:=specFmtInt_m ((vP s 1 m : Nat) : Int) (by unfold In64;omega)
      have hng : (0 : Int) - ((vP s 1 m : Nat) : Int) = -((vP s 1 m : Nat) : Int):=by omega
      have hend : m + 1 = s.size→1≤m→m≤9→prsV s = -((vP s 1 m : Nat) : Int)∧prsB s = decide (fmtInt (prsV s) = s):=by
        intro h0 h1 h2
        have e : s.size - 1 = m:=by omega
        rw [e] at hVd hB
        exact ⟨by rw [hVd];rfl,hB hb h1 h2⟩
      repeat' (first | (with_reducible first | refine jn_in ?_ | refine cl_ok (by assumption) rfl ?_ | refine cl_okP (by assumption) rfl ?_ | refine br_x (fun hbr=>?_) fun hbr=>?_) | simp (disch:=first | omega | (simp only [lnA];omega) | simp only [lnB,Nat.reduceAdd]) only [go_sem,↓reduceIte,Nat.reduceAdd,reduceNeg,Int.reduceAdd,reduceSub,reduceMul,reduceLT,reduceLE,reduceEq,reduceToNat,Nat.reduceBEq,nat1,h45I,hng,u_spec_ParseInt_j5,u_spec_ParseInt_j4,u_spec_ParseInt_j3])
      all_goals first
        | omega
        | exact prs_no (hle (by omega))
        | (obtain ⟨e1,e2⟩:=hend (by omega) (by omega) (by omega);exact prs_yes (by rw [e2,e1];exact decide_eq_true ‹_›) e1.symm)
        | (obtain ⟨e1,e2⟩:=hend (by omega) (by omega) (by omega);exact prs_no (by rw [e2,e1];exact decide_eq_false ‹_›))
        | skip
theorem qc_pre : ∀ a,a < 256→∀ b,b < 256→(qc a).isPrefixOf (qc b) = true→a = b:=by decide +kernel
theorem qc_app {a b : Nat} (ha : a < 256) (hb : b < 256) {X Y : List Nat} (h : qc a ++ X = qc b ++ Y) : a = b∧X = Y:=by
  have e : a = b:=by
    rcases Nat.le_total (qc a).length (qc b).length with hl | hl
    · refine qc_pre a ha b hb (List.isPrefixOf_iff_prefix.2 ?_)
      exact List.prefix_of_prefix_length_le (List.prefix_append _ X) (h ▸ List.prefix_append _ Y) hl
    · refine (qc_pre b hb a ha (List.isPrefixOf_iff_prefix.2 ?_)).symm
      exact List.prefix_of_prefix_length_le (List.prefix_append _ Y) (h.symm ▸ List.prefix_append _ X) hl
  subst e
  exact ⟨rfl,List.append_cancel_left h⟩
theorem qP_flat (t : ByteArray) : ∀ j,qP t j = 34 :: ((bl t j).map qc).flatten
  | 0=>rfl
  | j + 1=>by rw [qP,qP_flat t j,bl_succ,List.map_append,List.flatten_append];simp
theorem flat_inj : ∀ {l m : List Nat},(∀ x ∈ l,x < 256)→(∀ x ∈ m,x < 256)→(l.map qc).flatten ++ [34] = (m.map qc).flatten ++ [34]→l = m
  | [],[],_,_,_=>rfl
  | [],b :: m,_,hm,h=>by
    exfalso
    have hb:=hm b (List.mem_cons_self ..)
    have h2:=congrArg List.head? h
    simp only [List.map_nil,List.flatten_nil,List.nil_append,List.head?_cons,List.map_cons,List.flatten_cons,List.append_assoc] at h2
    have key : ∀ b,b < 256→∀ Z : List Nat,(qc b ++ Z).head? = some 34→False:=by
      intro b hb Z hz
      unfold qc at hz
      split at hz
      · simp at hz
      split at hz
      · simp at hz
      split at hz
      · simp at hz
      · rename_i h1 _ _
        simp at hz;exact h1 (.inl hz)
    exact key b hb _ h2.symm
  | a :: l,[],hl,hm,h=>(by
    exfalso
    have hb:=hl a (List.mem_cons_self ..)
    have h2:=congrArg List.head? h
    simp only [List.map_nil,List.flatten_nil,List.nil_append,List.head?_cons,List.map_cons,List.flatten_cons,List.append_assoc] at h2
    unfold qc at h2
    split at h2
    · simp at h2
    split at h2
    · simp at h2
    split at h2
    · simp at h2
    · rename_i h1 _ _
      simp at h2;exact h1 (.inl h2))
  | a :: l,b :: m,hl,hm,h=>by
    simp only [List.map_cons,List.flatten_cons,List.append_assoc] at h
    obtain ⟨rfl,h2⟩:=qc_app (hl a (List.mem_cons_self ..)) (hm b (List.mem_cons_self ..)) h
    rw [flat_inj (fun x hx=>hl x (List.mem_cons_of_mem _ hx)) (fun x hx=>hm x (List.mem_cons_of_mem _ hx)) h2]
theorem bl_lt (t : ByteArray) (j : Nat) : ∀ x ∈ bl t j,x < 256:=fun x hx=>by
  obtain ⟨i,_,rfl⟩:=List.mem_map.1 hx
  exact byteAt_lt t i
theorem ofN_inj {l m : List Nat} (hl : ∀ x ∈ l,x < 256) (hm : ∀ x ∈ m,x < 256) (h : ofN l = ofN m) : l = m:=by
  have hs : l.length = m.length:=by have:=congrArg ByteArray.size h;rwa [ofN_size,ofN_size] at this
  apply List.ext_getElem hs
  intro i h1 h2
  have e1:=byteAt_ofN (L:=l) (i:=i) (by rw [List.getD_eq_getElem?_getD,List.getElem?_eq_getElem h1];exact hl _ (List.getElem_mem h1))
  have e2:=byteAt_ofN (L:=m) (i:=i) (by rw [List.getD_eq_getElem?_getD,List.getElem?_eq_getElem h2];exact hm _ (List.getElem_mem h2))
  rw [h] at e1
  rw [e1] at e2
  rw [List.getD_eq_getElem?_getD,List.getElem?_eq_getElem h1,List.getD_eq_getElem?_getD,List.getElem?_eq_getElem h2] at e2
  exact e2
theorem qc_all {b : Nat} (hb : b < 256) : ∀ x ∈ qc b,x < 256:=fun x hx=>by
  obtain ⟨i,hi,rfl⟩:=List.mem_iff_getElem.1 hx
  have:=qc_lt hb i
  rwa [List.getD_eq_getElem?_getD,List.getElem?_eq_getElem hi] at this
theorem qP_all (t : ByteArray) : ∀ j,∀ x ∈ qP t j,x < 256
  | 0,x,hx=>by simp [qP] at hx;omega
  | j + 1,x,hx=>by
    rw [qP] at hx
    rcases List.mem_append.1 hx with hx | hx
    · exact qP_all t j x hx
    · exact qc_all (byteAt_lt t j) x hx
theorem quote_inj {t u : ByteArray} (h : quoteB t = quoteB u) : t = u:=by
  have h34 : ∀ (t : ByteArray),∀ x ∈ qP t t.size ++ [34],x < 256:=fun t x hx=>by
    rcases List.mem_append.1 hx with hx | hx
    · exact qP_all t _ x hx
    · rw [List.mem_singleton.1 hx];decide
  have h1:=ofN_inj (h34 t) (h34 u) h
  rw [qP_flat,qP_flat] at h1
  have h2:=flat_inj (bl_lt t t.size) (bl_lt u u.size) (List.cons.inj h1).2
  rw [← bl_all t,← bl_all u,h2]
theorem qchrB {t s b : ByteArray} {j m : Nat} (hs : s = quoteB t) (hb : b = s.extract 1 (s.size - 1)) (hj : j < t.size) (hm : m < (qc (byteAt t j)).length) {k : IntKind} {a : Int} (ha : a = ((qP t j).length - 1 + m : Nat)) :
    eChr (some (.sc (.string b))) (some (.sc (.int k a))) = some [.sc (.int .u8 ((qc (byteAt t j)).getD m 0 : Nat))]:=by
  subst ha
  have h1:=qP_step t j
  have h2:=qP_mono t (n:=t.size) (j:=j + 1) hj
  have h3:=quoteB_len t
  have h4:=qP_mono t (n:=j) (j:=0) (Nat.zero_le _)
  have h5 : (qP t 0).length = 1:=rfl
  have hbs : b.size = s.size - 2:=by rw [hb,ByteArray.size_extract];omega
  rw [← hs] at h3
  rw [e_chr' (by omega) (by rw [hbs];omega),Int.toNat_natCast,hb,byteAt_ext (by omega) (by omega),show 1 + ((qP t j).length - 1 + m) = (qP t j).length + m by omega,hs,qat hj hm]
set_option maxHeartbeats 8000000 in
theorem implUnqA_m (t s : ByteArray) (hs : s = quoteB t) (ht : t.size≤1000000000) : Meets Try.prog 34 [(false,[.sc (.string s)])] [(false,[.sc (.string t)],true),(false,[.sc (.bool true)],true)]:=by
  have hq:=implQuo_m t (by omega)
  rw [← hs] at hq
  have hsz:=quoteB_len t
  rw [← hs] at hsz
  have hQn:=qP_len t t.size
  have hf:=qfirst t
  have hlast:=qlast t
  rw [← hs] at hf hlast
  have hQ1:=qP_mono t (n:=t.size) (j:=0) (Nat.zero_le _)
  have hQ0 : (qP t 0).length = 1:=rfl
  have g0 : eChr (some (.sc (.string s))) (some (.sc (.int .i64 0))) = some [.sc (.int .u8 34)]:=by rw [e_chr' (by omega) (by omega),show (0 : Int).toNat = 0 from rfl,hf];rfl
  have g1 : eChr (some (.sc (.string s))) (some (.sc (.int .i64 ((s.size : Int) - 1)))) = some [.sc (.int .u8 34)]:=by
    rw [e_chr' (by omega) (by omega),show ((s.size : Int) - 1).toNat = (qP t t.size).length by omega,hlast];rfl
  have gc : eCutS (some (.sc (.string s))) (some (some 1)) (some (some ((s.size : Int) - 1))) = some [.sc (.string (s.extract 1 (s.size - 1)))]:=by
    rw [e_cS (by omega) (by omega) (by omega)]
    congr 5 <;> omega
  have hbs : (s.extract 1 (s.size - 1)).size = s.size - 2:=by rw [ByteArray.size_extract];omega
  have k00:=fun j hj m hm k a ha=>@qchrB t s (s.extract 1 (s.size - 1)) j m hs rfl hj hm k a ha
  refine meets_upf Try.func34 u_impl_UnquoteString_g rfl ?_;simp only [u_impl_UnquoteString_u]
  simp (disch:=first | omega | (simp only [lnA];omega) | simp only [lnB,Nat.reduceAdd]) only [go_sem,↓reduceIte,Nat.reduceAdd,reduceNeg,Int.reduceAdd,reduceSub,reduceMul,reduceLT,reduceLE,reduceEq,reduceToNat,Nat.reduceBEq,nat1,g0,g1,gc]
  refine br_if (fun hbr=>?_) (fun hbr=>?_)
  · omega
  simp (disch:=first | omega | (simp only [lnA];omega) | simp only [lnB,Nat.reduceAdd]) only [go_sem,↓reduceIte,Nat.reduceAdd,reduceNeg,Int.reduceAdd,reduceSub,reduceMul,reduceLT,reduceLE,reduceEq,reduceToNat,Nat.reduceBEq,nat1,g0,g1,gc]
  generalize s.extract 1 (s.size - 1) = body at *
  refine lp_n t.size (fun j=>[.sc (.int .i64 (((qP t j).length - 1 : Nat) : Int)),.sl 5 1 ((bl t j).map encU)]) rfl fun j hj=>?_
  simp only [u_impl_UnquoteString_l1]
  have hbl:=bl_len t j
  by_cases hlt : j < t.size
  · have hstep:=qP_step t j
    have hmono:=qP_mono t (n:=t.size) (j:=j + 1) hlt
    have hmono0:=qP_mono t (n:=j) (j:=0) (Nat.zero_le _)
    have hb:=byteAt_lt t j
    have hbs2:=bl_succ t j
    have k0:=k00 j hlt
    rw [hstep,hbs2]
    clear k00
    generalize hB : byteAt t j = b at *
    have ap1 : ∀ a : Nat,eApp 5 1 1 (some (.sl 5 1 ((bl t j).map encU))) (some (.sl 5 1 [[.sc (.int .u8 (a : Int))]])) = some [.sl 5 1 ((bl t j ++ [a]).map encU)]:=fun a=>e_appm (m:=[a]) (by omega) (by show 1≤100000000000;omega) (by decide)
    have apb:=ap1 b
    by_cases h1 : b = 34 ∨ b = 92
    · have hqc : qc b = [92,b]:=by unfold qc;rw [if_pos h1]
      rw [hqc] at k0 hstep ⊢
      have e0:=k0 0 (by simp) .i64 (((qP t j).length - 1 : Nat) : Int) rfl
      have e1:=k0 1 (by simp) .i64 (((qP t j).length - 1 + 1 : Nat) : Int) rfl
      simp only [List.getD_cons_zero,List.getD_cons_succ,List.length_cons,List.length_nil] at e0 e1 hstep ⊢
      have d1 : ¬ (b : Int) = 110:=by omega
      have d2 : ¬ (b : Int) = 120:=by omega
      have z92 : ((92 : Nat) : Int) = 92:=rfl
      rw [z92] at e0
      repeat' (first | (with_reducible first | refine jn_in ?_ | refine cl_ok (by assumption) rfl ?_ | refine cl_okP (by assumption) rfl ?_ | refine br_x (fun hbr=>?_) fun hbr=>?_) | simp (disch:=first | omega | (simp only [lnA];omega) | simp only [lnB,Nat.reduceAdd]) only [go_sem,↓reduceIte,Nat.reduceAdd,reduceNeg,Int.reduceAdd,reduceSub,reduceMul,reduceLT,reduceLE,reduceEq,reduceToNat,Nat.reduceBEq,nat1,e0,e1,apb,fl1_z,d1,d2,u_impl_UnquoteString_j0])
      all_goals first | omega | contradiction | exact ⟨by congr 3;omega,hlt⟩ | skip
    by_cases h2 : b = 10
    · have hqc : qc b = [92,110]:=by unfold qc;rw [if_neg h1,if_pos h2]
      rw [hqc] at k0 hstep ⊢
      subst h2
      have e0:=k0 0 (by simp) .i64 (((qP t j).length - 1 : Nat) : Int) rfl
      have e1:=k0 1 (by simp) .i64 (((qP t j).length - 1 + 1 : Nat) : Int) rfl
      simp only [List.getD_cons_zero,List.getD_cons_succ,List.length_cons,List.length_nil] at e0 e1 hstep ⊢
      have z92 : ((92 : Nat) : Int) = 92:=rfl
      have z110 : ((110 : Nat) : Int) = 110:=rfl
      have z10 : ((10 : Nat) : Int) = 10:=rfl
      rw [z92] at e0
      rw [z110] at e1
      rw [z10] at apb
      repeat' (first | (with_reducible first | refine jn_in ?_ | refine cl_ok (by assumption) rfl ?_ | refine cl_okP (by assumption) rfl ?_ | refine br_x (fun hbr=>?_) fun hbr=>?_) | simp (disch:=first | omega | (simp only [lnA];omega) | simp only [lnB,Nat.reduceAdd]) only [go_sem,↓reduceIte,Nat.reduceAdd,reduceNeg,Int.reduceAdd,reduceSub,reduceMul,reduceLT,reduceLE,reduceEq,reduceToNat,Nat.reduceBEq,nat1,e0,e1,apb,fl1_z,u_impl_UnquoteString_j0])
      all_goals first | omega | contradiction | exact ⟨by congr 3;omega,hlt⟩ | skip
    by_cases h3 : b < 32 ∨ 126 < b
    · have hqc : qc b = [92,120,byteAt hexS (b / 16),byteAt hexS (b % 16)]:=by unfold qc;rw [if_neg h1,if_neg h2,if_pos h3]
      rw [hqc] at k0 hstep ⊢
      have e0:=k0 0 (by simp) .i64 (((qP t j).length - 1 : Nat) : Int) rfl
      have e1:=k0 1 (by simp) .i64 (((qP t j).length - 1 + 1 : Nat) : Int) rfl
      have e2:=k0 2 (by simp) .i64 ((((qP t j).length - 1 : Nat) : Int) + 2) (by omega)
      have e3:=k0 3 (by simp) .i64 ((((qP t j).length - 1 : Nat) : Int) + 3) (by omega)
      simp only [List.getD_cons_zero,List.getD_cons_succ,List.length_cons,List.length_nil] at e0 e1 e2 e3 hstep ⊢
      have z92 : ((92 : Nat) : Int) = 92:=rfl
      have z120 : ((120 : Nat) : Int) = 120:=rfl
      rw [z92] at e0
      rw [z120] at e1
      have n1:=hexV_m (byteAt hexS (b / 16))
      have n2:=hexV_m (byteAt hexS (b % 16))
      rw [hexI_of _ (by omega),if_pos (by omega)] at n1 n2
      have hw : IntKind.u8.wrap (16 * ((b / 16 : Nat) : Int) + ((b % 16 : Nat) : Int)) = (b : Int):=by rw [wrap8 (by omega) (by omega)];omega
      repeat' (first | (with_reducible first | refine jn_in ?_ | refine cl_ok (by assumption) rfl ?_ | refine cl_okP (by assumption) rfl ?_ | refine br_x (fun hbr=>?_) fun hbr=>?_) | simp (disch:=first | omega | (simp only [lnA];omega) | simp only [lnB,Nat.reduceAdd]) only [go_sem,↓reduceIte,Nat.reduceAdd,reduceNeg,Int.reduceAdd,reduceSub,reduceMul,reduceLT,reduceLE,reduceEq,reduceToNat,Nat.reduceBEq,nat1,e0,e1,e2,e3,hw,apb,fl1_z,u_impl_UnquoteString_j0])
      all_goals first | omega | contradiction | exact ⟨by congr 3;omega,hlt⟩ | skip
    · have hqc : qc b = [b]:=by unfold qc;rw [if_neg h1,if_neg h2,if_neg h3]
      rw [hqc] at k0 hstep ⊢
      have e0:=k0 0 (by simp) .i64 (((qP t j).length - 1 : Nat) : Int) rfl
      simp only [List.getD_cons_zero,List.getD_cons_succ,List.length_cons,List.length_nil] at e0 hstep ⊢
      have d1 : ¬ (b : Int) = 92:=by omega
      repeat' (first | (with_reducible first | refine jn_in ?_ | refine cl_ok (by assumption) rfl ?_ | refine cl_okP (by assumption) rfl ?_ | refine br_x (fun hbr=>?_) fun hbr=>?_) | simp (disch:=first | omega | (simp only [lnA];omega) | simp only [lnB,Nat.reduceAdd]) only [go_sem,↓reduceIte,Nat.reduceAdd,reduceNeg,Int.reduceAdd,reduceSub,reduceMul,reduceLT,reduceLE,reduceEq,reduceToNat,Nat.reduceBEq,nat1,e0,apb,fl1_z,d1,u_impl_UnquoteString_j0])
      all_goals first | omega | contradiction | exact ⟨by congr 3;omega,hlt⟩ | skip
  · obtain rfl : j = t.size:=by omega
    have hall:=bl_all t
    repeat' (first | (with_reducible first | refine jn_in ?_ | refine cl_ok (by assumption) rfl ?_ | refine cl_okP (by assumption) rfl ?_ | refine br_x (fun hbr=>?_) fun hbr=>?_) | simp (disch:=first | omega | (simp only [lnA];omega) | simp only [lnB,Nat.reduceAdd]) only [go_sem,↓reduceIte,Nat.reduceAdd,reduceNeg,Int.reduceAdd,reduceSub,reduceMul,reduceLT,reduceLE,reduceEq,reduceToNat,Nat.reduceBEq,nat1,cvB_u,hall])
    all_goals first | omega | rfl | skip
set_option maxHeartbeats 8000000 in
theorem implUnqB_m (s : ByteArray) (hs : ∀ t,quoteB t ≠ s) (hz : s.size≤1000000000) : Meets Try.prog 34 [(false,[.sc (.string s)])] [(false,[.sc (.string ⟨#[]⟩)],true),(false,[.sc (.bool false)],true)]:=by
  have t1 : ((s.size : Int) - 1).toNat = s.size - 1:=by omega
  have z0 : (0 : Int).toNat = 0:=rfl
  by_cases g1 : 2≤s.size
  rotate_left
  · refine meets_upf Try.func34 u_impl_UnquoteString_g rfl ?_;simp only [u_impl_UnquoteString_u]
    repeat' (first | (with_reducible first | refine jn_in ?_ | refine cl_ok (by assumption) rfl ?_ | refine cl_okP (by assumption) rfl ?_ | refine br_x (fun hbr=>?_) fun hbr=>?_) | simp (disch:=first | omega | (simp only [lnA];omega) | simp only [lnB,Nat.reduceAdd]) only [go_sem,↓reduceIte,Nat.reduceAdd,reduceNeg,Int.reduceAdd,reduceSub,reduceMul,reduceLT,reduceLE,reduceEq,reduceToNat,Nat.reduceBEq,nat1,t1,z0])
    all_goals first | omega | rfl
  by_cases g2 : byteAt s 0 = 34
  rotate_left
  · have d : ¬ (byteAt s 0 : Int) = 34:=by omega
    refine meets_upf Try.func34 u_impl_UnquoteString_g rfl ?_;simp only [u_impl_UnquoteString_u]
    repeat' (first | (with_reducible first | refine jn_in ?_ | refine cl_ok (by assumption) rfl ?_ | refine cl_okP (by assumption) rfl ?_ | refine br_x (fun hbr=>?_) fun hbr=>?_) | simp (disch:=first | omega | (simp only [lnA];omega) | simp only [lnB,Nat.reduceAdd]) only [go_sem,↓reduceIte,Nat.reduceAdd,reduceNeg,Int.reduceAdd,reduceSub,reduceMul,reduceLT,reduceLE,reduceEq,reduceToNat,Nat.reduceBEq,nat1,t1,z0])
    all_goals first | omega | rfl | contradiction
  by_cases g3 : byteAt s (s.size - 1) = 34
  rotate_left
  · have d : ¬ (byteAt s (s.size - 1) : Int) = 34:=by omega
    refine meets_upf Try.func34 u_impl_UnquoteString_g rfl ?_;simp only [u_impl_UnquoteString_u]
    repeat' (first | (with_reducible first | refine jn_in ?_ | refine cl_ok (by assumption) rfl ?_ | refine cl_okP (by assumption) rfl ?_ | refine br_x (fun hbr=>?_) fun hbr=>?_) | simp (disch:=first | omega | (simp only [lnA];omega) | simp only [lnB,Nat.reduceAdd]) only [go_sem,↓reduceIte,Nat.reduceAdd,reduceNeg,Int.reduceAdd,reduceSub,reduceMul,reduceLT,reduceLE,reduceEq,reduceToNat,Nat.reduceBEq,nat1,t1,z0])
    all_goals first | omega | rfl | contradiction
  have k0 : eChr (some (.sc (.string s))) (some (.sc (.int .i64 0))) = some [.sc (.int .u8 34)]:=by rw [e_chr' (by omega) (by omega),show (0 : Int).toNat = 0 from rfl,g2];rfl
  have k1 : eChr (some (.sc (.string s))) (some (.sc (.int .i64 ((s.size : Int) - 1)))) = some [.sc (.int .u8 34)]:=by
    rw [e_chr' (by omega) (by omega),show ((s.size : Int) - 1).toNat = s.size - 1 by omega,g3];rfl
  have gc : eCutS (some (.sc (.string s))) (some (some 1)) (some (some ((s.size : Int) - 1))) = some [.sc (.string (s.extract 1 (s.size - 1)))]:=by
    rw [e_cS (by omega) (by omega) (by omega)]
    congr 5 <;> omega
  have hbs : (s.extract 1 (s.size - 1)).size = s.size - 2:=by rw [ByteArray.size_extract];omega
  refine meets_upf Try.func34 u_impl_UnquoteString_g rfl ?_;simp only [u_impl_UnquoteString_u]
  simp (disch:=first | omega | (simp only [lnA];omega) | simp only [lnB,Nat.reduceAdd]) only [go_sem,↓reduceIte,Nat.reduceAdd,reduceNeg,Int.reduceAdd,reduceSub,reduceMul,reduceLT,reduceLE,reduceEq,reduceToNat,Nat.reduceBEq,nat1,k0,k1,gc]
  refine br_if (fun hbr=>?_) (fun hbr=>?_)
  · omega
  simp (disch:=first | omega | (simp only [lnA];omega) | simp only [lnB,Nat.reduceAdd]) only [go_sem,↓reduceIte,Nat.reduceAdd,reduceNeg,Int.reduceAdd,reduceSub,reduceMul,reduceLT,reduceLE,reduceEq,reduceToNat,Nat.reduceBEq,nat1,k0,k1,gc]
  generalize s.extract 1 (s.size - 1) = body at *
  refine lp (fun a : Nat × List Nat=>[.sc (.int .i64 (a.1 : Nat)),.sl 5 1 (a.2.map encU)]) (fun a=>a.2.length≤a.1∧a.1≤body.size + 4) (fun a=>body.size + 5 - a.1) (0,[]) rfl ⟨Nat.le_refl _,by omega⟩ ?_
  rintro ⟨i,q⟩ ⟨h1,h2⟩
  simp only at h1 h2 ⊢
  simp only [u_impl_UnquoteString_l1]
  by_cases hlt : i < body.size
  · have ap1 : ∀ a : Nat,eApp 5 1 1 (some (.sl 5 1 (q.map encU))) (some (.sl 5 1 [[.sc (.int .u8 (a : Int))]])) = some [.sl 5 1 ((q ++ [a]).map encU)]:=fun a=>e_appm (m:=[a]) (by omega) (by show 1≤100000000000;omega) (by decide)
    have a0:=ap1 (byteAt body i)
    have a1:=ap1 (byteAt body (i + 1))
    have a10 : eApp 5 1 1 (some (.sl 5 1 (q.map encU))) (some (.sl 5 1 [[.sc (.int .u8 10)]])) = some [.sl 5 1 ((q ++ [10]).map encU)]:=ap1 10
    have n1:=hexV_m (byteAt body (i + 2))
    have n2:=hexV_m (byteAt body (i + 3))
    have t2 : ((i : Int) + 2).toNat = i + 2:=by omega
    have t3 : ((i : Int) + 3).toNat = i + 3:=by omega
    have hend : ∀ (m : Nat) (x : Nat),1≤m→m≤4→∀ z : Int,z = ((i + m : Nat) : Int)→∃ a' : Nat × List Nat,[DV.sc (.int .i64 z),.sl 5 1 ((q ++ [x]).map encU)] = [.sc (.int .i64 (a'.1 : Nat)),.sl 5 1 (a'.2.map encU)]∧(a'.2.length≤a'.1∧a'.1≤body.size + 4)∧body.size + 5 - a'.1 < body.size + 5 - i:=fun m x hm hm4 z hz=>⟨(i + m,q ++ [x]),by rw [hz],⟨by simp;omega,by simp only;omega⟩,by simp only;omega⟩
    by_cases c2 : hexI (byteAt body (i + 2)) < 16
    · by_cases c3 : hexI (byteAt body (i + 3)) < 16
      · rw [if_pos c2] at n1
        rw [if_pos c3] at n2
        have hw : IntKind.u8.wrap (16 * (hexI (byteAt body (i + 2)) : Int) + (hexI (byteAt body (i + 3)) : Int)) = ((16 * hexI (byteAt body (i + 2)) + hexI (byteAt body (i + 3)) : Nat) : Int):=by rw [wrap8 (by omega) (by omega)];omega
        have ax:=ap1 (16 * hexI (byteAt body (i + 2)) + hexI (byteAt body (i + 3)))
        repeat' (first | (with_reducible first | refine jn_in ?_ | refine cl_ok (by assumption) rfl ?_ | refine cl_okP (by assumption) rfl ?_ | refine br_x (fun hbr=>?_) fun hbr=>?_) | simp (disch:=first | omega | (simp only [lnA];omega) | simp only [lnB,Nat.reduceAdd]) only [go_sem,↓reduceIte,Nat.reduceAdd,reduceNeg,Int.reduceAdd,reduceSub,reduceMul,reduceLT,reduceLE,reduceEq,reduceToNat,Nat.reduceBEq,nat1,a0,a1,a10,ax,hw,t2,t3,fl1_z,Int.toNat_natCast,u_impl_UnquoteString_j0])
        all_goals first | omega | rfl | exact hend 1 _ (by omega) (by omega) _ (by omega) | exact hend 2 _ (by omega) (by omega) _ (by omega) | exact hend 4 _ (by omega) (by omega) _ (by omega) | skip
      · rw [if_pos c2] at n1
        rw [if_neg c3] at n2
        repeat' (first | (with_reducible first | refine jn_in ?_ | refine cl_ok (by assumption) rfl ?_ | refine cl_okP (by assumption) rfl ?_ | refine br_x (fun hbr=>?_) fun hbr=>?_) | simp (disch:=first | omega | (simp only [lnA];omega) | simp only [lnB,Nat.reduceAdd]) only [go_sem,↓reduceIte,Nat.reduceAdd,reduceNeg,Int.reduceAdd,reduceSub,reduceMul,reduceLT,reduceLE,reduceEq,reduceToNat,Nat.reduceBEq,nat1,a0,a1,a10,t2,t3,fl1_z,Int.toNat_natCast,u_impl_UnquoteString_j0])
        all_goals first | omega | rfl | exact hend 1 _ (by omega) (by omega) _ (by omega) | exact hend 2 _ (by omega) (by omega) _ (by omega) | skip
    · rw [if_neg c2] at n1
      repeat' (first | (with_reducible first | refine jn_in ?_ | refine cl_ok (by assumption) rfl ?_ | refine cl_okP (by assumption) rfl ?_ | refine br_x (fun hbr=>?_) fun hbr=>?_) | simp (disch:=first | omega | (simp only [lnA];omega) | simp only [lnB,Nat.reduceAdd]) only [go_sem,↓reduceIte,Nat.reduceAdd,reduceNeg,Int.reduceAdd,reduceSub,reduceMul,reduceLT,reduceLE,reduceEq,reduceToNat,Nat.reduceBEq,nat1,a0,a1,a10,t2,t3,fl1_z,Int.toNat_natCast,u_impl_UnquoteString_j0])
      all_goals first | omega | rfl | exact hend 1 _ (by omega) (by omega) _ (by omega) | exact hend 2 _ (by omega) (by omega) _ (by omega) | skip
  · have hq:=implQuo_m (ofN q) (by rw [ofN_size];omega)
    have hne:=hs (ofN q)
    repeat' (first | (with_reducible first | refine jn_in ?_ | refine cl_ok (by assumption) rfl ?_ | refine cl_okP (by assumption) rfl ?_ | refine br_x (fun hbr=>?_) fun hbr=>?_) | simp (disch:=first | omega | (simp only [lnA];omega) | simp only [lnB,Nat.reduceAdd]) only [go_sem,↓reduceIte,Nat.reduceAdd,reduceNeg,Int.reduceAdd,reduceSub,reduceMul,reduceLT,reduceLE,reduceEq,reduceToNat,Nat.reduceBEq,nat1,cvB_u])
    all_goals first | omega | rfl | exact absurd ‹quoteB (ofN q) = s› hne | skip
theorem unq_both (s : ByteArray) (hz : s.size≤1000000000) : ∃ (o : ByteArray) (b : Bool),Meets Try.prog 34 [(false,[.sc (.string s)])] [(false,[.sc (.string o)],true),(false,[.sc (.bool b)],true)] ∧
    Meets Try.prog 41 [(false,[.sc (.string s)])] [(false,[.sc (.string o)],true),(false,[.sc (.bool b)],true)]∧o.size≤s.size∧∀ t,quoteB t = s→o = t∧b = true:=by
  by_cases h : ∃ t,quoteB t = s
  · obtain ⟨t,rfl⟩:=h
    have h1:=quoteB_len t
    have h2 : ∀ n,n≤(qP t n).length:=by
      intro n
      induction n with
      | zero=>exact Nat.zero_le _
      | succ n ih =>
        rw [qP_step]
        have : 1 ≤ (qc (byteAt t n)).length := by unfold qc; repeat' split
                                                  all_goals simp
        omega
    have h3:=h2 t.size
    exact ⟨t,true,implUnqA_m t _ rfl (by omega),specUnqA_m t _ rfl (by omega),by omega,fun u hu=>⟨(quote_inj hu).symm,rfl⟩⟩
  · have h:=not_exists.1 h
    exact ⟨⟨#[]⟩,false,implUnqB_m s h hz,specUnqB_m s h hz,Nat.zero_le _,fun u hu=>absurd hu (h u)⟩
def u_impl_FormatTokens_h : List Hint:=[⟨2000001,5,⟨[(3,.p false [.own 0 1]),(22,.p false [.d 8]),(16,.p false [.d 9]),(14,.p false [.d 10]),(5,.p false [.ptr 1 0 0]),(9,.p false [.d 7]),(8,.p false [.d 5]),(7,.p false [.d 2]),(6,.p false [.d 0]),(2,.p false [.d 1]),(0,.p false [.d 0])],[(1,.var 0 29 [.d 9,.d 11]),(0,.row 1 9 1 12)],2,2,13,[(7,true)]⟩,[]⟩,⟨3000003,2,⟨[(3,.p false [.own 0 0]),(8,.p false [.d 5]),(7,.p false [.d 2]),(6,.p false [.d 0]),(2,.p false [.d 1]),(0,.p false [.d 0])],[(0,.row 0 9 1 6)],1,1,7,[]⟩,[⟨true,3,0,9,1⟩]⟩]
def u_impl_FormatTokens_d : List (Nat × Nat × Bool × List Nat):=[]
def u_impl_FormatTokens_j0 : UP:=.po (.k (.int .i64 1)) <| .po (.bin .add false 7 0) <| .jump 0 [0,2]
def u_impl_FormatTokens_l1 : UP:=.po (.bin .lss false 1 4) <| .ite 0 (.sel [1,2,7] <| .join 5 u_impl_FormatTokens_j0 <| .po (.isI 1) <| .po (.idx 2 2 1) <| .po (.k (.int .i64 0)) <| .po (.k (.string ⟨#[]⟩)) <| .sel [2,3,4] <| .cl 8 [(true,[1,0])] [(false,[none],true)] <| .po (.un .not 0) <| .ite 0 (.po (.k (.string ⟨#[]⟩)) <| .po (.sc 0) <| .ret [(false,[0])]) <| .po (.k (.int .i64 2)) <| .po (.bin .eql false 4 0) <| .ite 0 (.cl 24 [(false,[4])] [(false,[none],true)] <| .po (.sc 0) <| .po (.mk 9 1 [[0]]) <| .po (.flat 0) <| .po (.app 9 1 16 8 0) <| .jump 1 [3,8,5,7,0]) <| .po (.k (.int .i64 3)) <| .po (.bin .eql false 6 0) <| .ite 0 (.sel [2,4,6,7,8] <| .cl 25 [(false,[2])] [(false,[none],true)] <| .po (.sc 0) <| .po (.mk 9 1 [[0]]) <| .po (.flat 0) <| .po (.app 9 1 16 6 0) <| .jump 1 [3,6,4,5,0]) <| .po (.sc 6) <| .po (.mk 9 1 [[6]]) <| .po (.flat 0) <| .po (.app 9 1 16 9 0) <| .jump 1 [4,9,6,8,0]) <| .po (.k (.string ⟨#[32]⟩)) <| .sel [0,2] <| .cl 26 [(false,[1]),(false,[0])] [(false,[none],true)] <| .po (.sc 0) <| .ret [(false,[0])]
def u_impl_FormatTokens_u : UP:=.po (.k (.string ⟨#[]⟩)) <| .po (.lenL 1) <| .po (.k (.int .i64 0)) <| .po (.e 9 1) <| .loop [1,0] u_impl_FormatTokens_l1
theorem u_impl_FormatTokens_g : toUPf Try.prog 9 Try.f9 owA u_impl_FormatTokens_h u_impl_FormatTokens_d = some ([(false,1)],u_impl_FormatTokens_u):=by kernel_rfl
def u_impl_IsToken_h : List Hint:=[]
def u_impl_IsToken_d : List (Nat × Nat × Bool × List Nat):=[]
def u_impl_IsToken_u : UP:=.po (.k (.bool false)) <| .po (.k (.int .i64 1)) <| .po (.bin .eql false 3 0) <| .ite 0 (.sel [3] <| .cl 20 [(false,[0])] [(false,[none],true),(false,[none],true)] <| .ite 0 (.po (.k (.int .i64 0)) <| .po (.bin .geq false 2 0) <| .po (.sc 0) <| .ret [(false,[0])]) <| .po (.k (.bool false)) <| .po (.sc 0) <| .ret [(false,[0])]) <| .po (.k (.int .i64 2)) <| .po (.bin .eql false 5 0) <| .ite 0 (.po (.lenS 5) <| .po (.k (.int .i64 60)) <| .po (.bin .leq false 1 0) <| .po (.sc 0) <| .ret [(false,[0])]) <| .po (.k (.int .i64 3)) <| .po (.bin .eql false 7 0) <| .ite 0 (.sel [7] <| .cl 21 [(false,[0])] [(false,[none],true)] <| .po (.sc 0) <| .ret [(false,[0])]) <| .po (.k (.int .i64 4)) <| .po (.bin .eql false 9 0) <| .ite 0 (.sel [9] <| .cl 22 [(false,[0])] [(false,[none],true)] <| .po (.sc 0) <| .ret [(false,[0])]) <| .po (.k (.int .i64 5)) <| .po (.bin .eql false 11 0) <| .ite 0 (.sel [11] <| .cl 23 [(false,[0])] [(false,[none],true)] <| .po (.sc 0) <| .ret [(false,[0])]) <| .po (.k (.int .i64 6)) <| .po (.bin .eql false 13 0) <| .ite 0 (.po (.k (.string ⟨#[59]⟩)) <| .po (.bin .eql false 14 0) <| .po (.sc 0) <| .ret [(false,[0])]) <| .po (.k (.bool false)) <| .po (.sc 0) <| .ret [(false,[0])]
theorem u_impl_IsToken_g : toUPf Try.prog 8 Try.f8 owA u_impl_IsToken_h u_impl_IsToken_d = some ([(true,2)],u_impl_IsToken_u):=by kernel_rfl
def u_impl_allSigns_h : List Hint:=[]
def u_impl_allSigns_d : List (Nat × Nat × Bool × List Nat):=[]
def u_impl_allSigns_u : UP:=.po (.k (.string ⟨#[60,60,45]⟩)) <| .po (.k (.string ⟨#[37,47,37]⟩)) <| .po (.k (.string ⟨#[60,45]⟩)) <| .po (.k (.string ⟨#[60,61]⟩)) <| .po (.k (.string ⟨#[62,61]⟩)) <| .po (.k (.string ⟨#[61,61]⟩)) <| .po (.k (.string ⟨#[33,61]⟩)) <| .po (.k (.string ⟨#[38,38]⟩)) <| .po (.k (.string ⟨#[124,124]⟩)) <| .po (.k (.string ⟨#[37,37]⟩)) <| .po (.k (.string ⟨#[60]⟩)) <| .po (.k (.string ⟨#[62]⟩)) <| .po (.k (.string ⟨#[61]⟩)) <| .po (.k (.string ⟨#[33]⟩)) <| .po (.k (.string ⟨#[38]⟩)) <| .po (.k (.string ⟨#[124]⟩)) <| .po (.k (.string ⟨#[43]⟩)) <| .po (.k (.string ⟨#[45]⟩)) <| .po (.k (.string ⟨#[42]⟩)) <| .po (.k (.string ⟨#[47]⟩)) <| .po (.k (.string ⟨#[94]⟩)) <| .po (.k (.string ⟨#[58]⟩)) <| .po (.k (.string ⟨#[126]⟩)) <| .po (.k (.string ⟨#[36]⟩)) <| .po (.k (.string ⟨#[40]⟩)) <| .po (.k (.string ⟨#[41]⟩)) <| .po (.k (.string ⟨#[91]⟩)) <| .po (.k (.string ⟨#[93]⟩)) <| .po (.k (.string ⟨#[123]⟩)) <| .po (.k (.string ⟨#[125]⟩)) <| .po (.k (.string ⟨#[44]⟩)) <| .po (.sc 30) <| .po (.sc 29) <| .po (.sc 28) <| .po (.sc 27) <| .po (.sc 26) <| .po (.sc 25) <| .po (.sc 24) <| .po (.sc 23) <| .po (.sc 22) <| .po (.sc 21) <| .po (.sc 20) <| .po (.sc 19) <| .po (.sc 18) <| .po (.sc 17) <| .po (.sc 16) <| .po (.sc 15) <| .po (.sc 14) <| .po (.sc 13) <| .po (.sc 12) <| .po (.sc 11) <| .po (.sc 10) <| .po (.sc 9) <| .po (.sc 8) <| .po (.sc 7) <| .po (.sc 6) <| .po (.sc 5) <| .po (.sc 4) <| .po (.sc 3) <| .po (.sc 2) <| .po (.sc 1) <| .po (.sc 0) <| .po (.mk 9 1 [[30],[29],[28],[27],[26],[25],[24],[23],[22],[21],[20],[19],[18],[17],[16],[15],[14],[13],[12],[11],[10],[9],[8],[7],[6],[5],[4],[3],[2],[1],[0]]) <| .ret [(false,[0])]
theorem u_impl_allSigns_g : toUPf Try.prog 51 Try.f51 owA u_impl_allSigns_h u_impl_allSigns_d = some ([],u_impl_allSigns_u):=by kernel_rfl
def u_impl_isSign_h : List Hint:=[]
def u_impl_isSign_d : List (Nat × Nat × Bool × List Nat):=[]
def u_impl_isSign_u : UP:=.po (.k (.bool false)) <| .cl 51 [] [(false,[some (9,1)],true)] <| .cl 50 [(false,[0]),(false,[2])] [(false,[none],true)] <| .po (.sc 0) <| .ret [(false,[0])]
theorem u_impl_isSign_g : toUPf Try.prog 23 Try.f23 owA u_impl_isSign_h u_impl_isSign_d = some ([(false,1)],u_impl_isSign_u):=by kernel_rfl
def u_impl_isWord_h : List Hint:=[]
def u_impl_isWord_d : List (Nat × Nat × Bool × List Nat):=[]
def u_impl_isWord_u : UP:=.po (.k (.bool false)) <| .cl 49 [(false,[1])] [(false,[none],true)] <| .po (.sc 0) <| .ret [(false,[0])]
theorem u_impl_isWord_g : toUPf Try.prog 22 Try.f22 owA u_impl_isWord_h u_impl_isWord_d = some ([(false,1)],u_impl_isWord_u):=by kernel_rfl
def u_spec_FormatTokens_h : List Hint:=[⟨2000001,3,⟨[(3,.p false [.d 8]),(18,.p false [.d 9]),(16,.p false [.d 10]),(8,.p false [.d 7]),(4,.p false [.d 4]),(2,.p false [.d 1]),(0,.p false [.d 0])],[],0,0,11,[(7,true)]⟩,[]⟩,⟨3000003,2,⟨[(4,.p false [.d 4]),(3,.p false [.d 5]),(2,.p false [.d 1]),(0,.p false [.d 0])],[],0,0,6,[]⟩,[]⟩]
def u_spec_FormatTokens_d : List (Nat × Nat × Bool × List Nat):=[]
def u_spec_FormatTokens_j0 : UP:=.po (.k (.int .i64 1)) <| .po (.bin .add false 5 0) <| .jump 0 [0,4]
def u_spec_FormatTokens_l1 : UP:=.po (.lenL 5) <| .po (.bin .lss false 2 0) <| .ite 0 (.sel [2,3,7] <| .join 3 u_spec_FormatTokens_j0 <| .po (.isI 1) <| .po (.idx 2 2 1) <| .cl 27 [(true,[1,0])] [(false,[none],true)] <| .po (.un .not 0) <| .ite 0 (.po (.k (.string ⟨#[]⟩)) <| .po (.sc 0) <| .ret [(false,[0])]) <| .po (.k (.int .i64 0)) <| .po (.bin .gtr false 6 0) <| .ite 0 (.po (.k (.string ⟨#[32]⟩)) <| .po (.bin .add false 7 0) <| .po (.isI 9) <| .po (.idx 2 10 9) <| .sel [0,1,2,4,6] <| .cl 28 [(true,[1,0])] [(false,[none],true)] <| .po (.bin .add false 3 0) <| .jump 1 [0,5,6]) <| .po (.isI 7) <| .po (.idx 2 8 7) <| .sel [0,1,2,4,8] <| .cl 28 [(true,[1,0])] [(false,[none],true)] <| .po (.bin .add false 5 0) <| .jump 1 [0,4,5]) <| .po (.sc 2) <| .ret [(false,[2])]
def u_spec_FormatTokens_u : UP:=.po (.k (.string ⟨#[]⟩)) <| .po (.k (.string ⟨#[]⟩)) <| .po (.k (.int .i64 0)) <| .loop [0,1] u_spec_FormatTokens_l1
theorem u_spec_FormatTokens_g : toUPf Try.prog 10 Try.f10 owA u_spec_FormatTokens_h u_spec_FormatTokens_d = some ([(false,1)],u_spec_FormatTokens_u):=by kernel_rfl
def u_spec_IsToken_h : List Hint:=[]
def u_spec_IsToken_d : List (Nat × Nat × Bool × List Nat):=[(12,5,false,[])]
def u_spec_IsToken_u : UP:=.po (.k (.bool false)) <| .po (.k (.int .i64 1)) <| .po (.bin .eql false 3 0) <| .ite 0 (.sel [3] <| .cl 40 [(false,[0])] [(false,[none],true),(false,[none],true)] <| .ite 0 (.po (.k (.int .i64 0)) <| .po (.bin .geq false 2 0) <| .ite 0 (.po (.k (.int .i64 0)) <| .po (.chr 5 0) <| .po (.k (.int .u8 45)) <| .po (.bin .neq false 1 0) <| .po (.sc 0) <| .ret [(false,[0])]) <| .po (.k (.bool false)) <| .po (.sc 0) <| .ret [(false,[0])]) <| .po (.k (.bool false)) <| .po (.k (.bool false)) <| .po (.sc 0) <| .ret [(false,[0])]) <| .po (.k (.int .i64 2)) <| .po (.bin .eql false 5 0) <| .ite 0 (.po (.lenS 5) <| .po (.k (.int .i64 60)) <| .po (.bin .leq false 1 0) <| .po (.sc 0) <| .ret [(false,[0])]) <| .po (.k (.int .i64 3)) <| .po (.bin .eql false 7 0) <| .ite 0 (.sel [7] <| .cl 42 [(false,[0])] [(false,[none],true)] <| .po (.sc 0) <| .ret [(false,[0])]) <| .po (.k (.int .i64 4)) <| .po (.bin .eql false 9 0) <| .ite 0 (.sel [9] <| .cl 44 [(false,[0])] [(false,[none],true)] <| .po (.sc 0) <| .ret [(false,[0])]) <| .po (.k (.int .i64 5)) <| .po (.bin .eql false 11 0) <| .ite 0 (.sel [11] <| .cl 46 [] [(false,[some (9,1)],true)] <| .po (.sc 1) <| .cl 19 [(false,[0]),(false,[1])] [(false,[none],true)] <| .po (.sc 0) <| .po (.sc 0) <| .ret [(false,[0])]) <| .po (.k (.int .i64 6)) <| .po (.bin .eql false 13 0) <| .ite 0 (.po (.k (.string ⟨#[59]⟩)) <| .po (.bin .eql false 14 0) <| .po (.sc 0) <| .ret [(false,[0])]) <| .po (.k (.bool false)) <| .po (.sc 0) <| .ret [(false,[0])]
theorem u_spec_IsToken_g : toUPf Try.prog 27 Try.f27 owA u_spec_IsToken_h u_spec_IsToken_d = some ([(true,2)],u_spec_IsToken_u):=by kernel_rfl
def u_spec_l15Signs_h : List Hint:=[]
def u_spec_l15Signs_d : List (Nat × Nat × Bool × List Nat):=[]
def u_spec_l15Signs_u : UP:=.po (.k (.string ⟨#[60,60,45]⟩)) <| .po (.k (.string ⟨#[37,47,37]⟩)) <| .po (.k (.string ⟨#[60,45]⟩)) <| .po (.k (.string ⟨#[60,61]⟩)) <| .po (.k (.string ⟨#[62,61]⟩)) <| .po (.k (.string ⟨#[61,61]⟩)) <| .po (.k (.string ⟨#[33,61]⟩)) <| .po (.k (.string ⟨#[38,38]⟩)) <| .po (.k (.string ⟨#[124,124]⟩)) <| .po (.k (.string ⟨#[37,37]⟩)) <| .po (.k (.string ⟨#[60]⟩)) <| .po (.k (.string ⟨#[62]⟩)) <| .po (.k (.string ⟨#[61]⟩)) <| .po (.k (.string ⟨#[33]⟩)) <| .po (.k (.string ⟨#[38]⟩)) <| .po (.k (.string ⟨#[124]⟩)) <| .po (.k (.string ⟨#[43]⟩)) <| .po (.k (.string ⟨#[45]⟩)) <| .po (.k (.string ⟨#[42]⟩)) <| .po (.k (.string ⟨#[47]⟩)) <| .po (.k (.string ⟨#[94]⟩)) <| .po (.k (.string ⟨#[58]⟩)) <| .po (.k (.string ⟨#[126]⟩)) <| .po (.k (.string ⟨#[36]⟩)) <| .po (.k (.string ⟨#[40]⟩)) <| .po (.k (.string ⟨#[41]⟩)) <| .po (.k (.string ⟨#[91]⟩)) <| .po (.k (.string ⟨#[93]⟩)) <| .po (.k (.string ⟨#[123]⟩)) <| .po (.k (.string ⟨#[125]⟩)) <| .po (.k (.string ⟨#[44]⟩)) <| .po (.sc 30) <| .po (.sc 29) <| .po (.sc 28) <| .po (.sc 27) <| .po (.sc 26) <| .po (.sc 25) <| .po (.sc 24) <| .po (.sc 23) <| .po (.sc 22) <| .po (.sc 21) <| .po (.sc 20) <| .po (.sc 19) <| .po (.sc 18) <| .po (.sc 17) <| .po (.sc 16) <| .po (.sc 15) <| .po (.sc 14) <| .po (.sc 13) <| .po (.sc 12) <| .po (.sc 11) <| .po (.sc 10) <| .po (.sc 9) <| .po (.sc 8) <| .po (.sc 7) <| .po (.sc 6) <| .po (.sc 5) <| .po (.sc 4) <| .po (.sc 3) <| .po (.sc 2) <| .po (.sc 1) <| .po (.sc 0) <| .po (.mk 9 1 [[30],[29],[28],[27],[26],[25],[24],[23],[22],[21],[20],[19],[18],[17],[16],[15],[14],[13],[12],[11],[10],[9],[8],[7],[6],[5],[4],[3],[2],[1],[0]]) <| .ret [(false,[0])]
theorem u_spec_l15Signs_g : toUPf Try.prog 46 Try.f46 owA u_spec_l15Signs_h u_spec_l15Signs_d = some ([],u_spec_l15Signs_u):=by kernel_rfl
def u_spec_l15Text_h : List Hint:=[]
def u_spec_l15Text_d : List (Nat × Nat × Bool × List Nat):=[]
def u_spec_l15Text_u : UP:=.po (.k (.string ⟨#[]⟩)) <| .po (.k (.int .i64 2)) <| .po (.bin .eql false 3 0) <| .ite 0 (.sel [3] <| .cl 52 [(false,[0])] [(false,[none],true)] <| .po (.sc 0) <| .ret [(false,[0])]) <| .po (.k (.int .i64 3)) <| .po (.bin .eql false 5 0) <| .ite 0 (.sel [5] <| .cl 53 [(false,[0])] [(false,[none],true)] <| .po (.sc 0) <| .ret [(false,[0])]) <| .po (.sc 5) <| .ret [(false,[5])]
theorem u_spec_l15Text_g : toUPf Try.prog 28 Try.f28 owA u_spec_l15Text_h u_spec_l15Text_d = some ([(true,2)],u_spec_l15Text_u):=by kernel_rfl
def u_impl_joinTexts_h : List Hint:=[⟨2000001,3,⟨[(5,.p false [.d 9]),(16,.p false [.d 10]),(7,.p false [.d 11]),(6,.p false [.d 6]),(11,.p false [.d 8]),(10,.p false [.d 6]),(9,.p false [.d 4]),(8,.p false [.d 0]),(4,.p false [.d 2]),(0,.p false [.d 0]),(1,.p false [.d 1])],[],0,0,12,[(8,true)]⟩,[]⟩,⟨3000003,2,⟨[(10,.p false [.d 6]),(9,.p false [.d 4]),(8,.p false [.d 0]),(5,.p false [.d 7]),(4,.p false [.d 2]),(0,.p false [.d 0]),(1,.p false [.d 1])],[],0,0,8,[]⟩,[]⟩]
def u_impl_joinTexts_d : List (Nat × Nat × Bool × List Nat):=[]
def u_impl_joinTexts_j0 : UP:=.po (.k (.int .i64 1)) <| .po (.bin .add false 5 0) <| .jump 0 [0,4]
def u_impl_joinTexts_l1 : UP:=.po (.bin .lss false 1 3) <| .ite 0 (.sel [1,2,7,8] <| .join 3 u_impl_joinTexts_j0 <| .po (.isI 1) <| .po (.idx 1 3 1) <| .po (.k (.int .i64 0)) <| .po (.bin .gtr false 3 0) <| .ite 0 (.po (.bin .add false 3 5) <| .po (.bin .add false 0 3) <| .jump 1 [0,2,4]) <| .po (.bin .add false 3 2) <| .jump 1 [0,1,3]) <| .po (.sc 1) <| .ret [(false,[1])]
def u_impl_joinTexts_u : UP:=.po (.k (.string ⟨#[]⟩)) <| .po (.k (.string ⟨#[]⟩)) <| .po (.lenL 3) <| .po (.k (.int .i64 0)) <| .loop [0,2] u_impl_joinTexts_l1
theorem u_impl_joinTexts_g : toUPf Try.prog 26 Try.f26 owA u_impl_joinTexts_h u_impl_joinTexts_d = some ([(false,1),(false,1)],u_impl_joinTexts_u):=by kernel_rfl
open Go.RowKit Go.ChangeShapes Go.WideShapes Go.Deep
def OpD {α : Type} (e : α→List DV) (Ok : α→Prop) (P : Program) (t : TypeId) : Prop :=
  ∀ (H : Type) (enc : TypeId × Value→H) (w : World) (base : Nat) (spare : Nat→Bool) (held : Bool) (fuel : Nat) (cs : List Value) (x : DataW H × List MemPlace),
    DataW.trod enc P w base spare held fuel t cs = some x→∃ a : α,RepL w (· < w.heap.size) cs (e a)∧Ok a
section
variable {P : Program} {t : TypeId}
theorem opD_u8 (ht : P.underlying t = some (.int .u8)) : OpD (fun n : Int=>[.sc (.int .u8 n)]) (fun n=>0≤n∧n < 256) P t:=by
  intro H enc w base spare held fuel cs x h
  obtain ⟨n,rfl,-,hn⟩:=DataW.trod_int ht h
  refine ⟨n,.sc trivial .nil,?_⟩
  simp [Lit.wf,IntKind.min,IntKind.max,IntKind.bits,IntKind.signed] at hn
  omega
theorem repl_flat {w : World} {A : Nat→Prop} {α : Type} {e : α→List DV} (a : Nat→α) (cs : Nat→List Value) : ∀ n,(∀ i,i < n→RepL w A (cs i) (e (a i)))→RepL w A ((List.range n).map cs).flatten (((List.range n).map a).map e).flatten:=by
  intro n
  induction n with
  | zero=>intro _;exact .nil
  | succ n ih =>
    intro h
    simp only [List.range_succ,List.map_append,List.map_cons,List.map_nil,List.flatten_append,List.flatten_cons,List.flatten_nil,List.append_nil]
    exact (ih fun i hi=>h i (by omega)).app (h n (by omega))
theorem slice_core {w : World} {α : Type} {e : α→List DV} {Ok : α→Prop} {k : Nat} (te : TypeId) (hk : 0 < k) (hl : ∀ a,(e a).length = k) {a : Addr} {len cap base : Nat} (hle : len≤cap) (hm : cap≤9223372036854775807)
    (hi : ∀ i,i < len→∃ cs',w.cells? base (a.add (i * k)) k = some cs'∧∃ y,RepL w (· < w.heap.size) cs' (e y)∧Ok y) :
    ∃ l : List α,RepL w (· < w.heap.size) [.slice (some a) len cap] [.sl te k (l.map e)]∧l.length≤9223372036854775807∧∀ x ∈ l,Ok x:=by
  rcases Nat.eq_zero_or_pos len with h0 | h0
  · subst h0
    exact ⟨[],.sl0 hm .nil,by simp,by simp⟩
  · have hch : ∀ i,i < len→∃ p : α × List Value,RepL w (· < w.heap.size) p.2 (e p.1)∧Ok p.1∧∀ j,j < k→w.cell? (a.add (i * k + j)) = p.2[j]?:=by
      intro i hil
      obtain ⟨cs',hcs,y,hR,hOk⟩:=hi i hil
      obtain ⟨-,hcl,hat⟩:=World.cells?_some hcs
      exact ⟨(y,cs'),hR,hOk,fun j hj=>by rw [← add_add'];exact hat j hj⟩
    have hdef : ∃ p : α × List Value,True:=⟨(hch 0 h0).choose,trivial⟩
    obtain ⟨p0,-⟩:=hdef
    have hch2 : ∀ i,∃ p : α × List Value,i < len→RepL w (· < w.heap.size) p.2 (e p.1)∧Ok p.1∧∀ j,j < k→w.cell? (a.add (i * k + j)) = p.2[j]?:=by
      intro i
      by_cases h : i < len
      · obtain ⟨p,hp⟩:=hch i h;exact ⟨p,fun _=>hp⟩
      · exact ⟨p0,fun h'=>(h h').elim⟩
    obtain ⟨f,hf⟩:=Classical.axiomOfChoice hch2
    have hspot : a.spot = none:=by
      have hcl : (f 0).2.length = k:=by rw [(hf 0 h0).1.len,hl]
      have hc0:=(hf 0 h0).2.2 0 hk
      rw [List.getElem?_eq_getElem (by omega)] at hc0
      cases hs : a.spot with
      | none=>rfl
      | some q =>
        unfold World.cell? Addr.add at hc0
        simp [hs] at hc0
        split at hc0 <;> simp at hc0
    obtain ⟨b,off,sp⟩:=a
    simp only at hspot
    subst hspot
    have hadd : ∀ j,(⟨b,off,none⟩ : Addr).add j = ⟨b,off + j,none⟩:=by
      intro j;unfold Addr.add;split
      · next h=>rw [h];rfl
      · rfl
    have hlen : ∀ c ∈ ((List.range len).map fun i=>(f i).2),c.length = k:=by
      intro c hc
      obtain ⟨i,hi,rfl⟩:=List.mem_map.1 hc
      rw [(hf i (List.mem_range.1 hi)).1.len,hl]
    have hR:=repl_flat (w:=w) (A:=(· < w.heap.size)) (e:=e) (fun i=>(f i).1) (fun i=>(f i).2) len (fun i hi=>(hf i hi).1)
    have hat : At w b off ((List.range len).map fun i=>(f i).2).flatten:=by
      intro j u hu
      have hjl : j < len * k:=by
        have:=(List.getElem?_eq_some_iff.1 hu).1
        rw [flat_length hlen] at this;simpa using this
      have hi : j / k < len:=Nat.div_lt_of_lt_mul (by rw [Nat.mul_comm];exact hjl)
      have h3:=(hf _ hi).2.2 (j % k) (Nat.mod_lt _ hk)
      rw [Nat.mul_comm,Nat.div_add_mod,hadd] at h3
      rw [h3]
      have hg : ((List.range len).map fun i=>(f i).2)[j / k]? = some (f (j / k)).2:=by simp [List.getElem?_map,List.getElem?_range hi]
      have hfa:=flat_at hlen hg
      have : ((((List.range len).map fun i=>(f i).2).flatten.drop (j / k * k)).take k)[j % k]? = some u:=by
        rw [List.getElem?_take,if_pos (Nat.mod_lt _ hk),List.getElem?_drop,Nat.mul_comm,Nat.div_add_mod];exact hu
      rw [hfa] at this;exact this
    have hcell0 : w.cell? ⟨b,off,none⟩ ≠ none:=by
      have hcl : (f 0).2.length = k:=by rw [(hf 0 h0).1.len,hl]
      have hc0:=(hf 0 h0).2.2 0 hk
      rw [List.getElem?_eq_getElem (by omega),hadd] at hc0
      simp only [Nat.zero_mul,Nat.add_zero] at hc0
      rw [hc0];simp
    refine ⟨(List.range len).map fun i=>(f i).1,.sl (A:=(· < w.heap.size)) ?_ (by simp) h0 hle hm hk (by intro c hc;obtain ⟨x,_,rfl⟩:=List.mem_map.1 hc;exact hl x) hR hat .nil,?_,?_⟩
    · apply Classical.byContradiction
      intro hb
      apply hcell0
      have hn : w.heap[b]? = none:=by simp;omega
      simp [World.cell?,hn]
    · simp;omega
    · intro x hx
      obtain ⟨i,hi,rfl⟩:=List.mem_map.1 hx
      exact (hf i (List.mem_range.1 hi)).2.1
theorem opD_slice {α : Type} {e : α→List DV} {Ok : α→Prop} {el : TypeId} {k : Nat} (te : TypeId) (ht : P.underlying t = some (.slice el)) (hc : P.cellsOf el = k) (hk : 0 < k) (hl : ∀ a,(e a).length = k) (ho : OpD e Ok P el) :
    OpD (fun l : List α=>[.sl te k (l.map e)]) (fun l=>l.length≤9223372036854775807∧∀ x ∈ l,Ok x) P t:=by
  intro H enc w base spare held fuel cs x h
  rcases open_slice ht h with ⟨rfl,-⟩ | ⟨a,len,cap,m,n,D,Pl,rfl,hb,hle,hm,hmm,hx,hi⟩
  · exact ⟨[],.sl0 (Nat.zero_le _) .nil,by simp,by simp⟩
  · rw [hc] at hi
    have hlm : len≤m:=by rw [hmm];split <;> omega
    exact slice_core te hk hl hle hm fun i hil=>by
      obtain ⟨cs',hcs,htr⟩:=hi i (by omega)
      exact ⟨cs',hcs,ho H enc w base spare held n cs' _ htr⟩
theorem argD_one {α : Type} {e : α→List DV} {Ok : α→Prop} (ho : OpD e Ok P t) {H : Type} {enc : TypeId × Value→H} {w : World} {base b : Nat} {spare : Nat→Bool} {held : Bool} {v : Value} {d : DataW H} {p : List MemPlace}
    (hv : v.cells.toList = [v]) (h : DataW.Trod enc P w b spare held t v d p) : ∃ a,ArgR w (· < w.heap.size) v (false,e a)∧Ok a:=by
  obtain ⟨fuel,hf⟩:=h
  obtain ⟨a,hr,hk⟩:=ho H enc w b spare held fuel _ _ hf
  rw [hv] at hr
  exact ⟨a,hr,hk⟩
theorem argD_sl {α : Type} {e : α→List DV} {Ok : α→Prop} (ho : OpD e Ok P t) {el : TypeId} (ht : P.underlying t = some (.slice el)) {H : Type} {enc : TypeId × Value→H} {w : World} {base b : Nat} {spare : Nat→Bool} {held : Bool} {v : Value} {d : DataW H} {p : List MemPlace}
    (h : DataW.Trod enc P w b spare held t v d p) (ok : Value.okWide P w .any base t v) : ∃ a,ArgR w (· < w.heap.size) v (false,e a)∧Ok a:=by
  obtain ⟨_,_,_,rfl⟩:=okWide_slice ht ok
  exact argD_one (base:=base) ho rfl h
end
theorem run_law {P : Program} {f : FuncId} {args : List (Bool × List DV)} {v : Value} (h : Meets P f args [(false,[.sc v],true)]) {w : World} {vs : List Value} (ha : ArgsR w (· < w.heap.size) vs args) :
    Calls P f vs.toArray w fun e w'=>e = .returned v∧Below w.heap.size w w':=by
  refine (h.2 w (· < w.heap.size) vs (fun _ h=>h) ha).mono ?_
  rintro e w' ⟨u,rfl,⟨us,fs,h1,h2,h3,-,h4⟩,hb⟩
  refine ⟨?_,hb⟩
  have h1 : us = [u]:=h1
  subst h1
  match fs,h3 with
  | [f'],_ =>
    obtain ⟨vals,e1,e2⟩:=h4 0 u _ f' rfl rfl rfl
    have e1 : vals = [u]:=e1
    subst e1
    have e2 : OwnL w' w.heap.size [u] [.sc v] f':=e2
    rw [(RepL.scOf e2.rep).1]
end Go.Proofs.Ytkeoohonidpjeaa
namespace Go.Proofs.Ytkeoohonidpjeaa
open Go.RowKit
set_option maxRecDepth 100000
def sumOf {α : Type} (f : α→Nat) : List α→Nat
  | []=>0
  | x :: l=>f x + sumOf f l
theorem sumOf_mem {α : Type} (f : α→Nat) {l : List α} {x : α} (h : x ∈ l) : f x≤sumOf f l:=by
  induction l with
  | nil=>cases h
  | cons y l ih => rcases List.mem_cons.1 h with rfl | h
                   · simp [sumOf]
                   · have:=ih h;simp only [sumOf];omega
theorem getD_mem {α : Type} [Inhabited α] {l : List α} {i : Nat} (h : i < l.length) : l.getD i default ∈ l:=by
  rw [List.getD_eq_getElem?_getD,List.getElem?_eq_getElem h];exact List.getElem_mem h
open Go.RowKit Go.ChangeShapes Go.WideShapes Go.Deep
structure Fml where
  response : ByteArray
  intercept : Bool
  variables : List ByteArray
  terms : List Int
  deriving DecidableEq
instance : Inhabited Fml:=⟨⟨default,default,default,default⟩⟩
def joinP (l : List ByteArray) (sep : ByteArray) : Nat→ByteArray
  | 0=>⟨#[]⟩
  | i + 1=>(if i = 0 then joinP l sep i else joinP l sep i ++ sep) ++ l.getD i default
def joinB (l : List ByteArray) (sep : ByteArray) : ByteArray:=joinP l sep l.length
theorem joinP_size {l : List ByteArray} {sep : ByteArray} {m : Nat} (hl : ∀ x ∈ l,x.size≤m) : ∀ i,(joinP l sep i).size≤i * (m + sep.size)
  | 0=>Nat.zero_le _
  | i + 1=>by
    have h1:=joinP_size (sep:=sep) hl i
    have h2:=getD_le hl i
    rw [Nat.succ_mul]
    unfold joinP
    rw [ByteArray.size_append]
    split
    · omega
    · rw [ByteArray.size_append];omega
theorem joinTexts_m (t : Nat) (l : List ByteArray) (sep : ByteArray) (hl : l.length≤10000000) (hx : ∀ x ∈ l,x.size≤10000000) (hs : sep.size≤10000000) : Meets Try.prog 26 [(false,[.sl t 1 (l.map encS)]),(false,[.sc (.string sep)])] [(false,[.sc (.string (joinB l sep))],true)]:=by
  refine meets_upf Try.func26 u_impl_joinTexts_g rfl ?_;simp only [u_impl_joinTexts_u]
  simp (disch:=first | omega | (simp only [lnA];omega) | simp only [lnB,Nat.reduceAdd]) only [go_sem,↓reduceIte,Nat.reduceAdd,Int.reduceNeg,Int.reduceAdd,Int.reduceSub,Int.reduceMul,Int.reduceLT,Int.reduceLE,Int.reduceEq,Int.reduceToNat,Nat.reduceBEq,nat1,true_and]
  refine lp_n l.length (fun i=>[.sc (.int .i64 i),.sc (.string (joinP l sep i))]) rfl fun i hi=>?_
  have h1:=joinP_size (sep:=sep) hx i
  have h2:=getD_le hx i
  have h3 : i * (10000000 + sep.size)≤10000000 * 20000000:=Nat.mul_le_mul (by omega) (by omega)
  have e1 : (joinP l sep i).size + sep.size≤maxLen:=by unfold maxLen;omega
  have e2 : (joinP l sep i).size + (l.getD i default).size≤maxLen:=by unfold maxLen;omega
  have e3 : ((joinP l sep i) ++ sep).size + (l.getD i default).size≤maxLen:=by rw [ByteArray.size_append];unfold maxLen;omega
  have hj : joinP l sep (i + 1) = (if i = 0 then joinP l sep i else joinP l sep i ++ sep) ++ l.getD i default:=rfl
  simp only [u_impl_joinTexts_l1]
  repeat' (first | (with_reducible first | refine jn_in ?_ | refine cl_ok (by assumption) rfl ?_ | refine cl_okP (by assumption) rfl ?_ | refine br_x (fun hbr=>?_) fun hbr=>?_) | simp (disch:=first | omega | (simp only [lnA];omega) | simp only [lnB,Nat.reduceAdd]) only [go_sem,↓reduceIte,Nat.reduceAdd,Int.reduceNeg,Int.reduceAdd,Int.reduceSub,Int.reduceMul,Int.reduceLT,Int.reduceLE,Int.reduceEq,Int.reduceToNat,Nat.reduceBEq,nat1,e_cat e1,e_cat e2,e_cat e3,u_impl_joinTexts_j0])
  · exact ⟨by rw [hj,if_neg (by omega)],by omega⟩
  · exact ⟨by rw [hj,if_pos (by omega)],by omega⟩
  · obtain rfl : i = l.length:=by omega
    rfl
structure Tok where
  kind : Int
  text : ByteArray
  deriving DecidableEq
instance : Inhabited Tok:=⟨⟨default,default⟩⟩
def encTok (x : Tok) : List DV:=[.sc (.int .i64 x.kind),.sc (.string x.text)]
def encToks (l : List Tok) : DV:=.sl 29 2 (l.map encTok)
def wtTok (x : Tok) : Nat:=x.text.size
def wtToks (l : List Tok) : Nat:=l.length + sumOf wtTok l
theorem ix_Tok {t : Nat} {l : List Tok} {kd : IntKind} {z : Int} (h : 0≤z) (h1 : z < l.length) : eIdx 2 (some (.sl t 2 (l.map encTok))) (some (.sc (.int kd z))) = some (encTok (l.getD z.toNat default)):=e_idx_map (fun _=>rfl) h h1
open Int (reduceNeg reduceSub reduceMul reduceLT reduceLE reduceEq reduceToNat)
def sigL : List ByteArray:=[⟨#[60,60,45]⟩,⟨#[37,47,37]⟩,⟨#[60,45]⟩,⟨#[60,61]⟩,⟨#[62,61]⟩,⟨#[61,61]⟩,⟨#[33,61]⟩,⟨#[38,38]⟩,⟨#[124,124]⟩,⟨#[37,37]⟩,⟨#[60]⟩,⟨#[62]⟩,⟨#[61]⟩,⟨#[33]⟩,⟨#[38]⟩,⟨#[124]⟩,⟨#[43]⟩,⟨#[45]⟩,⟨#[42]⟩,⟨#[47]⟩,⟨#[94]⟩,⟨#[58]⟩,⟨#[126]⟩,⟨#[36]⟩,⟨#[40]⟩,⟨#[41]⟩,⟨#[91]⟩,⟨#[93]⟩,⟨#[123]⟩,⟨#[125]⟩,⟨#[44]⟩]
theorem allSigns_m : Meets Try.prog 51 [] [(false,[encSs sigL],true)]:=by
  refine meets_upf Try.func51 u_impl_allSigns_g rfl ?_;simp only [u_impl_allSigns_u]
  repeat' (first | (with_reducible first | refine jn_in ?_ | refine cl_ok (by assumption) rfl ?_ | refine cl_okP (by assumption) rfl ?_ | refine br_x (fun hbr=>?_) fun hbr=>?_) | simp (disch:=first | omega | (simp only [lnA];omega) | simp only [lnB,Nat.reduceAdd]) only [go_sem,↓reduceIte,Nat.reduceAdd,reduceNeg,Int.reduceAdd,reduceSub,reduceMul,reduceLT,reduceLE,reduceEq,reduceToNat,Nat.reduceBEq,true_and])
  rfl
theorem l15Signs_m : Meets Try.prog 46 [] [(false,[encSs sigL],true)]:=by
  refine meets_upf Try.func46 u_spec_l15Signs_g rfl ?_;simp only [u_spec_l15Signs_u]
  repeat' (first | (with_reducible first | refine jn_in ?_ | refine cl_ok (by assumption) rfl ?_ | refine cl_okP (by assumption) rfl ?_ | refine br_x (fun hbr=>?_) fun hbr=>?_) | simp (disch:=first | omega | (simp only [lnA];omega) | simp only [lnB,Nat.reduceAdd]) only [go_sem,↓reduceIte,Nat.reduceAdd,reduceNeg,Int.reduceAdd,reduceSub,reduceMul,reduceLT,reduceLE,reduceEq,reduceToNat,Nat.reduceBEq,true_and])
  rfl
theorem isSign_m (s : ByteArray) : Meets Try.prog 23 [(false,[.sc (.string s)])] [(false,[.sc (.bool (hasB sigL s))],true)]:=by
  have h1:=allSigns_m
  have h2:=hasText_m 9 sigL s (by decide)
  simp only [encSs] at h1
  refine meets_upf Try.func23 u_impl_isSign_g rfl ?_;simp only [u_impl_isSign_u]
  repeat' (first | (with_reducible first | refine jn_in ?_ | refine cl_ok (by assumption) rfl ?_ | refine cl_okP (by assumption) rfl ?_ | refine br_x (fun hbr=>?_) fun hbr=>?_) | simp (disch:=first | omega | (simp only [lnA];omega) | simp only [lnB,Nat.reduceAdd]) only [go_sem,↓reduceIte,Nat.reduceAdd,reduceNeg,Int.reduceAdd,reduceSub,reduceMul,reduceLT,reduceLE,reduceEq,reduceToNat,Nat.reduceBEq,true_and])
  rfl
theorem isWord_m (s : ByteArray) : Meets Try.prog 22 [(false,[.sc (.string s)])] [(false,[.sc (.bool (resB s))],true)]:=by
  have h2:=isReserved_m s
  refine meets_upf Try.func22 u_impl_isWord_g rfl ?_;simp only [u_impl_isWord_u]
  repeat' (first | (with_reducible first | refine jn_in ?_ | refine cl_ok (by assumption) rfl ?_ | refine cl_okP (by assumption) rfl ?_ | refine br_x (fun hbr=>?_) fun hbr=>?_) | simp (disch:=first | omega | (simp only [lnA];omega) | simp only [lnB,Nat.reduceAdd]) only [go_sem,↓reduceIte,Nat.reduceAdd,reduceNeg,Int.reduceAdd,reduceSub,reduceMul,reduceLT,reduceLE,reduceEq,reduceToNat,Nat.reduceBEq,true_and])
  rfl
def tokB (x : Tok) : Bool :=
  if x.kind = 1 then prsB x.text && decide (0≤(if prsB x.text = true then prsV x.text else 0))
  else if x.kind = 2 then decide (x.text.size≤60) else if x.kind = 3 then nameB x.text else if x.kind = 4 then resB x.text else if x.kind = 5 then hasB sigL x.text else if x.kind = 6 then decide (x.text = ⟨#[59]⟩) else false
theorem prs_pos {s : ByteArray} (h : prsB s = true) : 1≤s.size:=by
  unfold prsB at h
  simp only [Bool.and_eq_true,decide_eq_true_eq] at h
  omega
theorem prs_head {s : ByteArray} (h : prsB s = true) (h0 : 0≤prsV s) : ¬ byteAt s 0 = 45:=by
  intro hc
  have hp:=prs_pos h
  have hk : pk s = 1:=by unfold pk;rw [if_pos ⟨by omega,hc⟩]
  unfold prsB at h
  simp only [Bool.and_eq_true,decide_eq_true_eq] at h
  have hv : prsV s = 0:=by unfold prsV at h0 ⊢;rw [if_pos hk] at h0 ⊢;omega
  have h2:=h.2.2
  rw [hv] at h2
  rw [← h2] at hc
  exact absurd hc (by decide)
theorem implTok_m (x : Tok) (hx : x.text.size≤100000000000) : Meets Try.prog 8 [(true,encTok x)] [(false,[.sc (.bool (tokB x))],true)]:=by
  have h1:=implPrs_m x.text hx
  have h2:=implName_m x.text hx
  have h3:=isWord_m x.text
  have h4:=isSign_m x.text
  refine meets_upf Try.func8 u_impl_IsToken_g rfl ?_;simp only [u_impl_IsToken_u]
  simp only [encTok]
  unfold tokB
  generalize (if prsB x.text = true then prsV x.text else 0) = z at *
  repeat' (first | (with_reducible first | refine jn_in ?_ | refine cl_ok (by assumption) rfl ?_ | refine cl_okP (by assumption) rfl ?_ | refine br_x (fun hbr=>?_) fun hbr=>?_) | simp (disch:=first | omega | (simp only [lnA];omega) | simp only [lnB,Nat.reduceAdd]) only [go_sem,↓reduceIte,Nat.reduceAdd,reduceNeg,Int.reduceAdd,reduceSub,reduceMul,reduceLT,reduceLE,reduceEq,reduceToNat,Nat.reduceBEq,true_and])
  all_goals (refine ret_b ?_;simp [*])
  all_goals omega
theorem specTok_m (x : Tok) (hx : x.text.size≤100000000000) : Meets Try.prog 27 [(true,encTok x)] [(false,[.sc (.bool (tokB x))],true)]:=by
  have h1:=specPrs_m x.text hx
  have h2:=specName_m x.text hx
  have h3:=l1Reserved_m x.text
  have h4:=l15Signs_m
  have h5:=l1Has_m 9 sigL x.text (by decide)
  have hpos:=@prs_pos x.text
  have hhead:=@prs_head x.text
  simp only [encSs] at h4
  refine meets_upf Try.func27 u_spec_IsToken_g rfl ?_;simp only [u_spec_IsToken_u]
  simp only [encTok]
  unfold tokB
  cases hp : prsB x.text
  · rw [hp] at h1
    simp only [Bool.false_eq_true,if_false] at h1
    repeat' (first | (with_reducible first | refine jn_in ?_ | refine cl_ok (by assumption) rfl ?_ | refine cl_okP (by assumption) rfl ?_ | refine br_x (fun hbr=>?_) fun hbr=>?_) | simp (disch:=first | omega | (simp only [lnA];omega) | simp only [lnB,Nat.reduceAdd]) only [go_sem,↓reduceIte,Nat.reduceAdd,reduceNeg,Int.reduceAdd,reduceSub,reduceMul,reduceLT,reduceLE,reduceEq,reduceToNat,Nat.reduceBEq,true_and])
    all_goals (refine ret_b ?_;simp [*])
    all_goals omega
  · rw [hp] at h1
    simp only [if_true] at h1
    have hps:=hpos hp
    have hhd:=hhead hp
    generalize prsV x.text = z at *
    repeat' (first | (with_reducible first | refine jn_in ?_ | refine cl_ok (by assumption) rfl ?_ | refine cl_okP (by assumption) rfl ?_ | refine br_x (fun hbr=>?_) fun hbr=>?_) | simp (disch:=first | omega | (simp only [lnA];omega) | simp only [lnB,Nat.reduceAdd]) only [go_sem,↓reduceIte,Nat.reduceAdd,reduceNeg,Int.reduceAdd,reduceSub,reduceMul,reduceLT,reduceLE,reduceEq,reduceToNat,Nat.reduceBEq,true_and])
    all_goals (refine ret_b ?_;simp_all)
    all_goals omega
def tokT (x : Tok) : ByteArray:=if x.kind = 2 then quoteB x.text else if x.kind = 3 then fmtName x.text else x.text
theorem tokT_size {x : Tok} (h : x.text.size≤1048576) : (tokT x).size≤10000000:=by
  unfold tokT
  split
  · have:=quoteB_size x.text;omega
  · split
    · have:=fmtName_size x.text;omega
    · omega
def allTok (l : List Tok) (i : Nat) : Bool:=tokB (l.getD i default)
def fmtTs (l : List Tok) : ByteArray:=if allB (allTok l) l.length = true then joinB (l.map tokT) ⟨#[32]⟩ else ⟨#[]⟩
theorem fmtTs_no {l : List Tok} {i : Nat} (h : i < l.length) (hb : tokB (l.getD i default) = false) : fmtTs l = ⟨#[]⟩:=by
  unfold fmtTs;rw [allB_no h hb];rfl
theorem mapT_le {l : List Tok} (h : wtToks l≤1048576) : ∀ s ∈ l.map tokT,s.size≤10000000:=by
  intro s hs
  obtain ⟨x,hx,rfl⟩:=List.mem_map.1 hs
  have : x.text.size≤sumOf wtTok l:=sumOf_mem wtTok hx
  unfold wtToks at h
  exact tokT_size (by omega)
theorem mapT_get {l : List Tok} {i : Nat} (h : i < l.length) : (l.map tokT).getD i default = tokT (l.getD i default):=by
  rw [List.getD_eq_getElem?_getD,List.getElem?_map,getD_some h];rfl
theorem mapT_take {l : List Tok} {i : Nat} (h : i < l.length) : (l.map tokT).take (i + 1) = (l.map tokT).take i ++ [tokT (l.getD i default)]:=by
  rw [List.take_succ_eq_append_getElem (by simpa using h),← mapT_get h,List.getD_eq_getElem?_getD,List.getElem?_eq_getElem (by simpa using h)];rfl
theorem l15Text_m (x : Tok) (hx : x.text.size≤1048576) : Meets Try.prog 28 [(true,encTok x)] [(false,[.sc (.string (tokT x))],true)]:=by
  have h1:=specQuo_m x.text (by omega)
  have h2:=specFmtName_m x.text (by omega)
  refine meets_upf Try.func28 u_spec_l15Text_g rfl ?_;simp only [u_spec_l15Text_u]
  simp only [encTok]
  unfold tokT
  repeat' (first | (with_reducible first | refine jn_in ?_ | refine cl_ok (by assumption) rfl ?_ | refine cl_okP (by assumption) rfl ?_ | refine br_x (fun hbr=>?_) fun hbr=>?_) | simp (disch:=first | omega | (simp only [lnA];omega) | simp only [lnB,Nat.reduceAdd]) only [go_sem,↓reduceIte,Nat.reduceAdd,reduceNeg,Int.reduceAdd,reduceSub,reduceMul,reduceLT,reduceLE,reduceEq,reduceToNat,Nat.reduceBEq,true_and])
  all_goals (refine ret_s ?_;simp [*])
set_option maxHeartbeats 2000000 in
theorem specTs_m (l : List Tok) (hw : wtToks l≤1048576) : Meets Try.prog 10 [(false,[encToks l])] [(false,[.sc (.string (fmtTs l))],true)]:=by
  have hl : l.length≤1048576:=by unfold wtToks at hw;omega
  have hx : ∀ x ∈ l,x.text.size≤1048576:=fun x hx=>by have : x.text.size≤sumOf wtTok l:=sumOf_mem wtTok hx;unfold wtToks at hw;omega
  have hm:=mapT_le hw
  refine meets_upf Try.func10 u_spec_FormatTokens_g rfl ?_;simp only [u_spec_FormatTokens_u]
  simp only [encToks]
  simp (disch:=first | omega | (simp only [lnA];omega) | simp only [lnB,Nat.reduceAdd]) only [go_sem,↓reduceIte,Nat.reduceAdd,reduceNeg,Int.reduceAdd,reduceSub,reduceMul,reduceLT,reduceLE,reduceEq,reduceToNat,Nat.reduceBEq,nat1,true_and]
  refine lp (fun i : Nat=>[.sc (.int .i64 i),.sc (.string (joinP (l.map tokT) ⟨#[32]⟩ i))]) (fun i=>i≤l.length∧allB (allTok l) i = true) (fun i=>l.length - i) 0 rfl ⟨by omega,rfl⟩ ?_
  rintro i ⟨hi,hb⟩
  simp only [u_spec_FormatTokens_l1]
  by_cases hlt : i < l.length
  · have h1:=specTok_m (l.getD i default) (by have:=hx _ (getD_mem hlt);omega)
    have h2:=l15Text_m (l.getD i default) (hx _ (getD_mem hlt))
    have hno:=@fmtTs_no l i hlt
    have hst : tokB (l.getD i default) = true→allB (allTok l) (i + 1) = true:=fun h=>allB_step hb h
    have hj : joinP (l.map tokT) ⟨#[32]⟩ (i + 1) = (if i = 0 then joinP (l.map tokT) ⟨#[32]⟩ i else joinP (l.map tokT) ⟨#[32]⟩ i ++ ⟨#[32]⟩) ++ tokT (l.getD i default):=by
      show (if i = 0 then _ else _) ++ (l.map tokT).getD i default = _
      rw [mapT_get hlt]
    have hJ:=joinP_size (sep:=⟨#[32]⟩) hm i
    have z : (⟨#[32]⟩ : ByteArray).size = 1:=rfl
    have hts:=tokT_size (hx _ (getD_mem hlt))
    have hix:=@ix_Tok 29 l .i64 (i : Int) (by omega) (by omega)
    rw [Int.toNat_natCast] at hix
    generalize l.getD i default = x at *
    have h3 : i * (10000000 + (⟨#[32]⟩ : ByteArray).size)≤1048576 * 10000001:=Nat.mul_le_mul (by omega) (by omega)
    have e1 : (joinP (l.map tokT) ⟨#[32]⟩ i).size + (⟨#[32]⟩ : ByteArray).size≤maxLen:=by unfold maxLen;omega
    have e2 : (joinP (l.map tokT) ⟨#[32]⟩ i).size + (tokT x).size≤maxLen:=by unfold maxLen;omega
    have e3 : (joinP (l.map tokT) ⟨#[32]⟩ i ++ ⟨#[32]⟩).size + (tokT x).size≤maxLen:=by rw [ByteArray.size_append];unfold maxLen;omega
    simp only [encTok] at h1 h2 hix
    repeat' (first | (with_reducible first | refine jn_in ?_ | refine cl_ok (by assumption) rfl ?_ | refine cl_okP (by assumption) rfl ?_ | refine br_x (fun hbr=>?_) fun hbr=>?_) | simp (disch:=first | omega | (simp only [lnA];omega) | simp only [lnB,Nat.reduceAdd]) only [go_sem,↓reduceIte,Nat.reduceAdd,reduceNeg,Int.reduceAdd,reduceSub,reduceMul,reduceLT,reduceLE,reduceEq,reduceToNat,Nat.reduceBEq,nat1,hix,e_cat e1,e_cat e2,e_cat e3,u_spec_FormatTokens_j0])
    all_goals first
      | omega
      | exact ret_s (hno ‹_›)
      | exact ⟨i + 1,by rw [hj,if_neg (by omega)],⟨by omega,hst ‹_›⟩,by omega⟩
      | exact ⟨i + 1,by rw [hj,if_pos (by omega)],⟨by omega,hst ‹_›⟩,by omega⟩
      | skip
  · obtain rfl : i = l.length:=by omega
    simp (disch:=first | omega | (simp only [lnA];omega) | simp only [lnB,Nat.reduceAdd]) only [go_sem,↓reduceIte,Nat.reduceAdd,reduceNeg,Int.reduceAdd,reduceSub,reduceMul,reduceLT,reduceLE,reduceEq,reduceToNat,Nat.reduceBEq,nat1,true_and]
    refine br_if (fun hbr=>absurd hbr (by omega)) (fun hbr=>?_)
    simp (disch:=first | omega | (simp only [lnA];omega) | simp only [lnB,Nat.reduceAdd]) only [go_sem,↓reduceIte,Nat.reduceAdd,reduceNeg,Int.reduceAdd,reduceSub,reduceMul,reduceLT,reduceLE,reduceEq,reduceToNat,Nat.reduceBEq,nat1,true_and]
    refine ret_s ?_
    unfold fmtTs joinB;rw [if_pos hb,List.length_map]
set_option maxHeartbeats 2000000 in
theorem implTs_m (l : List Tok) (hw : wtToks l≤1048576) : Meets Try.prog 9 [(false,[encToks l])] [(false,[.sc (.string (fmtTs l))],true)]:=by
  have hl : l.length≤1048576:=by unfold wtToks at hw;omega
  have hx : ∀ x ∈ l,x.text.size≤1048576:=fun x hx=>by have : x.text.size≤sumOf wtTok l:=sumOf_mem wtTok hx;unfold wtToks at hw;omega
  have hm:=mapT_le hw
  have hJ:=joinTexts_m 9 (l.map tokT) ⟨#[32]⟩ (by rw [List.length_map];omega) hm (by decide)
  refine meets_upf Try.func9 u_impl_FormatTokens_g rfl ?_;simp only [u_impl_FormatTokens_u]
  simp only [encToks]
  simp (disch:=first | omega | (simp only [lnA];omega) | simp only [lnB,Nat.reduceAdd]) only [go_sem,↓reduceIte,Nat.reduceAdd,reduceNeg,Int.reduceAdd,reduceSub,reduceMul,reduceLT,reduceLE,reduceEq,reduceToNat,Nat.reduceBEq,nat1,true_and]
  refine lp (fun i : Nat=>[.sc (.int .i64 i),.sl 9 1 (((l.map tokT).take i).map encS)]) (fun i=>i≤l.length∧allB (allTok l) i = true) (fun i=>l.length - i) 0 rfl ⟨by omega,rfl⟩ ?_
  rintro i ⟨hi,hb⟩
  simp only [u_impl_FormatTokens_l1]
  by_cases hlt : i < l.length
  · have h1:=implTok_m (l.getD i default) (by have:=hx _ (getD_mem hlt);omega)
    have hxx:=hx _ (getD_mem hlt)
    have h2:=implQuo_m (l.getD i default).text (by omega)
    have h3:=implFmtName_m (l.getD i default).text (by omega)
    have hno:=@fmtTs_no l i hlt
    have hst : tokB (l.getD i default) = true→allB (allTok l) (i + 1) = true:=fun h=>allB_step hb h
    have hj:=mapT_take hlt
    have hix:=@ix_Tok 29 l .i64 (i : Int) (by omega) (by omega)
    rw [Int.toNat_natCast] at hix
    generalize l.getD i default = x at *
    simp only [encTok] at h1 hix
    have hT : tokT x = if x.kind = 2 then quoteB x.text else if x.kind = 3 then fmtName x.text else x.text:=rfl
    repeat' (first | (with_reducible first | refine jn_in ?_ | refine cl_ok (by assumption) rfl ?_ | refine cl_okP (by assumption) rfl ?_ | refine br_x (fun hbr=>?_) fun hbr=>?_) | simp (disch:=first | omega | (simp only [lnA];omega) | simp only [lnB,Nat.reduceAdd]) only [go_sem,↓reduceIte,Nat.reduceAdd,reduceNeg,Int.reduceAdd,reduceSub,reduceMul,reduceLT,reduceLE,reduceEq,reduceToNat,Nat.reduceBEq,nat1,hix,u_impl_FormatTokens_j0])
    all_goals first
      | omega
      | exact ret_s (hno ‹_›)
      | exact ⟨i + 1,by rw [hj,hT,if_pos ‹_›],⟨by omega,hst ‹_›⟩,by omega⟩
      | exact ⟨i + 1,by rw [hj,hT,if_neg ‹_›,if_pos ‹_›],⟨by omega,hst ‹_›⟩,by omega⟩
      | exact ⟨i + 1,by rw [hj,hT,if_neg ‹¬ x.kind = 2›,if_neg ‹¬ x.kind = 3›],⟨by omega,hst ‹_›⟩,by omega⟩
      | skip
  · obtain rfl : i = l.length:=by omega
    have e : (l.map tokT).take l.length = l.map tokT:=by rw [← List.length_map (f:=tokT),List.take_length]
    rw [e]
    simp (disch:=first | omega | (simp only [lnA];omega) | simp only [lnB,Nat.reduceAdd]) only [go_sem,↓reduceIte,Nat.reduceAdd,reduceNeg,Int.reduceAdd,reduceSub,reduceMul,reduceLT,reduceLE,reduceEq,reduceToNat,Nat.reduceBEq,nat1,true_and]
    refine br_if (fun hbr=>absurd hbr (by omega)) (fun hbr=>?_)
    repeat' (first | (with_reducible first | refine jn_in ?_ | refine cl_ok (by assumption) rfl ?_ | refine cl_okP (by assumption) rfl ?_ | refine br_x (fun hbr=>?_) fun hbr=>?_) | simp (disch:=first | omega | (simp only [lnA];omega) | simp only [lnB,Nat.reduceAdd]) only [go_sem,↓reduceIte,Nat.reduceAdd,reduceNeg,Int.reduceAdd,reduceSub,reduceMul,reduceLT,reduceLE,reduceEq,reduceToNat,Nat.reduceBEq,nat1,true_and])
    refine ret_s ?_
    unfold fmtTs;rw [if_pos hb]
def scanP (p : Nat→Bool) (n : Nat) : Nat→Nat→Nat
  | 0,i=>i
  | f + 1,i=>if i < n∧p i = true then scanP p n f (i + 1) else i
def endP (p : Nat→Bool) (n i : Nat) : Nat:=scanP p n (n - i) i
theorem endP_t {p : Nat→Bool} {n i : Nat} (h : i < n) (hp : p i = true) : endP p n i = endP p n (i + 1):=by
  unfold endP
  rw [show n - i = (n - (i + 1)) + 1 by omega,scanP,if_pos ⟨h,hp⟩]
theorem endP_f {p : Nat→Bool} {n i : Nat} (hp : p i = false) : endP p n i = i:=by
  unfold endP
  cases n - i with
  | zero=>rfl
  | succ f=>rw [scanP,if_neg (fun h=>by rw [hp] at h;cases h.2)]
theorem endP_o {p : Nat→Bool} {n i : Nat} (h : n≤i) : endP p n i = i:=by
  unfold endP;rw [show n - i = 0 by omega];rfl
theorem scanP_le {p : Nat→Bool} {n : Nat} : ∀ {f i},i≤n→i≤scanP p n f i∧scanP p n f i≤n
  | 0,i,h=>⟨Nat.le_refl _,h⟩
  | f + 1,i,h=>by
    rw [scanP]
    split
    · rename_i hc
      have:=scanP_le (p:=p) (n:=n) (f:=f) (i:=i + 1) (by omega)
      omega
    · exact ⟨Nat.le_refl _,h⟩
theorem endP_le {p : Nat→Bool} {n i : Nat} (h : i≤n) : i≤endP p n i∧endP p n i≤n:=scanP_le h
def scanQ (s : ByteArray) : Nat→Nat→Nat
  | 0,i=>i
  | f + 1,i=>if i < s.size then (if byteAt s i = 92 then scanQ s f (i + 2) else if byteAt s i = 34 then i else scanQ s f (i + 1)) else i
theorem scanQ_f (s : ByteArray) : ∀ {f g i},s.size - i≤f→s.size - i≤g→scanQ s f i = scanQ s g i
  | 0,0,i,_,_=>rfl
  | 0,g + 1,i,h,_=>by rw [scanQ,scanQ,if_neg (by omega)]
  | f + 1,0,i,_,h=>by rw [scanQ,scanQ,if_neg (by omega)]
  | f + 1,g + 1,i,h1,h2=>by
    rw [scanQ,scanQ]
    split
    · rename_i hlt
      rw [scanQ_f s (f:=f) (g:=g) (i:=i + 2) (by omega) (by omega),scanQ_f s (f:=f) (g:=g) (i:=i + 1) (by omega) (by omega)]
    · rfl
def endQ (s : ByteArray) (i : Nat) : Nat:=scanQ s (s.size - i) i
theorem endQ_b {s : ByteArray} {i : Nat} (h : i < s.size) (hb : byteAt s i = 92) : endQ s i = endQ s (i + 2):=by
  unfold endQ
  rw [show s.size - i = (s.size - (i + 1)) + 1 by omega,scanQ,if_pos h,if_pos hb]
  exact scanQ_f s (by omega) (by omega)
theorem endQ_q {s : ByteArray} {i : Nat} (h : i < s.size) (hb : byteAt s i = 34) : endQ s i = i:=by
  unfold endQ
  rw [show s.size - i = (s.size - (i + 1)) + 1 by omega,scanQ,if_pos h,if_neg (by omega),if_pos hb]
theorem endQ_n {s : ByteArray} {i : Nat} (h : i < s.size) (hb : byteAt s i ≠ 92) (hb2 : byteAt s i ≠ 34) : endQ s i = endQ s (i + 1):=by
  unfold endQ
  rw [show s.size - i = (s.size - (i + 1)) + 1 by omega,scanQ,if_pos h,if_neg hb,if_neg hb2]
theorem endQ_o {s : ByteArray} {i : Nat} (h : s.size≤i) : endQ s i = i:=by
  unfold endQ;rw [show s.size - i = 0 by omega];rfl
theorem scanQ_ge (s : ByteArray) : ∀ {f i},i≤scanQ s f i
  | 0,i=>Nat.le_refl _
  | f + 1,i=>by
    rw [scanQ]
    split
    · split
      · have:=scanQ_ge s (f:=f) (i:=i + 2);omega
      · split
        · exact Nat.le_refl _
        · have:=scanQ_ge s (f:=f) (i:=i + 1);omega
    · exact Nat.le_refl _
theorem endQ_ge (s : ByteArray) (i : Nat) : i≤endQ s i:=scanQ_ge s
def pD (s : ByteArray) (i : Nat) : Bool:=digB (byteAt s i)
def pW (s : ByteArray) (i : Nat) : Bool:=letB (byteAt s i) || (digB (byteAt s i) || (decide (byteAt s i = 46) || decide (byteAt s i = 95)))
def pB (s : ByteArray) (i : Nat) : Bool:=!decide (byteAt s i = 96)
def pC (s : ByteArray) (i : Nat) : Bool:=!decide (byteAt s i = 10)
theorem digitsEnd_m (s : ByteArray) (i : Nat) (hi : i≤s.size) (hs : s.size≤1000000) : Meets Try.prog 32 [(false,[.sc (.string s)]),(false,[.sc (.int .i64 i)])] [(false,[.sc (.int .i64 (endP (pD s) s.size i : Nat))],true)]:=by
  refine meets_upf Try.func32 u_impl_digitsEnd_g rfl ?_;simp only [u_impl_digitsEnd_u]
  simp (disch:=first | omega | (simp only [lnA];omega) | simp only [lnB,Nat.reduceAdd]) only [go_sem,↓reduceIte,Nat.reduceAdd,reduceNeg,Int.reduceAdd,reduceSub,reduceMul,reduceLT,reduceLE,reduceEq,reduceToNat,Nat.reduceBEq,nat1,true_and]
  refine lp (fun k : Nat=>[.sc (.int .i64 k)]) (fun k=>k≤s.size∧endP (pD s) s.size k = endP (pD s) s.size i) (fun k=>s.size - k) i rfl ⟨hi,rfl⟩ ?_
  rintro k ⟨hk,he⟩
  simp only [u_impl_digitsEnd_l0]
  have hd:=isDigit_m (byteAt s k)
  by_cases hlt : k < s.size
  · cases hp : digB (byteAt s k)
    · rw [hp] at hd
      have:=endP_f (p:=pD s) (n:=s.size) (i:=k) hp
      repeat' (first | (with_reducible first | refine jn_in ?_ | refine cl_ok (by assumption) rfl ?_ | refine cl_okP (by assumption) rfl ?_ | refine br_x (fun hbr=>?_) fun hbr=>?_) | simp (disch:=first | omega | (simp only [lnA];omega) | simp only [lnB,Nat.reduceAdd]) only [go_sem,↓reduceIte,Nat.reduceAdd,reduceNeg,Int.reduceAdd,reduceSub,reduceMul,reduceLT,reduceLE,reduceEq,reduceToNat,Nat.reduceBEq,nat1,Int.toNat_natCast])
      all_goals first | omega | exact ret_z (by omega) | skip
    · rw [hp] at hd
      have:=endP_t (p:=pD s) (n:=s.size) hlt hp
      repeat' (first | (with_reducible first | refine jn_in ?_ | refine cl_ok (by assumption) rfl ?_ | refine cl_okP (by assumption) rfl ?_ | refine br_x (fun hbr=>?_) fun hbr=>?_) | simp (disch:=first | omega | (simp only [lnA];omega) | simp only [lnB,Nat.reduceAdd]) only [go_sem,↓reduceIte,Nat.reduceAdd,reduceNeg,Int.reduceAdd,reduceSub,reduceMul,reduceLT,reduceLE,reduceEq,reduceToNat,Nat.reduceBEq,nat1,Int.toNat_natCast])
      all_goals first | omega | exact ⟨k + 1,rfl,⟨by omega,by omega⟩,by omega⟩ | skip
  · have:=endP_o (p:=pD s) (n:=s.size) (i:=k) (by omega)
    repeat' (first | (with_reducible first | refine jn_in ?_ | refine cl_ok (by assumption) rfl ?_ | refine cl_okP (by assumption) rfl ?_ | refine br_x (fun hbr=>?_) fun hbr=>?_) | simp (disch:=first | omega | (simp only [lnA];omega) | simp only [lnB,Nat.reduceAdd]) only [go_sem,↓reduceIte,Nat.reduceAdd,reduceNeg,Int.reduceAdd,reduceSub,reduceMul,reduceLT,reduceLE,reduceEq,reduceToNat,Nat.reduceBEq,nat1,true_and])
    all_goals first | omega | exact ret_z (by omega) | skip
theorem wordEnd_m (s : ByteArray) (i : Nat) (hi : i≤s.size) (hs : s.size≤1000000) : Meets Try.prog 36 [(false,[.sc (.string s)]),(false,[.sc (.int .i64 i)])] [(false,[.sc (.int .i64 (endP (pW s) s.size i : Nat))],true)]:=by
  refine meets_upf Try.func36 u_impl_wordEnd_g rfl ?_;simp only [u_impl_wordEnd_u]
  simp (disch:=first | omega | (simp only [lnA];omega) | simp only [lnB,Nat.reduceAdd]) only [go_sem,↓reduceIte,Nat.reduceAdd,reduceNeg,Int.reduceAdd,reduceSub,reduceMul,reduceLT,reduceLE,reduceEq,reduceToNat,Nat.reduceBEq,nat1,true_and]
  refine lp (fun k : Nat=>[.sc (.int .i64 k)]) (fun k=>k≤s.size∧endP (pW s) s.size k = endP (pW s) s.size i) (fun k=>s.size - k) i rfl ⟨hi,rfl⟩ ?_
  rintro k ⟨hk,he⟩
  simp only [u_impl_wordEnd_l1]
  have hd:=isDigit_m (byteAt s k)
  have hl:=isLetter_m (byteAt s k)
  by_cases hlt : k < s.size
  · have hw : pW s k = (letB (byteAt s k) || (digB (byteAt s k) || (decide (byteAt s k = 46) || decide (byteAt s k = 95)))):=rfl
    have ef:=endP_f (p:=pW s) (n:=s.size) (i:=k)
    have et:=endP_t (p:=pW s) (n:=s.size) hlt
    repeat' (first | (with_reducible first | refine jn_in ?_ | refine cl_ok (by assumption) rfl ?_ | refine cl_okP (by assumption) rfl ?_ | refine br_x (fun hbr=>?_) fun hbr=>?_) | simp (disch:=first | omega | (simp only [lnA];omega) | simp only [lnB,Nat.reduceAdd]) only [go_sem,↓reduceIte,Nat.reduceAdd,reduceNeg,Int.reduceAdd,reduceSub,reduceMul,reduceLT,reduceLE,reduceEq,reduceToNat,Nat.reduceBEq,nat1,Int.toNat_natCast,u_impl_wordEnd_j0])
    all_goals first
      | omega
      | (exact ⟨k + 1,rfl,⟨by omega,by rw [← et (by rw [hw,‹letB (byteAt s k : Int) = true›];rfl)];exact he⟩,by omega⟩)
      | (exact ⟨k + 1,rfl,⟨by omega,by rw [← et (by rw [hw,‹digB (byteAt s k : Int) = true›,Bool.true_or,Bool.or_true])];exact he⟩,by omega⟩)
      | (exact ⟨k + 1,rfl,⟨by omega,by rw [← et (by rw [hw,Bool.or_eq_true,Bool.or_eq_true,Bool.or_eq_true,decide_eq_true_eq,decide_eq_true_eq];right;right;omega)];exact he⟩,by omega⟩)
      | (refine ret_z ?_;rw [← he,ef (by rw [hw,‹letB (byteAt s k : Int) = false›,‹digB (byteAt s k : Int) = false›,decide_eq_false (by omega),decide_eq_false (by omega)];rfl)];done)
      | skip
  · have:=endP_o (p:=pW s) (n:=s.size) (i:=k) (by omega)
    repeat' (first | (with_reducible first | refine jn_in ?_ | refine cl_ok (by assumption) rfl ?_ | refine cl_okP (by assumption) rfl ?_ | refine br_x (fun hbr=>?_) fun hbr=>?_) | simp (disch:=first | omega | (simp only [lnA];omega) | simp only [lnB,Nat.reduceAdd]) only [go_sem,↓reduceIte,Nat.reduceAdd,reduceNeg,Int.reduceAdd,reduceSub,reduceMul,reduceLT,reduceLE,reduceEq,reduceToNat,Nat.reduceBEq,nat1,u_impl_wordEnd_j0])
    all_goals first | omega | exact ret_z (by omega) | skip
theorem stringEnd_m (s : ByteArray) (i : Nat) (hi : i < s.size) (hs : s.size≤1000000) : Meets Try.prog 33 [(false,[.sc (.string s)]),(false,[.sc (.int .i64 i)])] [(false,[.sc (.int .i64 (if endQ s (i + 1) < s.size then ((endQ s (i + 1) + 1 : Nat) : Int) else -1))],true)]:=by
  refine meets_upf Try.func33 u_impl_stringEnd_g rfl ?_;simp only [u_impl_stringEnd_u]
  simp (disch:=first | omega | (simp only [lnA];omega) | simp only [lnB,Nat.reduceAdd]) only [go_sem,↓reduceIte,Nat.reduceAdd,reduceNeg,Int.reduceAdd,reduceSub,reduceMul,reduceLT,reduceLE,reduceEq,reduceToNat,Nat.reduceBEq,nat1,true_and]
  refine lp (fun k : Nat=>[.sc (.int .i64 k)]) (fun k=>k≤s.size + 1∧endQ s k = endQ s (i + 1)) (fun k=>s.size + 1 - k) (i + 1) rfl ⟨by omega,rfl⟩ ?_
  rintro k ⟨hk,he⟩
  simp only [u_impl_stringEnd_l1]
  by_cases hlt : k < s.size
  · by_cases h1 : byteAt s k = 92
    · have:=endQ_b hlt h1
      repeat' (first | (with_reducible first | refine jn_in ?_ | refine cl_ok (by assumption) rfl ?_ | refine cl_okP (by assumption) rfl ?_ | refine br_x (fun hbr=>?_) fun hbr=>?_) | simp (disch:=first | omega | (simp only [lnA];omega) | simp only [lnB,Nat.reduceAdd]) only [go_sem,↓reduceIte,Nat.reduceAdd,reduceNeg,Int.reduceAdd,reduceSub,reduceMul,reduceLT,reduceLE,reduceEq,reduceToNat,Nat.reduceBEq,nat1,h1,Int.toNat_natCast,u_impl_stringEnd_j0])
      all_goals first | omega | exact ⟨k + 2,rfl,⟨by omega,by omega⟩,by omega⟩ | skip
    · by_cases h2 : byteAt s k = 34
      · have:=endQ_q hlt h2
        repeat' (first | (with_reducible first | refine jn_in ?_ | refine cl_ok (by assumption) rfl ?_ | refine cl_okP (by assumption) rfl ?_ | refine br_x (fun hbr=>?_) fun hbr=>?_) | simp (disch:=first | omega | (simp only [lnA];omega) | simp only [lnB,Nat.reduceAdd]) only [go_sem,↓reduceIte,Nat.reduceAdd,reduceNeg,Int.reduceAdd,reduceSub,reduceMul,reduceLT,reduceLE,reduceEq,reduceToNat,Nat.reduceBEq,nat1,h2,Int.toNat_natCast,u_impl_stringEnd_j0])
        all_goals first | omega | exact ret_z (by rw [if_pos (by omega)];omega) | skip
      · have:=endQ_n hlt h1 h2
        have d1 : ¬ (byteAt s k : Int) = 92:=by omega
        have d2 : ¬ (byteAt s k : Int) = 34:=by omega
        repeat' (first | (with_reducible first | refine jn_in ?_ | refine cl_ok (by assumption) rfl ?_ | refine cl_okP (by assumption) rfl ?_ | refine br_x (fun hbr=>?_) fun hbr=>?_) | simp (disch:=first | omega | (simp only [lnA];omega) | simp only [lnB,Nat.reduceAdd]) only [go_sem,↓reduceIte,Nat.reduceAdd,reduceNeg,Int.reduceAdd,reduceSub,reduceMul,reduceLT,reduceLE,reduceEq,reduceToNat,Nat.reduceBEq,nat1,d1,d2,Int.toNat_natCast,u_impl_stringEnd_j0])
        all_goals first | omega | contradiction | exact ⟨k + 1,rfl,⟨by omega,by omega⟩,by omega⟩ | skip
  · have:=endQ_o (s:=s) (i:=k) (by omega)
    repeat' (first | (with_reducible first | refine jn_in ?_ | refine cl_ok (by assumption) rfl ?_ | refine cl_okP (by assumption) rfl ?_ | refine br_x (fun hbr=>?_) fun hbr=>?_) | simp (disch:=first | omega | (simp only [lnA];omega) | simp only [lnB,Nat.reduceAdd]) only [go_sem,↓reduceIte,Nat.reduceAdd,reduceNeg,Int.reduceAdd,reduceSub,reduceMul,reduceLT,reduceLE,reduceEq,reduceToNat,Nat.reduceBEq,nat1,u_impl_stringEnd_j0])
    all_goals first | omega | exact ret_z (by rw [if_neg (by omega)]) | skip
def sgnC (s : ByteArray) (i : Nat) (x : ByteArray) : Bool:=decide (i + x.size≤s.size∧s.extract i (i + x.size) = x)
def sgnI (s : ByteArray) (i : Nat) : Nat:=sigL.findIdx (sgnC s i)
theorem sgnI_le (s : ByteArray) (i : Nat) : sgnI s i≤sigL.length:=List.findIdx_le_length
theorem sgnI_hit {s : ByteArray} {i : Nat} (h : sgnI s i < sigL.length) : sgnC s i (sigL.getD (sgnI s i) default) = true:=by
  have:=List.findIdx_getElem (xs:=sigL) (p:=sgnC s i) (w:=h)
  rw [List.getD_eq_getElem?_getD,List.getElem?_eq_getElem h];exact this
theorem sgnI_miss {s : ByteArray} {i k : Nat} (h : k < sgnI s i) : sgnC s i (sigL.getD k default) = false:=by
  have h2:=sgnI_le s i
  have:=List.not_of_lt_findIdx h
  rw [List.getD_eq_getElem?_getD,List.getElem?_eq_getElem (by omega)]
  simpa using this
theorem sig_sz : ∀ k,k < sigL.length→1≤(sigL.getD k default).size∧(sigL.getD k default).size≤3:=by decide
theorem signAt_m (s : ByteArray) (i : Nat) (hi : i≤s.size) (hs : s.size≤1000000) : Meets Try.prog 38 [(false,[.sc (.string s)]),(false,[.sc (.int .i64 i)])] [(false,[.sc (.string (if sgnI s i < sigL.length then sigL.getD (sgnI s i) default else ⟨#[]⟩))],true)]:=by
  have h1:=allSigns_m
  have hle:=sgnI_le s i
  have hl : sigL.length = 31:=rfl
  simp only [encSs] at h1
  refine meets_upf Try.func38 u_impl_signAt_g rfl ?_;simp only [u_impl_signAt_u]
  simp (disch:=first | omega | (simp only [lnA];omega) | simp only [lnB,Nat.reduceAdd]) only [go_sem,↓reduceIte,Nat.reduceAdd,reduceNeg,Int.reduceAdd,reduceSub,reduceMul,reduceLT,reduceLE,reduceEq,reduceToNat,Nat.reduceBEq,nat1,true_and]
  refine cl_ok h1 rfl ?_
  simp (disch:=first | omega | (simp only [lnA];omega) | simp only [lnB,Nat.reduceAdd]) only [go_sem,↓reduceIte,Nat.reduceAdd,reduceNeg,Int.reduceAdd,reduceSub,reduceMul,reduceLT,reduceLE,reduceEq,reduceToNat,Nat.reduceBEq,nat1,true_and]
  refine lp_n (sgnI s i) (fun k=>[.sc (.int .i64 k)]) rfl fun k hk=>?_
  simp only [u_impl_signAt_l1]
  by_cases hlt : k < sgnI s i
  · have hm:=sgnI_miss hlt
    have hz:=sig_sz k (by omega)
    unfold sgnC at hm
    have hm:=of_decide_eq_false hm
    generalize hx : sigL.getD k default = x at *
    repeat' (first | (with_reducible first | refine jn_in ?_ | refine cl_ok (by assumption) rfl ?_ | refine cl_okP (by assumption) rfl ?_ | refine br_x (fun hbr=>?_) fun hbr=>?_) | simp (disch:=first | omega | (simp only [lnA];omega) | simp only [lnB,Nat.reduceAdd]) only [go_sem,↓reduceIte,Nat.reduceAdd,reduceNeg,Int.reduceAdd,reduceSub,reduceMul,reduceLT,reduceLE,reduceEq,reduceToNat,Nat.reduceBEq,nat1,hx,Int.toNat_natCast,u_impl_signAt_j0])
    all_goals first | omega | exact ⟨rfl,hlt⟩ | exact absurd ⟨by omega,‹_›⟩ hm | skip
  · obtain rfl : k = sgnI s i:=by omega
    by_cases h : sgnI s i < sigL.length
    · have hh:=sgnI_hit h
      have hz:=sig_sz _ h
      unfold sgnC at hh
      obtain ⟨q1,q2⟩:=of_decide_eq_true hh
      rw [if_pos h]
      generalize hx : sigL.getD (sgnI s i) default = x at *
      repeat' (first | (with_reducible first | refine jn_in ?_ | refine cl_ok (by assumption) rfl ?_ | refine cl_okP (by assumption) rfl ?_ | refine br_x (fun hbr=>?_) fun hbr=>?_) | simp (disch:=first | omega | (simp only [lnA];omega) | simp only [lnB,Nat.reduceAdd]) only [go_sem,↓reduceIte,Nat.reduceAdd,reduceNeg,Int.reduceAdd,reduceSub,reduceMul,reduceLT,reduceLE,reduceEq,reduceToNat,Nat.reduceBEq,nat1,hx,q2,Int.toNat_natCast,u_impl_signAt_j0])
      all_goals first | omega | rfl | contradiction | skip
    · rw [if_neg h]
      repeat' (first | (with_reducible first | refine jn_in ?_ | refine cl_ok (by assumption) rfl ?_ | refine cl_okP (by assumption) rfl ?_ | refine br_x (fun hbr=>?_) fun hbr=>?_) | simp (disch:=first | omega | (simp only [lnA];omega) | simp only [lnB,Nat.reduceAdd]) only [go_sem,↓reduceIte,Nat.reduceAdd,reduceNeg,Int.reduceAdd,reduceSub,reduceMul,reduceLT,reduceLE,reduceEq,reduceToNat,Nat.reduceBEq,nat1,u_impl_signAt_j0])
      all_goals first | omega | rfl | skip
def endsX (x : Tok) : Bool:=if x.kind = 6 then false else if x.kind = 4 then !decide (x.text = ⟨#[101,108,115,101]⟩) else if x.kind = 5 then decide (x.text = ⟨#[41]⟩ ∨ x.text = ⟨#[93]⟩ ∨ x.text = ⟨#[125]⟩) else true
theorem endsX_m (x : Tok) : Meets Try.prog 15 [(true,encTok x)] [(false,[.sc (.bool (endsX x))],true)]:=by
  obtain ⟨k,t⟩:=x
  refine meets_upf Try.func15 u_impl_endsExpression_g rfl ?_;simp only [u_impl_endsExpression_u]
  simp only [encTok]
  repeat' (first | (with_reducible first | refine jn_in ?_ | refine cl_ok (by assumption) rfl ?_ | refine cl_okP (by assumption) rfl ?_ | refine br_x (fun hbr=>?_) fun hbr=>?_) | simp (disch:=first | omega | (simp only [lnA];omega) | simp only [lnB,Nat.reduceAdd]) only [go_sem,↓reduceIte,Nat.reduceAdd,reduceNeg,Int.reduceAdd,reduceSub,reduceMul,reduceLT,reduceLE,reduceEq,reduceToNat,Nat.reduceBEq,nat1,true_and])
  all_goals (refine ret_b ?_;simp [endsX, *])
theorem l15Open_m (x : Tok) : Meets Try.prog 17 [(true,encTok x)] [(false,[.sc (.bool (!endsX x))],true)]:=by
  obtain ⟨k,t⟩:=x
  have h:=l1Has_m 9 [⟨#[41]⟩,⟨#[93]⟩,⟨#[125]⟩] t (by decide)
  have hb : hasB [⟨#[41]⟩,⟨#[93]⟩,⟨#[125]⟩] t = decide (t = ⟨#[41]⟩ ∨ t = ⟨#[93]⟩ ∨ t = ⟨#[125]⟩):=by
    rw [Bool.eq_iff_iff,hasB_iff,decide_eq_true_eq];simp
  rw [hb] at h
  simp only [List.map_cons,List.map_nil,encS] at h
  refine meets_upf Try.func17 u_spec_l15Open_g rfl ?_;simp only [u_spec_l15Open_u]
  simp only [encTok]
  repeat' (first | (with_reducible first | refine jn_in ?_ | refine cl_ok (by assumption) rfl ?_ | refine cl_okP (by assumption) rfl ?_ | refine br_x (fun hbr=>?_) fun hbr=>?_) | simp (disch:=first | omega | (simp only [lnA];omega) | simp only [lnB,Nat.reduceAdd]) only [go_sem,↓reduceIte,Nat.reduceAdd,reduceNeg,Int.reduceAdd,reduceSub,reduceMul,reduceLT,reduceLE,reduceEq,reduceToNat,Nat.reduceBEq,nat1,true_and])
  all_goals first | (exfalso;omega) | (refine ret_b ?_;simp [endsX, *])
noncomputable def unqR (s : ByteArray) : ByteArray × Bool:=if h : s.size≤1000000000 then ((unq_both s h).choose,(unq_both s h).choose_spec.choose) else (⟨#[]⟩,false)
theorem unqR_ok {s : ByteArray} (h : s.size≤1000000000) : Meets Try.prog 34 [(false,[.sc (.string s)])] [(false,[.sc (.string (unqR s).1)],true),(false,[.sc (.bool (unqR s).2)],true)] ∧
    Meets Try.prog 41 [(false,[.sc (.string s)])] [(false,[.sc (.string (unqR s).1)],true),(false,[.sc (.bool (unqR s).2)],true)]∧(unqR s).1.size≤s.size:=by
  unfold unqR
  rw [dif_pos h]
  obtain ⟨h1,h2,h3,-⟩:=(unq_both s h).choose_spec.choose_spec
  exact ⟨h1,h2,h3⟩
theorem unqR_q {t : ByteArray} (h : (quoteB t).size≤1000000000) : unqR (quoteB t) = (t,true):=by
  unfold unqR
  rw [dif_pos h]
  obtain ⟨-,-,-,h4⟩:=(unq_both (quoteB t) h).choose_spec.choose_spec
  obtain ⟨e1,e2⟩:=h4 t rfl
  exact Prod.ext e1 e2
noncomputable def nxt (s : ByteArray) (i : Nat) : Option (Tok × Nat) :=
  if digB (byteAt s i) = true then (if prsB (s.extract i (endP (pD s) s.size i)) = true then some (⟨1,s.extract i (endP (pD s) s.size i)⟩,endP (pD s) s.size i) else none)
  else if byteAt s i = 34 then (if endQ s (i + 1) < s.size∧(unqR (s.extract i (endQ s (i + 1) + 1))).2 = true∧(unqR (s.extract i (endQ s (i + 1) + 1))).1.size≤60 then some (⟨2,(unqR (s.extract i (endQ s (i + 1) + 1))).1⟩,endQ s (i + 1) + 1) else none)
  else if byteAt s i = 96 then (if endP (pB s) s.size (i + 1) < s.size∧nameB (s.extract (i + 1) (endP (pB s) s.size (i + 1))) = true then some (⟨3,s.extract (i + 1) (endP (pB s) s.size (i + 1))⟩,endP (pB s) s.size (i + 1) + 1) else none)
  else if letB (byteAt s i) = true ∨ byteAt s i = 46 then (if resB (s.extract i (endP (pW s) s.size i)) = true then some (⟨4,s.extract i (endP (pW s) s.size i)⟩,endP (pW s) s.size i) else if synB (s.extract i (endP (pW s) s.size i)) = true then some (⟨3,s.extract i (endP (pW s) s.size i)⟩,endP (pW s) s.size i) else none)
  else if byteAt s i = 59 then some (⟨6,⟨#[59]⟩⟩,i + 1)
  else if sgnI s i < sigL.length then some (⟨5,sigL.getD (sgnI s i) default⟩,i + (sigL.getD (sgnI s i) default).size) else none
def nxI (r : Option (Tok × Nat)) : List Rs:=match r with
  | some (k,e)=>[(true,encTok k,true),(false,[.sc (.int .i64 (e : Nat))],true)]
  | none=>[(true,encTok ⟨0,⟨#[]⟩⟩,true),(false,[.sc (.int .i64 (-1))],true)]
theorem ext_le (s : ByteArray) (a b : Nat) : (s.extract a b).size≤s.size:=by rw [ByteArray.size_extract];omega
set_option maxHeartbeats 8000000 in
theorem nextI_m (s : ByteArray) (i : Nat) (hi : i < s.size) (hs : s.size≤1000000) : Meets Try.prog 16 [(false,[.sc (.string s)]),(false,[.sc (.int .i64 i)])] (nxI (nxt s i)):=by
  have hb:=byteAt_lt s i
  have hd:=isDigit_m (byteAt s i)
  have hl:=isLetter_m (byteAt s i)
  by_cases h1 : digB (byteAt s i) = true
  · have hE:=digitsEnd_m s i (by omega) hs
    obtain ⟨l1,l2⟩:=endP_le (p:=pD s) (n:=s.size) (i:=i) (by omega)
    have hR : nxt s i = if prsB (s.extract i (endP (pD s) s.size i)) = true then some (⟨1,s.extract i (endP (pD s) s.size i)⟩,endP (pD s) s.size i) else none:=by unfold nxt;rw [if_pos h1]
    have hx:=ext_le s i (endP (pD s) s.size i)
    have hp:=implPrs_m (s.extract i (endP (pD s) s.size i)) (by omega)
    rw [hR]
    rw [h1] at hd
    generalize endP (pD s) s.size i = e at *
    cases hpb : prsB (s.extract i e)
    · rw [hpb] at hp
      refine meets_upf Try.func16 u_impl_nextToken_g rfl ?_;simp only [u_impl_nextToken_u]
      repeat' (first | (with_reducible first | refine jn_in ?_ | refine cl_ok (by assumption) rfl ?_ | refine cl_okP (by assumption) rfl ?_ | refine br_x (fun hbr=>?_) fun hbr=>?_) | simp (disch:=first | omega | (simp only [lnA];omega) | simp only [lnB,Nat.reduceAdd]) only [go_sem,↓reduceIte,Nat.reduceAdd,reduceNeg,Int.reduceAdd,reduceSub,reduceMul,reduceLT,reduceLE,reduceEq,reduceToNat,Nat.reduceBEq,nat1,Int.toNat_natCast])
      all_goals first | omega | rfl | skip
    · rw [hpb] at hp
      refine meets_upf Try.func16 u_impl_nextToken_g rfl ?_;simp only [u_impl_nextToken_u]
      repeat' (first | (with_reducible first | refine jn_in ?_ | refine cl_ok (by assumption) rfl ?_ | refine cl_okP (by assumption) rfl ?_ | refine br_x (fun hbr=>?_) fun hbr=>?_) | simp (disch:=first | omega | (simp only [lnA];omega) | simp only [lnB,Nat.reduceAdd]) only [go_sem,↓reduceIte,Nat.reduceAdd,reduceNeg,Int.reduceAdd,reduceSub,reduceMul,reduceLT,reduceLE,reduceEq,reduceToNat,Nat.reduceBEq,nat1,Int.toNat_natCast])
      all_goals first | omega | rfl | skip
  have hd0 : digB (byteAt s i) = false:=by simpa using h1
  rw [hd0] at hd
  by_cases h2 : byteAt s i = 34
  · have hE:=stringEnd_m s i hi hs
    have l1:=endQ_ge s (i + 1)
    have hR : nxt s i = if endQ s (i + 1) < s.size∧(unqR (s.extract i (endQ s (i + 1) + 1))).2 = true∧(unqR (s.extract i (endQ s (i + 1) + 1))).1.size≤60 then some (⟨2,(unqR (s.extract i (endQ s (i + 1) + 1))).1⟩,endQ s (i + 1) + 1) else none:=by unfold nxt;rw [if_neg h1,if_pos h2]
    rw [hR]
    have hx:=ext_le s i (endQ s (i + 1) + 1)
    obtain ⟨hu,-,hu2⟩:=unqR_ok (s:=s.extract i (endQ s (i + 1) + 1)) (by omega)
    rw [h2] at hd
    generalize endQ s (i + 1) = e at *
    by_cases he : e < s.size
    · rw [if_pos he] at hE
      cases hub : (unqR (s.extract i (e + 1))).2
      · rw [hub] at hu
        rw [if_neg (fun h=>by cases h.2.1)]
        refine meets_upf Try.func16 u_impl_nextToken_g rfl ?_;simp only [u_impl_nextToken_u]
        repeat' (first | (with_reducible first | refine jn_in ?_ | refine cl_ok (by assumption) rfl ?_ | refine cl_okP (by assumption) rfl ?_ | refine br_x (fun hbr=>?_) fun hbr=>?_) | simp (disch:=first | omega | (simp only [lnA];omega) | simp only [lnB,Nat.reduceAdd]) only [go_sem,↓reduceIte,Nat.reduceAdd,reduceNeg,Int.reduceAdd,reduceSub,reduceMul,reduceLT,reduceLE,reduceEq,reduceToNat,Nat.reduceBEq,nat1,h2,Int.toNat_natCast])
        all_goals first | omega | rfl | skip
      · rw [hub] at hu
        by_cases h60 : (unqR (s.extract i (e + 1))).1.size≤60
        · rw [if_pos ⟨he,rfl,h60⟩]
          refine meets_upf Try.func16 u_impl_nextToken_g rfl ?_;simp only [u_impl_nextToken_u]
          repeat' (first | (with_reducible first | refine jn_in ?_ | refine cl_ok (by assumption) rfl ?_ | refine cl_okP (by assumption) rfl ?_ | refine br_x (fun hbr=>?_) fun hbr=>?_) | simp (disch:=first | omega | (simp only [lnA];omega) | simp only [lnB,Nat.reduceAdd]) only [go_sem,↓reduceIte,Nat.reduceAdd,reduceNeg,Int.reduceAdd,reduceSub,reduceMul,reduceLT,reduceLE,reduceEq,reduceToNat,Nat.reduceBEq,nat1,h2,Int.toNat_natCast])
          all_goals first | omega | rfl | skip
        · rw [if_neg (fun h=>h60 h.2.2)]
          refine meets_upf Try.func16 u_impl_nextToken_g rfl ?_;simp only [u_impl_nextToken_u]
          repeat' (first | (with_reducible first | refine jn_in ?_ | refine cl_ok (by assumption) rfl ?_ | refine cl_okP (by assumption) rfl ?_ | refine br_x (fun hbr=>?_) fun hbr=>?_) | simp (disch:=first | omega | (simp only [lnA];omega) | simp only [lnB,Nat.reduceAdd]) only [go_sem,↓reduceIte,Nat.reduceAdd,reduceNeg,Int.reduceAdd,reduceSub,reduceMul,reduceLT,reduceLE,reduceEq,reduceToNat,Nat.reduceBEq,nat1,h2,Int.toNat_natCast])
          all_goals first | omega | rfl | skip
    · rw [if_neg he] at hE
      rw [if_neg (fun h=>he h.1)]
      refine meets_upf Try.func16 u_impl_nextToken_g rfl ?_;simp only [u_impl_nextToken_u]
      repeat' (first | (with_reducible first | refine jn_in ?_ | refine cl_ok (by assumption) rfl ?_ | refine cl_okP (by assumption) rfl ?_ | refine br_x (fun hbr=>?_) fun hbr=>?_) | simp (disch:=first | omega | (simp only [lnA];omega) | simp only [lnB,Nat.reduceAdd]) only [go_sem,↓reduceIte,Nat.reduceAdd,reduceNeg,Int.reduceAdd,reduceSub,reduceMul,reduceLT,reduceLE,reduceEq,reduceToNat,Nat.reduceBEq,nat1,h2,Int.toNat_natCast])
      all_goals first | omega | rfl | skip
  have d34 : ¬ (byteAt s i : Int) = 34:=by omega
  by_cases h3 : byteAt s i = 96
  · obtain ⟨l1,l2⟩:=endP_le (p:=pB s) (n:=s.size) (i:=i + 1) (by omega)
    have hR : nxt s i = if endP (pB s) s.size (i + 1) < s.size∧nameB (s.extract (i + 1) (endP (pB s) s.size (i + 1))) = true then some (⟨3,s.extract (i + 1) (endP (pB s) s.size (i + 1))⟩,endP (pB s) s.size (i + 1) + 1) else none:=by unfold nxt;rw [if_neg h1,if_neg h2,if_pos h3]
    rw [hR]
    have hx:=ext_le s (i + 1) (endP (pB s) s.size (i + 1))
    have hn:=implName_m (s.extract (i + 1) (endP (pB s) s.size (i + 1))) (by omega)
    have h3' : (byteAt s i : Int) = 96:=by omega
    rw [h3'] at hd
    generalize hE : endP (pB s) s.size (i + 1) = e at *
    refine meets_upf Try.func16 u_impl_nextToken_g rfl ?_;simp only [u_impl_nextToken_u]
    repeat' (first | (with_reducible first | refine jn_in ?_ | refine cl_ok (by assumption) rfl ?_ | refine cl_okP (by assumption) rfl ?_ | refine br_x (fun hbr=>?_) fun hbr=>?_) | simp (disch:=first | omega | (simp only [lnA];omega) | simp only [lnB,Nat.reduceAdd]) only [go_sem,↓reduceIte,Nat.reduceAdd,reduceNeg,Int.reduceAdd,reduceSub,reduceMul,reduceLT,reduceLE,reduceEq,reduceToNat,Nat.reduceBEq,nat1,h3',Int.toNat_natCast])
    refine lp (fun k : Nat=>[.sc (.int .i64 k)]) (fun k=>k≤s.size∧endP (pB s) s.size k = e) (fun k=>s.size - k) (i + 1) rfl ⟨by omega,hE⟩ ?_
    rintro k ⟨hk,he⟩
    simp only [u_impl_nextToken_l0]
    by_cases hlt : k < s.size
    · by_cases hk96 : byteAt s k = 96
      · have:=endP_f (p:=pB s) (n:=s.size) (i:=k) (by unfold pB;rw [decide_eq_true hk96];rfl)
        obtain rfl : k = e:=by omega
        cases hnb : nameB (s.extract (i + 1) k)
        · rw [hnb] at hn
          rw [if_neg (fun h=>by cases h.2)]
          repeat' (first | (with_reducible first | refine jn_in ?_ | refine cl_ok (by assumption) rfl ?_ | refine cl_okP (by assumption) rfl ?_ | refine br_x (fun hbr=>?_) fun hbr=>?_) | simp (disch:=first | omega | (simp only [lnA];omega) | simp only [lnB,Nat.reduceAdd]) only [go_sem,↓reduceIte,Nat.reduceAdd,reduceNeg,Int.reduceAdd,reduceSub,reduceMul,reduceLT,reduceLE,reduceEq,reduceToNat,Nat.reduceBEq,nat1,hk96,Int.toNat_natCast,u_impl_nextToken_j1])
          all_goals first | omega | rfl | skip
        · rw [hnb] at hn
          rw [if_pos ⟨hlt,rfl⟩]
          repeat' (first | (with_reducible first | refine jn_in ?_ | refine cl_ok (by assumption) rfl ?_ | refine cl_okP (by assumption) rfl ?_ | refine br_x (fun hbr=>?_) fun hbr=>?_) | simp (disch:=first | omega | (simp only [lnA];omega) | simp only [lnB,Nat.reduceAdd]) only [go_sem,↓reduceIte,Nat.reduceAdd,reduceNeg,Int.reduceAdd,reduceSub,reduceMul,reduceLT,reduceLE,reduceEq,reduceToNat,Nat.reduceBEq,nat1,hk96,Int.toNat_natCast,u_impl_nextToken_j1])
          all_goals first | omega | rfl | skip
      · have:=endP_t (p:=pB s) (n:=s.size) hlt (by unfold pB;rw [decide_eq_false hk96];rfl)
        have d96 : ¬ (byteAt s k : Int) = 96:=by omega
        repeat' (first | (with_reducible first | refine jn_in ?_ | refine cl_ok (by assumption) rfl ?_ | refine cl_okP (by assumption) rfl ?_ | refine br_x (fun hbr=>?_) fun hbr=>?_) | simp (disch:=first | omega | (simp only [lnA];omega) | simp only [lnB,Nat.reduceAdd]) only [go_sem,↓reduceIte,Nat.reduceAdd,reduceNeg,Int.reduceAdd,reduceSub,reduceMul,reduceLT,reduceLE,reduceEq,reduceToNat,Nat.reduceBEq,nat1,d96,Int.toNat_natCast,u_impl_nextToken_j1])
        all_goals first | omega | contradiction | exact ⟨k + 1,rfl,⟨by omega,by omega⟩,by omega⟩ | skip
    · have:=endP_o (p:=pB s) (n:=s.size) (i:=k) (by omega)
      obtain rfl : k = e:=by omega
      rw [if_neg (fun h=>hlt h.1)]
      repeat' (first | (with_reducible first | refine jn_in ?_ | refine cl_ok (by assumption) rfl ?_ | refine cl_okP (by assumption) rfl ?_ | refine br_x (fun hbr=>?_) fun hbr=>?_) | simp (disch:=first | omega | (simp only [lnA];omega) | simp only [lnB,Nat.reduceAdd]) only [go_sem,↓reduceIte,Nat.reduceAdd,reduceNeg,Int.reduceAdd,reduceSub,reduceMul,reduceLT,reduceLE,reduceEq,reduceToNat,Nat.reduceBEq,nat1,Int.toNat_natCast,u_impl_nextToken_j1])
      all_goals first | omega | rfl | skip
  have d96 : ¬ (byteAt s i : Int) = 96:=by omega
  by_cases h4 : letB (byteAt s i) = true ∨ byteAt s i = 46
  · have hE:=wordEnd_m s i (by omega) hs
    obtain ⟨l1,l2⟩:=endP_le (p:=pW s) (n:=s.size) (i:=i) (by omega)
    have hR : nxt s i = if resB (s.extract i (endP (pW s) s.size i)) = true then some (⟨4,s.extract i (endP (pW s) s.size i)⟩,endP (pW s) s.size i) else if synB (s.extract i (endP (pW s) s.size i)) = true then some (⟨3,s.extract i (endP (pW s) s.size i)⟩,endP (pW s) s.size i) else none:=by unfold nxt;rw [if_neg h1,if_neg h2,if_neg h3,if_pos h4]
    rw [hR]
    have hx:=ext_le s i (endP (pW s) s.size i)
    have hw:=isWord_m (s.extract i (endP (pW s) s.size i))
    have hy:=implSyn_m (s.extract i (endP (pW s) s.size i)) (by omega)
    generalize endP (pW s) s.size i = e at *
    have h46 : letB (byteAt s i) = false→(byteAt s i : Int) = 46:=fun h=>by
      rcases h4 with h4 | h4
      · rw [h] at h4;cases h4
      · omega
    cases hwb : resB (s.extract i e)
    · cases hyb : synB (s.extract i e)
      · rw [hwb] at hw
        rw [hyb] at hy
        refine meets_upf Try.func16 u_impl_nextToken_g rfl ?_;simp only [u_impl_nextToken_u]
        repeat' (first | (with_reducible first | refine jn_in ?_ | refine cl_ok (by assumption) rfl ?_ | refine cl_okP (by assumption) rfl ?_ | refine br_x (fun hbr=>?_) fun hbr=>?_) | simp (disch:=first | omega | (simp only [lnA];omega) | simp only [lnB,Nat.reduceAdd]) only [go_sem,↓reduceIte,Nat.reduceAdd,reduceNeg,Int.reduceAdd,reduceSub,reduceMul,reduceLT,reduceLE,reduceEq,reduceToNat,Nat.reduceBEq,nat1,d34,d96,Int.toNat_natCast,u_impl_nextToken_j2])
        all_goals first | omega | rfl | contradiction | (exfalso;exact ‹¬ (byteAt s i : Int) = 46› (h46 ‹_›)) | skip
      · rw [hwb] at hw
        rw [hyb] at hy
        refine meets_upf Try.func16 u_impl_nextToken_g rfl ?_;simp only [u_impl_nextToken_u]
        repeat' (first | (with_reducible first | refine jn_in ?_ | refine cl_ok (by assumption) rfl ?_ | refine cl_okP (by assumption) rfl ?_ | refine br_x (fun hbr=>?_) fun hbr=>?_) | simp (disch:=first | omega | (simp only [lnA];omega) | simp only [lnB,Nat.reduceAdd]) only [go_sem,↓reduceIte,Nat.reduceAdd,reduceNeg,Int.reduceAdd,reduceSub,reduceMul,reduceLT,reduceLE,reduceEq,reduceToNat,Nat.reduceBEq,nat1,d34,d96,Int.toNat_natCast,u_impl_nextToken_j2])
        all_goals first | omega | rfl | contradiction | (exfalso;exact ‹¬ (byteAt s i : Int) = 46› (h46 ‹_›)) | skip
    · rw [hwb] at hw
      refine meets_upf Try.func16 u_impl_nextToken_g rfl ?_;simp only [u_impl_nextToken_u]
      repeat' (first | (with_reducible first | refine jn_in ?_ | refine cl_ok (by assumption) rfl ?_ | refine cl_okP (by assumption) rfl ?_ | refine br_x (fun hbr=>?_) fun hbr=>?_) | simp (disch:=first | omega | (simp only [lnA];omega) | simp only [lnB,Nat.reduceAdd]) only [go_sem,↓reduceIte,Nat.reduceAdd,reduceNeg,Int.reduceAdd,reduceSub,reduceMul,reduceLT,reduceLE,reduceEq,reduceToNat,Nat.reduceBEq,nat1,d34,d96,Int.toNat_natCast,u_impl_nextToken_j2])
      all_goals first | omega | rfl | contradiction | (exfalso;exact ‹¬ (byteAt s i : Int) = 46› (h46 ‹_›)) | skip
  have hl0 : letB (byteAt s i) = false:=by
    cases h : letB (byteAt s i)
    · rfl
    · exact absurd (.inl h) h4
  have d46 : ¬ (byteAt s i : Int) = 46:=fun h=>h4 (.inr (by omega))
  rw [hl0] at hl
  by_cases h5 : byteAt s i = 59
  · have hR : nxt s i = some (⟨6,⟨#[59]⟩⟩,i + 1):=by unfold nxt;rw [if_neg h1,if_neg h2,if_neg h3,if_neg h4,if_pos h5]
    rw [hR]
    rw [h5] at hd hl
    refine meets_upf Try.func16 u_impl_nextToken_g rfl ?_;simp only [u_impl_nextToken_u]
    repeat' (first | (with_reducible first | refine jn_in ?_ | refine cl_ok (by assumption) rfl ?_ | refine cl_okP (by assumption) rfl ?_ | refine br_x (fun hbr=>?_) fun hbr=>?_) | simp (disch:=first | omega | (simp only [lnA];omega) | simp only [lnB,Nat.reduceAdd]) only [go_sem,↓reduceIte,Nat.reduceAdd,reduceNeg,Int.reduceAdd,reduceSub,reduceMul,reduceLT,reduceLE,reduceEq,reduceToNat,Nat.reduceBEq,nat1,h5,Int.toNat_natCast,u_impl_nextToken_j2])
    all_goals first | omega | rfl | contradiction | skip
  have d59 : ¬ (byteAt s i : Int) = 59:=by omega
  have hR : nxt s i = if sgnI s i < sigL.length then some (⟨5,sigL.getD (sgnI s i) default⟩,i + (sigL.getD (sgnI s i) default).size) else none:=by unfold nxt;rw [if_neg h1,if_neg h2,if_neg h3,if_neg h4,if_neg h5]
  rw [hR]
  have hS:=signAt_m s i (by omega) hs
  by_cases h6 : sgnI s i < sigL.length
  · have hz:=sig_sz _ h6
    rw [if_pos h6] at hS ⊢
    generalize sigL.getD (sgnI s i) default = x at *
    have hxe : ¬ x = ⟨#[]⟩:=by rintro rfl;exact absurd hz.1 (by decide)
    refine meets_upf Try.func16 u_impl_nextToken_g rfl ?_;simp only [u_impl_nextToken_u]
    repeat' (first | (with_reducible first | refine jn_in ?_ | refine cl_ok (by assumption) rfl ?_ | refine cl_okP (by assumption) rfl ?_ | refine br_x (fun hbr=>?_) fun hbr=>?_) | simp (disch:=first | omega | (simp only [lnA];omega) | simp only [lnB,Nat.reduceAdd]) only [go_sem,↓reduceIte,Nat.reduceAdd,reduceNeg,Int.reduceAdd,reduceSub,reduceMul,reduceLT,reduceLE,reduceEq,reduceToNat,Nat.reduceBEq,nat1,d34,d96,d46,d59,Int.toNat_natCast,u_impl_nextToken_j2])
    all_goals first | omega | rfl | contradiction | skip
  · rw [if_neg h6] at hS ⊢
    refine meets_upf Try.func16 u_impl_nextToken_g rfl ?_;simp only [u_impl_nextToken_u]
    repeat' (first | (with_reducible first | refine jn_in ?_ | refine cl_ok (by assumption) rfl ?_ | refine cl_okP (by assumption) rfl ?_ | refine br_x (fun hbr=>?_) fun hbr=>?_) | simp (disch:=first | omega | (simp only [lnA];omega) | simp only [lnB,Nat.reduceAdd]) only [go_sem,↓reduceIte,Nat.reduceAdd,reduceNeg,Int.reduceAdd,reduceSub,reduceMul,reduceLT,reduceLE,reduceEq,reduceToNat,Nat.reduceBEq,nat1,d34,d96,d46,d59,Int.toNat_natCast,u_impl_nextToken_j2])
    all_goals first | omega | rfl | contradiction | skip
def nxS (i : Nat) (r : Option (Tok × Nat)) : List Rs:=match r with
  | some (k,e)=>[(true,encTok k,true),(false,[.sc (.int .i64 ((e : Nat) - (i : Nat) : Int))],true)]
  | none=>[(true,encTok ⟨0,⟨#[]⟩⟩,true),(false,[.sc (.int .i64 0)],true)]
def headL : List Nat:=[60,37,62,61,33,38,124,43,45,42,47,94,58,126,36,40,41,91,93,123,125,44]
theorem sig_head : ∀ k,k < sigL.length→byteAt (sigL.getD k default) 0 ∈ headL:=by decide
theorem sgn_none {s : ByteArray} {i : Nat} (h : byteAt s i ∉ headL) : sgnI s i = sigL.length:=by
  rcases Nat.lt_or_ge (sgnI s i) sigL.length with hlt | hge
  · exfalso
    have h1:=sgnI_hit hlt
    have h2:=sig_head _ hlt
    have h3:=sig_sz _ hlt
    unfold sgnC at h1
    obtain ⟨q1,q2⟩:=of_decide_eq_true h1
    rw [← q2,byteAt_ext (by omega) q1] at h2
    exact h h2
  · exact Nat.le_antisymm (sgnI_le s i) hge
noncomputable def sgR (s : ByteArray) (i : Nat) : Option (Tok × Nat):=if sgnI s i < sigL.length then some (⟨5,sigL.getD (sgnI s i) default⟩,i + (sigL.getD (sgnI s i) default).size) else none
theorem flS {t : Nat} {l : List ByteArray} : eFlat (some (.sl t 1 (l.map encS))) = some []:=fl_s
set_option maxHeartbeats 8000000 in
theorem sgl (s : ByteArray) (i : Nat) (hi : i < s.size) (hs : s.size≤1000000) {R : Option (Tok × Nat)} (hR : R = sgR s i) :
    V Try.prog (isRes (nxS i R)) (.loop [0] u_spec_l15Next_l11) [] [.sc (.int .i64 0),.sl 9 1 (sigL.map encS),.sc (.int .i64 i),.sc (.string s)]:=by
  subst hR
  have hle:=sgnI_le s i
  have hl : sigL.length = 31:=rfl
  refine lp_n (sgnI s i) (fun k=>[.sc (.int .i64 k)]) rfl fun k hk=>?_
  simp only [u_spec_l15Next_l11]
  by_cases hlt : k < sgnI s i
  · have hm:=sgnI_miss hlt
    have hz:=sig_sz k (by omega)
    unfold sgnC at hm
    have hm:=of_decide_eq_false hm
    generalize hx : sigL.getD k default = x at *
    repeat' (first | (with_reducible first | refine jn_in ?_ | refine cl_ok (by assumption) rfl ?_ | refine cl_okP (by assumption) rfl ?_ | refine br_x (fun hbr=>?_) fun hbr=>?_) | simp (disch:=first | omega | (simp only [lnA];omega) | simp only [lnB,Nat.reduceAdd]) only [go_sem,↓reduceIte,Nat.reduceAdd,reduceNeg,Int.reduceAdd,reduceSub,reduceMul,reduceLT,reduceLE,reduceEq,reduceToNat,Nat.reduceBEq,nat1,hx,Int.toNat_natCast,flS,u_spec_l15Next_j10])
    all_goals first | omega | exact ⟨rfl,hlt⟩ | exact absurd ⟨by omega,‹_›⟩ hm | skip
  · obtain rfl : k = sgnI s i:=by omega
    unfold sgR
    by_cases h : sgnI s i < sigL.length
    · have hh:=sgnI_hit h
      have hz:=sig_sz _ h
      unfold sgnC at hh
      obtain ⟨q1,q2⟩:=of_decide_eq_true hh
      rw [if_pos h]
      generalize hx : sigL.getD (sgnI s i) default = x at *
      have hsb : ((i + x.size : Nat) : Int) - (i : Int) = (x.size : Int):=by omega
      simp only [nxS,hsb]
      repeat' (first | (with_reducible first | refine jn_in ?_ | refine cl_ok (by assumption) rfl ?_ | refine cl_okP (by assumption) rfl ?_ | refine br_x (fun hbr=>?_) fun hbr=>?_) | simp (disch:=first | omega | (simp only [lnA];omega) | simp only [lnB,Nat.reduceAdd]) only [go_sem,↓reduceIte,Nat.reduceAdd,reduceNeg,Int.reduceAdd,reduceSub,reduceMul,reduceLT,reduceLE,reduceEq,reduceToNat,Nat.reduceBEq,nat1,hx,q2,Int.toNat_natCast,flS,u_spec_l15Next_j10])
      all_goals first | omega | rfl | contradiction | skip
    · rw [if_neg h]
      repeat' (first | (with_reducible first | refine jn_in ?_ | refine cl_ok (by assumption) rfl ?_ | refine cl_okP (by assumption) rfl ?_ | refine br_x (fun hbr=>?_) fun hbr=>?_) | simp (disch:=first | omega | (simp only [lnA];omega) | simp only [lnB,Nat.reduceAdd]) only [go_sem,↓reduceIte,Nat.reduceAdd,reduceNeg,Int.reduceAdd,reduceSub,reduceMul,reduceLT,reduceLE,reduceEq,reduceToNat,Nat.reduceBEq,nat1,u_spec_l15Next_j10])
      all_goals first | omega | rfl | skip
set_option maxHeartbeats 8000000 in
theorem nextS_m (s : ByteArray) (i : Nat) (hi : i < s.size) (hs : s.size≤1000000) : Meets Try.prog 18 [(false,[.sc (.string s)]),(false,[.sc (.int .i64 i)])] (nxS i (nxt s i)):=by
  have hb:=byteAt_lt s i
  have hd:=l1Digit_m (byteAt s i)
  have hl:=l1Letter_m (byteAt s i)
  have hsg:=l15Signs_m
  simp only [encSs] at hsg
  have hS0:=fun R hR=>@sgl s i hi hs R hR
  by_cases h1 : digB (byteAt s i) = true
  · obtain ⟨l1,l2⟩:=endP_le (p:=pD s) (n:=s.size) (i:=i) (by omega)
    have hR : nxt s i = if prsB (s.extract i (endP (pD s) s.size i)) = true then some (⟨1,s.extract i (endP (pD s) s.size i)⟩,endP (pD s) s.size i) else none:=by unfold nxt;rw [if_pos h1]
    have hx:=ext_le s i (endP (pD s) s.size i)
    have hp:=specPrs_m (s.extract i (endP (pD s) s.size i)) (by omega)
    have hno : none = sgR s i:=by
      unfold sgR
      rw [sgn_none (by unfold digB at h1;have:=of_decide_eq_true h1;simp only [headL,List.mem_cons,List.not_mem_nil,or_false,not_or];omega),if_neg (Nat.lt_irrefl _)]
    have hS:=hS0 none hno
    rw [hR]
    rw [h1] at hd
    generalize hE : endP (pD s) s.size i = e at *
    refine meets_upf Try.func18 u_spec_l15Next_g rfl ?_;simp only [u_spec_l15Next_u]
    repeat' (first | (with_reducible first | refine jn_in ?_ | refine cl_ok (by assumption) rfl ?_ | refine cl_okP (by assumption) rfl ?_ | refine br_x (fun hbr=>?_) fun hbr=>?_) | simp (disch:=first | omega | (simp only [lnA];omega) | simp only [lnB,Nat.reduceAdd]) only [go_sem,↓reduceIte,Nat.reduceAdd,reduceNeg,Int.reduceAdd,reduceSub,reduceMul,reduceLT,reduceLE,reduceEq,reduceToNat,Nat.reduceBEq,nat1,Int.toNat_natCast])
    refine lp (fun k : Nat=>[.sc (.int .i64 k)]) (fun k=>k≤s.size∧endP (pD s) s.size k = e) (fun k=>s.size - k) i rfl ⟨by omega,hE⟩ ?_
    rintro k ⟨hk,he⟩
    simp only [u_spec_l15Next_l0]
    have hdk:=l1Digit_m (byteAt s k)
    by_cases hlt : k < s.size
    · cases hp2 : digB (byteAt s k)
      · rw [hp2] at hdk
        have:=endP_f (p:=pD s) (n:=s.size) (i:=k) hp2
        obtain rfl : k = e:=by omega
        cases hpb : prsB (s.extract i k)
        · rw [hpb] at hp
          simp only [hpb,Bool.false_eq_true,if_false] at hS ⊢
          repeat' (first | (with_reducible first | refine jn_in ?_ | refine cl_ok (by assumption) rfl ?_ | refine cl_okP (by assumption) rfl ?_ | refine br_x (fun hbr=>?_) fun hbr=>?_) | simp (disch:=first | omega | (simp only [lnA];omega) | simp only [lnB,Nat.reduceAdd]) only [go_sem,↓reduceIte,Nat.reduceAdd,reduceNeg,Int.reduceAdd,reduceSub,reduceMul,reduceLT,reduceLE,reduceEq,reduceToNat,Nat.reduceBEq,nat1,Int.toNat_natCast,u_spec_l15Next_j1,u_spec_l15Next_j12])
          all_goals first | omega | exact hS | skip
        · rw [hpb] at hp
          simp only [hpb,if_true,nxS] at hS ⊢
          repeat' (first | (with_reducible first | refine jn_in ?_ | refine cl_ok (by assumption) rfl ?_ | refine cl_okP (by assumption) rfl ?_ | refine br_x (fun hbr=>?_) fun hbr=>?_) | simp (disch:=first | omega | (simp only [lnA];omega) | simp only [lnB,Nat.reduceAdd]) only [go_sem,↓reduceIte,Nat.reduceAdd,reduceNeg,Int.reduceAdd,reduceSub,reduceMul,reduceLT,reduceLE,reduceEq,reduceToNat,Nat.reduceBEq,nat1,Int.toNat_natCast,u_spec_l15Next_j1,u_spec_l15Next_j12])
          all_goals first | omega | rfl | skip
      · rw [hp2] at hdk
        have:=endP_t (p:=pD s) (n:=s.size) hlt hp2
        repeat' (first | (with_reducible first | refine jn_in ?_ | refine cl_ok (by assumption) rfl ?_ | refine cl_okP (by assumption) rfl ?_ | refine br_x (fun hbr=>?_) fun hbr=>?_) | simp (disch:=first | omega | (simp only [lnA];omega) | simp only [lnB,Nat.reduceAdd]) only [go_sem,↓reduceIte,Nat.reduceAdd,reduceNeg,Int.reduceAdd,reduceSub,reduceMul,reduceLT,reduceLE,reduceEq,reduceToNat,Nat.reduceBEq,nat1,Int.toNat_natCast,u_spec_l15Next_j1])
        all_goals first | omega | exact ⟨k + 1,rfl,⟨by omega,by omega⟩,by omega⟩ | skip
    · have:=endP_o (p:=pD s) (n:=s.size) (i:=k) (by omega)
      obtain rfl : k = e:=by omega
      cases hpb : prsB (s.extract i k)
      · rw [hpb] at hp
        simp only [hpb,Bool.false_eq_true,if_false] at hS ⊢
        repeat' (first | (with_reducible first | refine jn_in ?_ | refine cl_ok (by assumption) rfl ?_ | refine cl_okP (by assumption) rfl ?_ | refine br_x (fun hbr=>?_) fun hbr=>?_) | simp (disch:=first | omega | (simp only [lnA];omega) | simp only [lnB,Nat.reduceAdd]) only [go_sem,↓reduceIte,Nat.reduceAdd,reduceNeg,Int.reduceAdd,reduceSub,reduceMul,reduceLT,reduceLE,reduceEq,reduceToNat,Nat.reduceBEq,nat1,Int.toNat_natCast,u_spec_l15Next_j1,u_spec_l15Next_j12])
        all_goals first | omega | exact hS | skip
      · rw [hpb] at hp
        simp only [hpb,if_true,nxS] at hS ⊢
        repeat' (first | (with_reducible first | refine jn_in ?_ | refine cl_ok (by assumption) rfl ?_ | refine cl_okP (by assumption) rfl ?_ | refine br_x (fun hbr=>?_) fun hbr=>?_) | simp (disch:=first | omega | (simp only [lnA];omega) | simp only [lnB,Nat.reduceAdd]) only [go_sem,↓reduceIte,Nat.reduceAdd,reduceNeg,Int.reduceAdd,reduceSub,reduceMul,reduceLT,reduceLE,reduceEq,reduceToNat,Nat.reduceBEq,nat1,Int.toNat_natCast,u_spec_l15Next_j1,u_spec_l15Next_j12])
        all_goals first | omega | rfl | skip
  have hd0 : digB (byteAt s i) = false:=by simpa using h1
  rw [hd0] at hd
  by_cases h2 : byteAt s i = 34
  · have h2' : (byteAt s i : Int) = 34:=by omega
    have l1:=endQ_ge s (i + 1)
    have hR : nxt s i = if endQ s (i + 1) < s.size∧(unqR (s.extract i (endQ s (i + 1) + 1))).2 = true∧(unqR (s.extract i (endQ s (i + 1) + 1))).1.size≤60 then some (⟨2,(unqR (s.extract i (endQ s (i + 1) + 1))).1⟩,endQ s (i + 1) + 1) else none:=by unfold nxt;rw [if_neg h1,if_pos h2]
    have hx:=ext_le s i (endQ s (i + 1) + 1)
    obtain ⟨-,hu,hu2⟩:=unqR_ok (s:=s.extract i (endQ s (i + 1) + 1)) (by omega)
    have hno : none = sgR s i:=by
      unfold sgR
      rw [sgn_none (by rw [h2];decide),if_neg (Nat.lt_irrefl _)]
    have hS:=hS0 none hno
    rw [hR]
    rw [h2'] at hd
    generalize hE : endQ s (i + 1) = e at *
    generalize hU : unqR (s.extract i (e + 1)) = U at *
    obtain ⟨uo,ub⟩:=U
    simp only at hu hu2 ⊢
    refine meets_upf Try.func18 u_spec_l15Next_g rfl ?_;simp only [u_spec_l15Next_u]
    repeat' (first | (with_reducible first | refine jn_in ?_ | refine cl_ok (by assumption) rfl ?_ | refine cl_okP (by assumption) rfl ?_ | refine br_x (fun hbr=>?_) fun hbr=>?_) | simp (disch:=first | omega | (simp only [lnA];omega) | simp only [lnB,Nat.reduceAdd]) only [go_sem,↓reduceIte,Nat.reduceAdd,reduceNeg,Int.reduceAdd,reduceSub,reduceMul,reduceLT,reduceLE,reduceEq,reduceToNat,Nat.reduceBEq,nat1,h2',Int.toNat_natCast])
    refine lp (fun k : Nat=>[.sc (.int .i64 k)]) (fun k=>k≤s.size + 1∧endQ s k = e) (fun k=>s.size + 1 - k) (i + 1) rfl ⟨by omega,hE⟩ ?_
    rintro k ⟨hk,he⟩
    simp only [u_spec_l15Next_l3]
    by_cases hlt : k < s.size
    · by_cases q1 : byteAt s k = 92
      · have q1' : (byteAt s k : Int) = 92:=by omega
        have:=endQ_b hlt q1
        repeat' (first | (with_reducible first | refine jn_in ?_ | refine cl_ok (by assumption) rfl ?_ | refine cl_okP (by assumption) rfl ?_ | refine br_x (fun hbr=>?_) fun hbr=>?_) | simp (disch:=first | omega | (simp only [lnA];omega) | simp only [lnB,Nat.reduceAdd]) only [go_sem,↓reduceIte,Nat.reduceAdd,reduceNeg,Int.reduceAdd,reduceSub,reduceMul,reduceLT,reduceLE,reduceEq,reduceToNat,Nat.reduceBEq,nat1,q1',Int.toNat_natCast,u_spec_l15Next_j2,u_spec_l15Next_j4])
        all_goals first | omega | exact ⟨k + 2,rfl,⟨by omega,by omega⟩,by omega⟩ | skip
      · by_cases q2 : byteAt s k = 34
        · have q2' : (byteAt s k : Int) = 34:=by omega
          have:=endQ_q hlt q2
          obtain rfl : k = e:=by omega
          cases ub
          · rw [if_neg (fun h=>by cases h.2.1)]
            repeat' (first | (with_reducible first | refine jn_in ?_ | refine cl_ok (by assumption) rfl ?_ | refine cl_okP (by assumption) rfl ?_ | refine br_x (fun hbr=>?_) fun hbr=>?_) | simp (disch:=first | omega | (simp only [lnA];omega) | simp only [lnB,Nat.reduceAdd]) only [go_sem,↓reduceIte,Nat.reduceAdd,reduceNeg,Int.reduceAdd,reduceSub,reduceMul,reduceLT,reduceLE,reduceEq,reduceToNat,Nat.reduceBEq,nat1,q2',Int.toNat_natCast,u_spec_l15Next_j4,u_spec_l15Next_j12])
            all_goals first | omega | exact hS | skip
          · by_cases h60 : uo.size≤60
            · rw [if_pos ⟨hlt,rfl,h60⟩]
              simp only [nxS]
              repeat' (first | (with_reducible first | refine jn_in ?_ | refine cl_ok (by assumption) rfl ?_ | refine cl_okP (by assumption) rfl ?_ | refine br_x (fun hbr=>?_) fun hbr=>?_) | simp (disch:=first | omega | (simp only [lnA];omega) | simp only [lnB,Nat.reduceAdd]) only [go_sem,↓reduceIte,Nat.reduceAdd,reduceNeg,Int.reduceAdd,reduceSub,reduceMul,reduceLT,reduceLE,reduceEq,reduceToNat,Nat.reduceBEq,nat1,q2',Int.toNat_natCast,u_spec_l15Next_j4,u_spec_l15Next_j12])
              all_goals first | omega | rfl | skip
            · rw [if_neg (fun h=>h60 h.2.2)]
              repeat' (first | (with_reducible first | refine jn_in ?_ | refine cl_ok (by assumption) rfl ?_ | refine cl_okP (by assumption) rfl ?_ | refine br_x (fun hbr=>?_) fun hbr=>?_) | simp (disch:=first | omega | (simp only [lnA];omega) | simp only [lnB,Nat.reduceAdd]) only [go_sem,↓reduceIte,Nat.reduceAdd,reduceNeg,Int.reduceAdd,reduceSub,reduceMul,reduceLT,reduceLE,reduceEq,reduceToNat,Nat.reduceBEq,nat1,q2',Int.toNat_natCast,u_spec_l15Next_j4,u_spec_l15Next_j12])
              all_goals first | omega | exact hS | skip
        · have:=endQ_n hlt q1 q2
          have d1 : ¬ (byteAt s k : Int) = 92:=by omega
          have d2 : ¬ (byteAt s k : Int) = 34:=by omega
          repeat' (first | (with_reducible first | refine jn_in ?_ | refine cl_ok (by assumption) rfl ?_ | refine cl_okP (by assumption) rfl ?_ | refine br_x (fun hbr=>?_) fun hbr=>?_) | simp (disch:=first | omega | (simp only [lnA];omega) | simp only [lnB,Nat.reduceAdd]) only [go_sem,↓reduceIte,Nat.reduceAdd,reduceNeg,Int.reduceAdd,reduceSub,reduceMul,reduceLT,reduceLE,reduceEq,reduceToNat,Nat.reduceBEq,nat1,d1,d2,Int.toNat_natCast,u_spec_l15Next_j2,u_spec_l15Next_j4])
          all_goals first | omega | contradiction | exact ⟨k + 1,rfl,⟨by omega,by omega⟩,by omega⟩ | skip
    · have:=endQ_o (s:=s) (i:=k) (by omega)
      obtain rfl : k = e:=by omega
      rw [if_neg (fun h=>hlt h.1)]
      repeat' (first | (with_reducible first | refine jn_in ?_ | refine cl_ok (by assumption) rfl ?_ | refine cl_okP (by assumption) rfl ?_ | refine br_x (fun hbr=>?_) fun hbr=>?_) | simp (disch:=first | omega | (simp only [lnA];omega) | simp only [lnB,Nat.reduceAdd]) only [go_sem,↓reduceIte,Nat.reduceAdd,reduceNeg,Int.reduceAdd,reduceSub,reduceMul,reduceLT,reduceLE,reduceEq,reduceToNat,Nat.reduceBEq,nat1,Int.toNat_natCast,u_spec_l15Next_j4,u_spec_l15Next_j12])
      all_goals first | omega | exact hS | skip
  have d34 : ¬ (byteAt s i : Int) = 34:=by omega
  by_cases h3 : byteAt s i = 96
  · have h3' : (byteAt s i : Int) = 96:=by omega
    obtain ⟨l1,l2⟩:=endP_le (p:=pB s) (n:=s.size) (i:=i + 1) (by omega)
    have hR : nxt s i = if endP (pB s) s.size (i + 1) < s.size∧nameB (s.extract (i + 1) (endP (pB s) s.size (i + 1))) = true then some (⟨3,s.extract (i + 1) (endP (pB s) s.size (i + 1))⟩,endP (pB s) s.size (i + 1) + 1) else none:=by unfold nxt;rw [if_neg h1,if_neg h2,if_pos h3]
    have hx:=ext_le s (i + 1) (endP (pB s) s.size (i + 1))
    have hn:=specName_m (s.extract (i + 1) (endP (pB s) s.size (i + 1))) (by omega)
    have hno : none = sgR s i:=by
      unfold sgR
      rw [sgn_none (by rw [h3];decide),if_neg (Nat.lt_irrefl _)]
    have hS:=hS0 none hno
    rw [hR]
    rw [h3'] at hd
    generalize hE : endP (pB s) s.size (i + 1) = e at *
    refine meets_upf Try.func18 u_spec_l15Next_g rfl ?_;simp only [u_spec_l15Next_u]
    repeat' (first | (with_reducible first | refine jn_in ?_ | refine cl_ok (by assumption) rfl ?_ | refine cl_okP (by assumption) rfl ?_ | refine br_x (fun hbr=>?_) fun hbr=>?_) | simp (disch:=first | omega | (simp only [lnA];omega) | simp only [lnB,Nat.reduceAdd]) only [go_sem,↓reduceIte,Nat.reduceAdd,reduceNeg,Int.reduceAdd,reduceSub,reduceMul,reduceLT,reduceLE,reduceEq,reduceToNat,Nat.reduceBEq,nat1,h3',Int.toNat_natCast])
    refine lp (fun k : Nat=>[.sc (.int .i64 k)]) (fun k=>k≤s.size∧endP (pB s) s.size k = e) (fun k=>s.size - k) (i + 1) rfl ⟨by omega,hE⟩ ?_
    rintro k ⟨hk,he⟩
    simp only [u_spec_l15Next_l5]
    by_cases hlt : k < s.size
    · by_cases hk96 : byteAt s k = 96
      · have hk96' : (byteAt s k : Int) = 96:=by omega
        have:=endP_f (p:=pB s) (n:=s.size) (i:=k) (by unfold pB;rw [decide_eq_true hk96];rfl)
        obtain rfl : k = e:=by omega
        cases hnb : nameB (s.extract (i + 1) k)
        · rw [hnb] at hn
          rw [if_neg (fun h=>by cases h.2)]
          repeat' (first | (with_reducible first | refine jn_in ?_ | refine cl_ok (by assumption) rfl ?_ | refine cl_okP (by assumption) rfl ?_ | refine br_x (fun hbr=>?_) fun hbr=>?_) | simp (disch:=first | omega | (simp only [lnA];omega) | simp only [lnB,Nat.reduceAdd]) only [go_sem,↓reduceIte,Nat.reduceAdd,reduceNeg,Int.reduceAdd,reduceSub,reduceMul,reduceLT,reduceLE,reduceEq,reduceToNat,Nat.reduceBEq,nat1,hk96',Int.toNat_natCast,u_spec_l15Next_j6,u_spec_l15Next_j12])
          all_goals first | omega | exact hS | skip
        · rw [hnb] at hn
          rw [if_pos ⟨hlt,rfl⟩]
          simp only [nxS]
          repeat' (first | (with_reducible first | refine jn_in ?_ | refine cl_ok (by assumption) rfl ?_ | refine cl_okP (by assumption) rfl ?_ | refine br_x (fun hbr=>?_) fun hbr=>?_) | simp (disch:=first | omega | (simp only [lnA];omega) | simp only [lnB,Nat.reduceAdd]) only [go_sem,↓reduceIte,Nat.reduceAdd,reduceNeg,Int.reduceAdd,reduceSub,reduceMul,reduceLT,reduceLE,reduceEq,reduceToNat,Nat.reduceBEq,nat1,hk96',Int.toNat_natCast,u_spec_l15Next_j6,u_spec_l15Next_j12])
          all_goals first | omega | rfl | skip
      · have:=endP_t (p:=pB s) (n:=s.size) hlt (by unfold pB;rw [decide_eq_false hk96];rfl)
        have d96 : ¬ (byteAt s k : Int) = 96:=by omega
        repeat' (first | (with_reducible first | refine jn_in ?_ | refine cl_ok (by assumption) rfl ?_ | refine cl_okP (by assumption) rfl ?_ | refine br_x (fun hbr=>?_) fun hbr=>?_) | simp (disch:=first | omega | (simp only [lnA];omega) | simp only [lnB,Nat.reduceAdd]) only [go_sem,↓reduceIte,Nat.reduceAdd,reduceNeg,Int.reduceAdd,reduceSub,reduceMul,reduceLT,reduceLE,reduceEq,reduceToNat,Nat.reduceBEq,nat1,d96,Int.toNat_natCast,u_spec_l15Next_j6])
        all_goals first | omega | contradiction | exact ⟨k + 1,rfl,⟨by omega,by omega⟩,by omega⟩ | skip
    · have:=endP_o (p:=pB s) (n:=s.size) (i:=k) (by omega)
      obtain rfl : k = e:=by omega
      rw [if_neg (fun h=>hlt h.1)]
      repeat' (first | (with_reducible first | refine jn_in ?_ | refine cl_ok (by assumption) rfl ?_ | refine cl_okP (by assumption) rfl ?_ | refine br_x (fun hbr=>?_) fun hbr=>?_) | simp (disch:=first | omega | (simp only [lnA];omega) | simp only [lnB,Nat.reduceAdd]) only [go_sem,↓reduceIte,Nat.reduceAdd,reduceNeg,Int.reduceAdd,reduceSub,reduceMul,reduceLT,reduceLE,reduceEq,reduceToNat,Nat.reduceBEq,nat1,Int.toNat_natCast,u_spec_l15Next_j6,u_spec_l15Next_j12])
      all_goals first | omega | exact hS | skip
  have d96 : ¬ (byteAt s i : Int) = 96:=by omega
  by_cases h4 : letB (byteAt s i) = true ∨ byteAt s i = 46
  · obtain ⟨l1,l2⟩:=endP_le (p:=pW s) (n:=s.size) (i:=i) (by omega)
    have hR : nxt s i = if resB (s.extract i (endP (pW s) s.size i)) = true then some (⟨4,s.extract i (endP (pW s) s.size i)⟩,endP (pW s) s.size i) else if synB (s.extract i (endP (pW s) s.size i)) = true then some (⟨3,s.extract i (endP (pW s) s.size i)⟩,endP (pW s) s.size i) else none:=by unfold nxt;rw [if_neg h1,if_neg h2,if_neg h3,if_pos h4]
    have hx:=ext_le s i (endP (pW s) s.size i)
    have hw:=l1Reserved_m (s.extract i (endP (pW s) s.size i))
    have hy:=specSyn_m (s.extract i (endP (pW s) s.size i)) (by omega)
    have hno : none = sgR s i:=by
      unfold sgR
      rw [sgn_none (by
        rcases h4 with h4 | h4
        · unfold letB at h4;simp only [Bool.or_eq_true,decide_eq_true_eq] at h4;simp only [headL,List.mem_cons,List.not_mem_nil,or_false,not_or];omega
        · rw [h4];decide),if_neg (Nat.lt_irrefl _)]
    have hS:=hS0 none hno
    rw [hR]
    generalize hE : endP (pW s) s.size i = e at *
    have h46 : letB (byteAt s i) = false→(byteAt s i : Int) = 46:=fun h=>by
      rcases h4 with h4 | h4
      · rw [h] at h4;cases h4
      · omega
    have key : ∀ c c2 : DV,V Try.prog (isRes (nxS i (if resB (s.extract i e) = true then some (⟨4,s.extract i e⟩,e) else if synB (s.extract i e) = true then some (⟨3,s.extract i e⟩,e) else none))) (.loop [3] u_spec_l15Next_l8) [fun vs=>V Try.prog (isRes (nxS i (if resB (s.extract i e) = true then some (⟨4,s.extract i e⟩,e) else if synB (s.extract i e) = true then some (⟨3,s.extract i e⟩,e) else none))) u_spec_l15Next_j12 [] (psh vs [.sc (.int .u8 (byteAt s i : Nat)),.sc (.int .i64 0),.sc (.string ⟨#[]⟩),.sc (.int .i64 0),.sc (.int .i64 i),.sc (.string s)])] [c,c2,.sc (.int .u8 (byteAt s i : Nat)),.sc (.int .i64 i),.sc (.string s)]:=by
      intro c c2
      refine lp (fun k : Nat=>[.sc (.int .i64 k)]) (fun k=>k≤s.size∧endP (pW s) s.size k = e) (fun k=>s.size - k) i rfl ⟨by omega,hE⟩ ?_
      rintro k ⟨hk,he⟩
      simp only [u_spec_l15Next_l8]
      clear hS0 hd hl
      have hd:=l1Digit_m (byteAt s k)
      have hl:=l1Letter_m (byteAt s k)
      have hpw : pW s k = (letB (byteAt s k) || (digB (byteAt s k) || (decide (byteAt s k = 46) || decide (byteAt s k = 95)))):=rfl
      by_cases hlt : k < s.size
      · cases hp : pW s k
        · have:=endP_f (p:=pW s) (n:=s.size) (i:=k) hp
          obtain rfl : k = e:=by omega
          rw [hp] at hpw
          have hpw:=hpw.symm
          simp only [Bool.or_eq_false_iff,decide_eq_false_iff_not] at hpw
          obtain ⟨p1,p2,p3,p4⟩:=hpw
          rw [p1] at hl
          rw [p2] at hd
          have d1 : ¬ (byteAt s k : Int) = 46:=by omega
          have d2 : ¬ (byteAt s k : Int) = 95:=by omega
          cases hwb : resB (s.extract i k)
          · cases hyb : synB (s.extract i k)
            · rw [hwb] at hw
              rw [hyb] at hy
              simp only [hwb,hyb,Bool.false_eq_true,if_false] at hS ⊢
              repeat' (first | (with_reducible first | refine jn_in ?_ | refine cl_ok (by assumption) rfl ?_ | refine cl_okP (by assumption) rfl ?_ | refine br_x (fun hbr=>?_) fun hbr=>?_) | simp (disch:=first | omega | (simp only [lnA];omega) | simp only [lnB,Nat.reduceAdd]) only [go_sem,↓reduceIte,Nat.reduceAdd,reduceNeg,Int.reduceAdd,reduceSub,reduceMul,reduceLT,reduceLE,reduceEq,reduceToNat,Nat.reduceBEq,nat1,d1,d2,Int.toNat_natCast,u_spec_l15Next_j7,u_spec_l15Next_j12])
              all_goals first | omega | contradiction | exact hS | skip
            · rw [hwb] at hw
              rw [hyb] at hy
              simp only [hwb,hyb,Bool.false_eq_true,if_false,if_true,nxS] at hS ⊢
              repeat' (first | (with_reducible first | refine jn_in ?_ | refine cl_ok (by assumption) rfl ?_ | refine cl_okP (by assumption) rfl ?_ | refine br_x (fun hbr=>?_) fun hbr=>?_) | simp (disch:=first | omega | (simp only [lnA];omega) | simp only [lnB,Nat.reduceAdd]) only [go_sem,↓reduceIte,Nat.reduceAdd,reduceNeg,Int.reduceAdd,reduceSub,reduceMul,reduceLT,reduceLE,reduceEq,reduceToNat,Nat.reduceBEq,nat1,d1,d2,Int.toNat_natCast,u_spec_l15Next_j7,u_spec_l15Next_j12])
              all_goals first | omega | contradiction | rfl | skip
          · rw [hwb] at hw
            simp only [hwb,if_true,nxS] at hS ⊢
            repeat' (first | (with_reducible first | refine jn_in ?_ | refine cl_ok (by assumption) rfl ?_ | refine cl_okP (by assumption) rfl ?_ | refine br_x (fun hbr=>?_) fun hbr=>?_) | simp (disch:=first | omega | (simp only [lnA];omega) | simp only [lnB,Nat.reduceAdd]) only [go_sem,↓reduceIte,Nat.reduceAdd,reduceNeg,Int.reduceAdd,reduceSub,reduceMul,reduceLT,reduceLE,reduceEq,reduceToNat,Nat.reduceBEq,nat1,d1,d2,Int.toNat_natCast,u_spec_l15Next_j7,u_spec_l15Next_j12])
            all_goals first | omega | contradiction | rfl | skip
        · have:=endP_t (p:=pW s) (n:=s.size) hlt hp
          rw [hp] at hpw
          have hcon : letB (byteAt s k) = false→digB (byteAt s k) = false→¬ (byteAt s k : Int) = 46→¬ (byteAt s k : Int) = 95→False:=fun a1 a2 a3 a4=>by
            rw [a1,a2,decide_eq_false (by omega),decide_eq_false (by omega)] at hpw
            cases hpw
          repeat' (first | (with_reducible first | refine jn_in ?_ | refine cl_ok (by assumption) rfl ?_ | refine cl_okP (by assumption) rfl ?_ | refine br_x (fun hbr=>?_) fun hbr=>?_) | simp (disch:=first | omega | (simp only [lnA];omega) | simp only [lnB,Nat.reduceAdd]) only [go_sem,↓reduceIte,Nat.reduceAdd,reduceNeg,Int.reduceAdd,reduceSub,reduceMul,reduceLT,reduceLE,reduceEq,reduceToNat,Nat.reduceBEq,nat1,Int.toNat_natCast,u_spec_l15Next_j7])
          all_goals first | omega | exact ⟨k + 1,rfl,⟨by omega,by omega⟩,by omega⟩ | (exfalso;exact hcon ‹_› ‹_› ‹¬ (byteAt s k : Int) = 46› ‹¬ (byteAt s k : Int) = 95›) | skip
      · have:=endP_o (p:=pW s) (n:=s.size) (i:=k) (by omega)
        obtain rfl : k = e:=by omega
        cases hwb : resB (s.extract i k)
        · cases hyb : synB (s.extract i k)
          · rw [hwb] at hw
            rw [hyb] at hy
            simp only [hwb,hyb,Bool.false_eq_true,if_false] at hS ⊢
            repeat' (first | (with_reducible first | refine jn_in ?_ | refine cl_ok (by assumption) rfl ?_ | refine cl_okP (by assumption) rfl ?_ | refine br_x (fun hbr=>?_) fun hbr=>?_) | simp (disch:=first | omega | (simp only [lnA];omega) | simp only [lnB,Nat.reduceAdd]) only [go_sem,↓reduceIte,Nat.reduceAdd,reduceNeg,Int.reduceAdd,reduceSub,reduceMul,reduceLT,reduceLE,reduceEq,reduceToNat,Nat.reduceBEq,nat1,Int.toNat_natCast,u_spec_l15Next_j7,u_spec_l15Next_j12])
            all_goals first | omega | contradiction | exact hS | skip
          · rw [hwb] at hw
            rw [hyb] at hy
            simp only [hwb,hyb,Bool.false_eq_true,if_false,if_true,nxS] at hS ⊢
            repeat' (first | (with_reducible first | refine jn_in ?_ | refine cl_ok (by assumption) rfl ?_ | refine cl_okP (by assumption) rfl ?_ | refine br_x (fun hbr=>?_) fun hbr=>?_) | simp (disch:=first | omega | (simp only [lnA];omega) | simp only [lnB,Nat.reduceAdd]) only [go_sem,↓reduceIte,Nat.reduceAdd,reduceNeg,Int.reduceAdd,reduceSub,reduceMul,reduceLT,reduceLE,reduceEq,reduceToNat,Nat.reduceBEq,nat1,Int.toNat_natCast,u_spec_l15Next_j7,u_spec_l15Next_j12])
            all_goals first | omega | contradiction | rfl | skip
        · rw [hwb] at hw
          simp only [hwb,if_true,nxS] at hS ⊢
          repeat' (first | (with_reducible first | refine jn_in ?_ | refine cl_ok (by assumption) rfl ?_ | refine cl_okP (by assumption) rfl ?_ | refine br_x (fun hbr=>?_) fun hbr=>?_) | simp (disch:=first | omega | (simp only [lnA];omega) | simp only [lnB,Nat.reduceAdd]) only [go_sem,↓reduceIte,Nat.reduceAdd,reduceNeg,Int.reduceAdd,reduceSub,reduceMul,reduceLT,reduceLE,reduceEq,reduceToNat,Nat.reduceBEq,nat1,Int.toNat_natCast,u_spec_l15Next_j7,u_spec_l15Next_j12])
          all_goals first | omega | contradiction | rfl | skip
    refine meets_upf Try.func18 u_spec_l15Next_g rfl ?_;simp only [u_spec_l15Next_u]
    repeat' (first | (with_reducible first | refine jn_in ?_ | refine cl_ok (by assumption) rfl ?_ | refine cl_okP (by assumption) rfl ?_ | refine br_x (fun hbr=>?_) fun hbr=>?_) | simp (disch:=first | omega | (simp only [lnA];omega) | simp only [lnB,Nat.reduceAdd]) only [go_sem,↓reduceIte,Nat.reduceAdd,reduceNeg,Int.reduceAdd,reduceSub,reduceMul,reduceLT,reduceLE,reduceEq,reduceToNat,Nat.reduceBEq,nat1,d34,d96,Int.toNat_natCast,u_spec_l15Next_j9])
    all_goals first | contradiction | (exfalso;exact ‹¬ (byteAt s i : Int) = 46› (h46 ‹_›)) | exact key _ _ | skip
  have hl0 : letB (byteAt s i) = false:=by
    cases h : letB (byteAt s i)
    · rfl
    · exact absurd (.inl h) h4
  have d46 : ¬ (byteAt s i : Int) = 46:=fun h=>h4 (.inr (by omega))
  rw [hl0] at hl
  by_cases h5 : byteAt s i = 59
  · have h5' : (byteAt s i : Int) = 59:=by omega
    have hR : nxt s i = some (⟨6,⟨#[59]⟩⟩,i + 1):=by unfold nxt;rw [if_neg h1,if_neg h2,if_neg h3,if_neg h4,if_pos h5]
    rw [hR]
    rw [h5'] at hd hl
    have e1 : ((i + 1 : Nat) : Int) - (i : Int) = 1:=by omega
    simp only [nxS,e1]
    refine meets_upf Try.func18 u_spec_l15Next_g rfl ?_;simp only [u_spec_l15Next_u]
    repeat' (first | (with_reducible first | refine jn_in ?_ | refine cl_ok (by assumption) rfl ?_ | refine cl_okP (by assumption) rfl ?_ | refine br_x (fun hbr=>?_) fun hbr=>?_) | simp (disch:=first | omega | (simp only [lnA];omega) | simp only [lnB,Nat.reduceAdd]) only [go_sem,↓reduceIte,Nat.reduceAdd,reduceNeg,Int.reduceAdd,reduceSub,reduceMul,reduceLT,reduceLE,reduceEq,reduceToNat,Nat.reduceBEq,nat1,h5',Int.toNat_natCast,u_spec_l15Next_j9])
    all_goals first | omega | rfl | contradiction | skip
  have d59 : ¬ (byteAt s i : Int) = 59:=by omega
  have hR : nxt s i = sgR s i:=by unfold nxt;rw [if_neg h1,if_neg h2,if_neg h3,if_neg h4,if_neg h5];rfl
  have hS:=hS0 _ hR
  refine meets_upf Try.func18 u_spec_l15Next_g rfl ?_;simp only [u_spec_l15Next_u]
  repeat' (first | (with_reducible first | refine jn_in ?_ | refine cl_ok (by assumption) rfl ?_ | refine cl_okP (by assumption) rfl ?_ | refine br_x (fun hbr=>?_) fun hbr=>?_) | simp (disch:=first | omega | (simp only [lnA];omega) | simp only [lnB,Nat.reduceAdd]) only [go_sem,↓reduceIte,Nat.reduceAdd,reduceNeg,Int.reduceAdd,reduceSub,reduceMul,reduceLT,reduceLE,reduceEq,reduceToNat,Nat.reduceBEq,nat1,d34,d96,d46,d59,Int.toNat_natCast,u_spec_l15Next_j9,u_spec_l15Next_j12])
  all_goals first | omega | contradiction | exact hS | skip
def lastT (out : List Tok) : Tok:=out.getLastD ⟨6,⟨#[]⟩⟩
def okN (op : List Nat) : Bool:=decide (op.getLastD 123 = 123)
def opN (k : Tok) (op : List Nat) : List Nat :=
  if k.kind = 5 then (if k.text = ⟨#[40]⟩ ∨ k.text = ⟨#[91]⟩ ∨ k.text = ⟨#[123]⟩ then op ++ [byteAt k.text 0] else if k.text = ⟨#[41]⟩ ∨ k.text = ⟨#[93]⟩ ∨ k.text = ⟨#[125]⟩ then op.take (op.length - 1) else op) else op
def semiT : Tok:=⟨6,⟨#[59]⟩⟩
def nlO (out : List Tok) (op : List Nat) : List Tok:=if okN op = true∧endsX (lastT out) = true then out ++ [semiT] else out
def oth (b : Nat) : Prop:=¬ b = 32∧¬ b = 9∧¬ b = 35∧¬ b = 10
inductive Runs (s : ByteArray) : Nat→List Tok→List Nat→List Tok × Int→Prop where
  | done {i out op} : s.size≤i→Runs s i out op (out,-1)
  | sp {i out op R} : i < s.size→(byteAt s i = 32 ∨ byteAt s i = 9)→Runs s (i + 1) out op R→Runs s i out op R
  | com {i out op R} : i < s.size→byteAt s i = 35→Runs s (endP (pC s) s.size i) out op R→Runs s i out op R
  | nl {i out op R} : i < s.size→byteAt s i = 10→Runs s (i + 1) (nlO out op) op R→Runs s i out op R
  | bad {i out op} : i < s.size→oth (byteAt s i)→nxt s i = none→Runs s i out op ([],(i : Int))
  | tok {i out op k e R} : i < s.size→oth (byteAt s i)→nxt s i = some (k,e)→Runs s e (out ++ [k]) (opN k op) R→Runs s i out op R
theorem nxt_gt {s : ByteArray} {i e : Nat} {k : Tok} (hi : i < s.size) (hs : s.size≤1000000) (h : nxt s i = some (k,e)) : i < e∧e≤s.size∧k.text.size≤s.size:=by
  have sgn : ∀ k,k < sigL.length→1≤(sigL.getD k default).size:=fun k hk=>(sig_sz k hk).1
  unfold nxt at h
  split at h
  · rename_i h1
    split at h
    · injection h with h;injection h with h2 h3
      subst h2 h3
      have:=endP_t (p:=pD s) (n:=s.size) hi h1
      have:=endP_le (p:=pD s) (n:=s.size) (i:=i + 1) (by omega)
      exact ⟨by omega,by omega,ext_le ..⟩
    · cases h
  split at h
  · split at h
    · rename_i hc
      injection h with h;injection h with h2 h3
      subst h2 h3
      have:=endQ_ge s (i + 1)
      have:=(unqR_ok (s:=s.extract i (endQ s (i + 1) + 1)) (by have:=ext_le s i (endQ s (i + 1) + 1);omega)).2.2
      have:=ext_le s i (endQ s (i + 1) + 1)
      exact ⟨by omega,by omega,by simp only;omega⟩
    · cases h
  split at h
  · split at h
    · rename_i hc
      injection h with h;injection h with h2 h3
      subst h2 h3
      have:=endP_le (p:=pB s) (n:=s.size) (i:=i + 1) (by omega)
      exact ⟨by omega,by omega,ext_le ..⟩
    · cases h
  split at h
  · rename_i h4
    have hw : pW s i = true:=by
      unfold pW
      rcases h4 with h4 | h4
      · rw [h4];rfl
      · rw [decide_eq_true h4];simp
    have:=endP_t (p:=pW s) (n:=s.size) hi hw
    have:=endP_le (p:=pW s) (n:=s.size) (i:=i + 1) (by omega)
    split at h
    · injection h with h;injection h with h2 h3
      subst h2 h3
      exact ⟨by omega,by omega,ext_le ..⟩
    split at h
    · injection h with h;injection h with h2 h3
      subst h2 h3
      exact ⟨by omega,by omega,ext_le ..⟩
    · cases h
  split at h
  · injection h with h;injection h with h2 h3
    subst h2 h3
    exact ⟨by omega,by omega,by show 1≤s.size;omega⟩
  split at h
  · rename_i h6
    injection h with h;injection h with h2 h3
    subst h2 h3
    have h7:=sgnI_hit h6
    unfold sgnC at h7
    obtain ⟨q1,q2⟩:=of_decide_eq_true h7
    have:=sgn _ h6
    exact ⟨by omega,by omega,by simp only;omega⟩
  · cases h
theorem runs_ex {s : ByteArray} (hs : s.size≤1000000) : ∀ (m i : Nat) (out : List Tok) (op : List Nat),s.size - i≤m→∃ R,Runs s i out op R:=by
  intro m
  induction m with
  | zero=>intro i out op h;exact ⟨_,.done (by omega)⟩
  | succ m ih =>
    intro i out op h
    by_cases hi : i < s.size
    rotate_left
    · exact ⟨_,.done (by omega)⟩
    by_cases h1 : byteAt s i = 32 ∨ byteAt s i = 9
    · obtain ⟨R,hR⟩:=ih (i + 1) out op (by omega)
      exact ⟨R,.sp hi h1 hR⟩
    by_cases h2 : byteAt s i = 35
    · have:=endP_t (p:=pC s) (n:=s.size) hi (by unfold pC;rw [h2];rfl)
      have:=endP_le (p:=pC s) (n:=s.size) (i:=i + 1) (by omega)
      obtain ⟨R,hR⟩:=ih (endP (pC s) s.size i) out op (by omega)
      exact ⟨R,.com hi h2 hR⟩
    by_cases h3 : byteAt s i = 10
    · obtain ⟨R,hR⟩:=ih (i + 1) (nlO out op) op (by omega)
      exact ⟨R,.nl hi h3 hR⟩
    have ho : oth (byteAt s i):=⟨fun h=>h1 (.inl h),fun h=>h1 (.inr h),h2,h3⟩
    cases hn : nxt s i with
    | none=>exact ⟨_,.bad hi ho hn⟩
    | some r =>
      obtain ⟨k,e⟩:=r
      have:=nxt_gt hi hs hn
      obtain ⟨R,hR⟩:=ih e (out ++ [k]) (opN k op) (by omega)
      exact ⟨R,.tok hi ho hn hR⟩
theorem lastT_app (out : List Tok) (k : Tok) : lastT (out ++ [k]) = k:=by simp [lastT]
theorem opN_len (k : Tok) (op : List Nat) : (opN k op).length≤op.length + 1:=by
  unfold opN
  split
  · split
    · simp
    · split
      · rw [List.length_take];omega
      · omega
  · omega
theorem nlO_len (out : List Tok) (op : List Nat) : (nlO out op).length≤out.length + 1:=by
  unfold nlO;split
  · simp
  · omega
theorem map_tok (l : List Tok) (k : Int) (t : ByteArray) : l.map encTok ++ [[.sc (.int .i64 k),.sc (.string t)]] = (l ++ [(⟨k,t⟩ : Tok)]).map encTok:=by rw [List.map_append];rfl
theorem last_get {l : List Tok} (h : l ≠ []) : l.getD (l.length - 1) default = lastT l:=by
  obtain ⟨q,x,rfl⟩:=(List.eq_nil_or_concat l).resolve_left h
  rw [List.concat_eq_append,lastT_app,List.getD_eq_getElem?_getD,List.length_append,List.length_singleton,Nat.add_sub_cancel,List.getElem?_append_right (Nat.le_refl _),Nat.sub_self];rfl
theorem last_getN {l : List Nat} (h : l ≠ []) : l.getD (l.length - 1) default = l.getLastD 123:=by
  obtain ⟨q,x,rfl⟩:=(List.eq_nil_or_concat l).resolve_left h
  rw [List.concat_eq_append,List.getD_eq_getElem?_getD,List.length_append,List.length_singleton,Nat.add_sub_cancel,List.getElem?_append_right (Nat.le_refl _),Nat.sub_self]
  simp
end Go.Proofs.Ytkeoohonidpjeaa

