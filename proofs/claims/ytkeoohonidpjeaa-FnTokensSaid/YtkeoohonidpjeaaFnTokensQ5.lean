/- Proved: for every input the law 'FnTokens' returns true and its arguments read behind the call as before: part 5 of its proof. No condition. -/
import Derived.WalkKit
import Derived.Lib.Hide
import Derived.WalkSpells
import Derived.Laws.OwnMore
import Derived.Deep.AppendLies
import Derived.Deep.Draws
import Derived.Maps.AppendAt
import Derived.RegionTactic
import Derived.OwnWalk
import Derived.Below
import Derived.Laws.AppendOwnNone
import Derived.Deep.QuietTactic
import Derived.BigQuiet
import Derived.StillTailTactics
import Derived.Laws.Cells
import Derived.Laws.IdiomCopy
import Derived.ChangeKeysEq
import Derived.Laws.BytesArg
import Derived.Laws.StructEq
import Derived.Laws.Tables
import Derived.Great.BuildSlice
import Derived.StillTail
import Derived.OrdersHeld
import Derived.Test.YtkeoohonidpjeaaProg
import Derived.Deep.Slices
import Derived.Deep.Fields
import Derived.ChangeSame
import Derived.OpenShut
import Derived.Test.YtkeoohonidpjeaaRows
import Derived.ProofKit
import Derived.ShutString
import Derived.ChangeOld
import Derived.SizedLaws
import Derived.Test.YtkeoohonidpjeaaFnTokensQ4
set_option linter.unusedVariables false
set_option linter.unusedSimpArgs false
namespace Go.Proofs.Ytkeoohonidpjeaa
open Go.RowKit
set_option maxRecDepth 100000
theorem bytes_eq {x y : ByteArray} (h : x.size = y.size) (hb : ∀ i,i < x.size→byteAt x i = byteAt y i) : x = y:=by
  rw [← bl_all x,← bl_all y,← h]
  congr 1
  unfold bl
  exact List.map_congr_left fun i hi=>hb i (List.mem_range.1 hi)
def AtB (w : ByteArray) (p : Nat) (x : ByteArray) : Prop:=p + x.size≤w.size∧∀ i,i < x.size→byteAt w (p + i) = byteAt x i
theorem atB_ext {w x : ByteArray} {p : Nat} (h : AtB w p x) : w.extract p (p + x.size) = x:=by
  have hs : (w.extract p (p + x.size)).size = x.size:=by rw [ByteArray.size_extract];have:=h.1;omega
  refine bytes_eq hs fun i hi=>?_
  rw [hs] at hi
  rw [byteAt_ext (by omega) h.1,h.2 i hi]
theorem byteAt_app {x y : ByteArray} {i : Nat} : byteAt (x ++ y) i = if i < x.size then byteAt x i else byteAt y (i - x.size):=by
  unfold byteAt
  by_cases h : i < x.size
  · rw [if_pos h,getElem?_pos x i h,getElem?_pos (x ++ y) i (by rw [ByteArray.size_append];omega),ByteArray.getElem_append_left h]
  · rw [if_neg h]
    by_cases h2 : i - x.size < y.size
    · rw [getElem?_pos y (i - x.size) h2,getElem?_pos (x ++ y) i (by rw [ByteArray.size_append];omega),ByteArray.getElem_append_right (by omega)]
    · rw [getElem?_neg y (i - x.size) h2,getElem?_neg (x ++ y) i (by rw [ByteArray.size_append];omega)]
theorem atB_left {w x y : ByteArray} {p : Nat} (h : AtB w p (x ++ y)) : AtB w p x:=by
  have h1:=h.1
  rw [ByteArray.size_append] at h1
  refine ⟨by omega,fun i hi=>?_⟩
  rw [h.2 i (by rw [ByteArray.size_append];omega),byteAt_app,if_pos hi]
theorem atB_right {w x y : ByteArray} {p : Nat} (h : AtB w p (x ++ y)) : AtB w (p + x.size) y:=by
  have h1:=h.1
  rw [ByteArray.size_append] at h1
  refine ⟨by omega,fun i hi=>?_⟩
  have:=h.2 (x.size + i) (by rw [ByteArray.size_append];omega)
  rw [byteAt_app,if_neg (by omega),Nat.add_sub_cancel_left,← Nat.add_assoc] at this
  exact this
theorem atB_refl (x : ByteArray) : AtB x 0 x:=⟨by omega,fun i _=>by rw [Nat.zero_add]⟩
def EndB (w : ByteArray) (e : Nat) : Prop:=e = w.size ∨ (e < w.size∧byteAt w e = 32)
theorem endP_run {p : Nat→Bool} {n a : Nat} : ∀ {m : Nat},a + m≤n→(∀ i,i < m→p (a + i) = true)→(a + m = n ∨ p (a + m) = false)→endP p n a = a + m
  | 0,h,_,he=>by
    rcases he with he | he
    · exact endP_o (by omega)
    · exact endP_f he
  | m + 1,h,hp,he=>by
    rw [endP_t (by omega) (by have:=hp 0 (by omega);rwa [Nat.add_zero] at this)]
    have:=endP_run (p:=p) (n:=n) (a:=a + 1) (m:=m) (by omega) (fun i hi=>by have:=hp (i + 1) (by omega);rwa [show a + (i + 1) = a + 1 + i by omega] at this) (by rwa [show a + 1 + m = a + (m + 1) by omega])
    omega
theorem sp_D {w : ByteArray} {e : Nat} (h : byteAt w e = 32) : pD w e = false:=by unfold pD;rw [h];rfl
theorem sp_W {w : ByteArray} {e : Nat} (h : byteAt w e = 32) : pW w e = false:=by unfold pW;rw [h];rfl
theorem end_or {w : ByteArray} {e n : Nat} {p : Nat→Bool} (he : EndB w e) (hp : byteAt w e = 32→p e = false) (hn : n = w.size) : e = n ∨ p e = false:=by
  rcases he with he | he
  · exact .inl (by omega)
  · exact .inr (hp he.2)
theorem nxt_num {w x : ByteArray} {p : Nat} (h : AtB w p x) (he : EndB w (p + x.size)) (hx : prsB x = true) (h0 : 0≤prsV x) : nxt w p = some (⟨1,x⟩,p + x.size)∧oth (byteAt w p):=by
  have hne:=prs_head hx h0
  have hpos:=prs_pos hx
  have hk : pk x = 0:=by unfold pk;rw [if_neg fun hh=>hne hh.2]
  have hd : ∀ i,i < x.size→digB (byteAt x i) = true:=fun i hi=>by
    unfold prsB at hx
    simp only [Bool.and_eq_true] at hx
    have:=allB_iff.1 hx.2.1 i (by rw [hk];omega)
    unfold digT at this
    rw [hk,Nat.zero_add] at this
    exact this
  have hb:=h.2 0 hpos
  rw [Nat.add_zero] at hb
  have hd0:=hd 0 hpos
  have hend : endP (pD w) w.size p = p + x.size:=endP_run h.1 (fun i hi=>by unfold pD;rw [h.2 i hi];exact hd i hi) (end_or he sp_D rfl)
  constructor
  · unfold nxt
    rw [hb,if_pos hd0,hend,atB_ext h,if_pos hx]
  · rw [hb]
    unfold digB at hd0
    simp only [decide_eq_true_eq] at hd0
    unfold oth;omega
theorem word_run {w x : ByteArray} {p : Nat} (h : AtB w p x) (he : EndB w (p + x.size)) (hx : ∀ i,i < x.size→pW x i = true) : endP (pW w) w.size p = p + x.size :=
  endP_run h.1 (fun i hi=>by have:=hx i hi;unfold pW at this ⊢;rw [h.2 i hi];exact this) (end_or he sp_W rfl)
theorem nxt_word {w x : ByteArray} {p : Nat} (h : AtB w p x) (he : EndB w (p + x.size)) (hpos : 1≤x.size) (hx : ∀ i,i < x.size→pW x i = true) (h0 : letB (byteAt x 0) = true ∨ byteAt x 0 = 46) :
    oth (byteAt w p)∧nxt w p = if resB x = true then some (⟨4,x⟩,p + x.size) else if synB x = true then some (⟨3,x⟩,p + x.size) else none:=by
  have hb:=h.2 0 hpos
  rw [Nat.add_zero] at hb
  have hend:=word_run h he hx
  have hl : ¬ digB (byteAt x 0) = true∧¬ byteAt x 0 = 34∧¬ byteAt x 0 = 96∧oth (byteAt x 0):=by
    rcases h0 with h0 | h0
    · unfold letB at h0
      simp only [Bool.or_eq_true,decide_eq_true_eq] at h0
      refine ⟨?_,by omega,by omega,?_⟩
      · unfold digB;simp only [decide_eq_true_eq];omega
      · unfold oth;omega
    · rw [h0];refine ⟨by decide,by decide,by decide,?_⟩;unfold oth;omega
  constructor
  · rw [hb];exact hl.2.2.2
  · unfold nxt
    rw [hb,if_neg hl.1,if_neg hl.2.1,if_neg hl.2.2.1,if_pos h0,hend,atB_ext h]
theorem res_all : ∀ k,k < resL.length→1≤(resL.getD k default).size∧(letB (byteAt (resL.getD k default) 0) = true ∨ byteAt (resL.getD k default) 0 = 46)∧∀ i,i < (resL.getD k default).size→pW (resL.getD k default) i = true:=by decide
theorem nxt_res {w x : ByteArray} {p : Nat} (h : AtB w p x) (he : EndB w (p + x.size)) (hx : resB x = true) : nxt w p = some (⟨4,x⟩,p + x.size)∧oth (byteAt w p):=by
  obtain ⟨k,hk,e⟩:=List.mem_iff_getElem.1 ((hasB_iff _ _).1 hx)
  have e : resL.getD k default = x:=by rw [List.getD_eq_getElem?_getD,List.getElem?_eq_getElem hk];exact e
  obtain ⟨h1,h2,h3⟩:=res_all k hk
  rw [e] at h1 h2 h3
  obtain ⟨h4,h5⟩:=nxt_word h he h1 h3 h2
  rw [if_pos hx] at h5
  exact ⟨h5,h4⟩
theorem nxt_syn {w x : ByteArray} {p : Nat} (h : AtB w p x) (he : EndB w (p + x.size)) (hx : synB x = true) : nxt w p = some (⟨3,x⟩,p + x.size)∧oth (byteAt w p):=by
  have hx0:=hx
  unfold synB at hx
  simp only [Bool.and_eq_true,Bool.not_eq_true'] at hx
  obtain ⟨h1,h2,h3,-⟩:=hx
  have h4:=(nameB_size h1).1
  have hc:=fun i hi=>allB_iff.1 h3 i hi
  have h0 : letB (byteAt x 0) = true ∨ byteAt x 0 = 46:=by
    have:=hc 0 h4
    unfold synC at this
    simpa using this
  obtain ⟨h5,h6⟩:=nxt_word h he h4 (fun i hi=>by
    have:=hc i hi
    unfold synC at this
    unfold pW
    simp only [Bool.or_eq_true,Bool.and_eq_true,decide_eq_true_eq] at this ⊢
    grind) h0
  rw [if_neg (by rw [h2];decide),if_pos hx0] at h6
  exact ⟨h6,h5⟩
theorem nxt_tick {w x : ByteArray} {p : Nat} (h : AtB w p (⟨#[96]⟩ ++ x ++ ⟨#[96]⟩)) (hx : nameB x = true) : nxt w p = some (⟨3,x⟩,p + (⟨#[96]⟩ ++ x ++ ⟨#[96]⟩ : ByteArray).size)∧oth (byteAt w p):=by
  have hs : (⟨#[96]⟩ ++ x ++ ⟨#[96]⟩ : ByteArray).size = x.size + 2:=by rw [ByteArray.size_append,ByteArray.size_append];show 1 + x.size + 1 = _;omega
  have h96 : (⟨#[96]⟩ : ByteArray).size = 1:=rfl
  have hl:=atB_left h
  have hr:=atB_right h
  have hm:=atB_right hl
  have hf:=atB_left hl
  have hls : (⟨#[96]⟩ ++ x : ByteArray).size = 1 + x.size:=by rw [ByteArray.size_append];rfl
  rw [hls] at hr
  rw [h96] at hm
  have b0:=hf.2 0 (by decide)
  have b1:=hr.2 0 (by decide)
  rw [Nat.add_zero] at b0 b1
  have hb96 : byteAt (⟨#[96]⟩ : ByteArray) 0 = 96:=by decide
  rw [hb96] at b0 b1
  have hn : ∀ i,i < x.size→byteAt x i ≠ 96:=fun i hi=>by
    unfold nameB at hx
    simp only [Bool.and_eq_true] at hx
    have:=allB_iff.1 hx.1 i hi
    unfold nameC at this
    simp only [Bool.and_eq_true,Bool.not_eq_true',decide_eq_false_iff_not] at this
    exact this.2.2
  have hend : endP (pB w) w.size (p + 1) = p + 1 + x.size:=endP_run hm.1 (fun i hi=>by unfold pB;rw [hm.2 i hi];simpa using hn i hi) (.inr (by unfold pB;rw [show p + 1 + x.size = p + (1 + x.size) by omega,b1];rfl))
  have hlt : p + 1 + x.size < w.size:=by have:=hr.1;rw [h96] at this;omega
  constructor
  · unfold nxt
    rw [b0,if_neg (by decide),if_neg (by decide),if_pos rfl,hend,atB_ext hm,if_pos ⟨hlt,hx⟩,hs]
    congr 2;omega
  · rw [b0];unfold oth;omega
theorem qc_cases (b : Nat) : (∃ c d,qc b = 92 :: c :: d∧∀ x ∈ d,x ≠ 92∧x ≠ 34) ∨ (qc b = [b]∧b ≠ 92∧b ≠ 34):=by
  unfold qc
  split
  · exact .inl ⟨_,[],rfl,by simp⟩
  split
  · exact .inl ⟨_,[],rfl,by simp⟩
  split
  · refine .inl ⟨_,_,rfl,?_⟩
    have hx : ∀ k,byteAt hexS k ≠ 92∧byteAt hexS k ≠ 34:=fun k=>by
      by_cases hk : k < 16
      · have : ∀ k,k < 16→byteAt hexS k ≠ 92∧byteAt hexS k ≠ 34:=by decide
        exact this k hk
      · unfold byteAt
        rw [getElem?_neg hexS k (by show ¬ k < 16;exact hk)]
        decide
    intro x hx2
    simp only [List.mem_cons,List.not_mem_nil,or_false] at hx2
    rcases hx2 with rfl | rfl
    · exact hx _
    · exact hx _
  · rename_i h1 h2 h3
    exact .inr ⟨rfl,by omega,by omega⟩
theorem endQ_run {w : ByteArray} {a : Nat} : ∀ {m : Nat},a + m < w.size→(∀ i,i < m→byteAt w (a + i) ≠ 92∧byteAt w (a + i) ≠ 34)→endQ w a = endQ w (a + m)
  | 0,_,_=>rfl
  | m + 1,h,hp=>by
    have h0:=hp 0 (by omega)
    rw [Nat.add_zero] at h0
    rw [endQ_n (by omega) h0.1 h0.2,endQ_run (a:=a + 1) (m:=m) (by omega) (fun i hi=>by have:=hp (i + 1) (by omega);rwa [show a + (i + 1) = a + 1 + i by omega] at this)]
    congr 1;omega
theorem quote_end {w t : ByteArray} {p : Nat} (h : AtB w p (quoteB t)) : ∀ {j : Nat},j≤t.size→endQ w (p + 1) = endQ w (p + (qP t j).length)
  | 0,_=>rfl
  | j + 1,hj=>by
    rw [quote_end h (j:=j) (by omega)]
    have hs:=quoteB_len t
    have hm:=qP_mono t hj
    have hst:=qP_step t j
    have h1:=h.1
    have hb:=fun m (hm : m < (qc (byteAt t j)).length)=>(h.2 ((qP t j).length + m) (by omega)).trans (qat (by omega) hm)
    rcases qc_cases (byteAt t j) with ⟨c,d,e,hd⟩ | ⟨e,e1,e2⟩
    · rw [e] at hst hb
      simp only [List.length_cons] at hst hb
      have b0:=hb 0 (by omega)
      rw [Nat.add_zero] at b0
      rw [endQ_b (by omega) b0,endQ_run (a:=p + (qP t j).length + 2) (m:=d.length) (by omega) (fun i hi=>by
        have:=hb (i + 2) (by omega)
        rw [show p + ((qP t j).length + (i + 2)) = p + (qP t j).length + 2 + i by omega] at this
        rw [this]
        have hdi : (92 :: c :: d).getD (i + 2) 0 = d[i]:=by rw [List.getD_eq_getElem?_getD];simp [hi]
        rw [hdi]
        exact hd _ (List.getElem_mem hi))]
      congr 1;omega
    · rw [e] at hst hb
      simp only [List.length_cons,List.length_nil] at hst hb
      have b0:=hb 0 (by omega)
      rw [Nat.add_zero] at b0
      have b0 : byteAt w (p + (qP t j).length) = byteAt t j:=b0
      rw [endQ_n (by omega) (by rw [b0];exact e1) (by rw [b0];exact e2)]
      congr 1;omega
theorem nxt_str {w t : ByteArray} {p : Nat} (h : AtB w p (quoteB t)) (ht : t.size≤60) (hu : unqR (quoteB t) = (t,true)) : nxt w p = some (⟨2,t⟩,p + (quoteB t).size)∧oth (byteAt w p):=by
  have hs:=quoteB_len t
  have b0:=h.2 0 (by omega)
  rw [Nat.add_zero,qfirst] at b0
  have bl:=h.2 (qP t t.size).length (by omega)
  rw [qlast] at bl
  have h1:=h.1
  have he:=quote_end h (Nat.le_refl t.size)
  rw [endQ_q (by omega) bl] at he
  have hx : w.extract p (p + (qP t t.size).length + 1) = quoteB t:=by
    have:=atB_ext h
    rwa [hs,← Nat.add_assoc] at this
  constructor
  · unfold nxt
    rw [b0,if_neg (by decide),if_pos rfl,he,hx,hu,if_pos ⟨by omega,rfl,ht⟩,hs]
    rfl
  · rw [b0];unfold oth;omega
theorem sig_blank : ∀ k,k < sigL.length→∀ i,i < (sigL.getD k default).size→byteAt (sigL.getD k default) i ≠ 32:=by decide
theorem sig_first : ∀ q,q < sigL.length→∀ k,k < q→¬ ((sigL.getD k default).size≤(sigL.getD q default).size∧∀ i,i < (sigL.getD k default).size→byteAt (sigL.getD k default) i = byteAt (sigL.getD q default) i):=by decide
theorem nxt_sig {w x : ByteArray} {p : Nat} (h : AtB w p x) (he : EndB w (p + x.size)) (hx : hasB sigL x = true) : nxt w p = some (⟨5,x⟩,p + x.size)∧oth (byteAt w p):=by
  obtain ⟨q,hq,e⟩:=List.mem_iff_getElem.1 ((hasB_iff _ _).1 hx)
  have e : sigL.getD q default = x:=by rw [List.getD_eq_getElem?_getD,List.getElem?_eq_getElem hq];exact e
  have hsz:=sig_sz q hq
  have hhd:=sig_head q hq
  have hfi:=sig_first q hq
  rw [e] at hsz hhd hfi
  have hb:=h.2 0 (by omega)
  rw [Nat.add_zero] at hb
  have hT : sgnC w p x = true:=by unfold sgnC;rw [decide_eq_true ⟨h.1,atB_ext h⟩]
  have hF : ∀ k,k < q→sgnC w p (sigL.getD k default) = false:=fun k hk=>by
    rw [Bool.eq_false_iff]
    intro hc
    unfold sgnC at hc
    rw [decide_eq_true_eq] at hc
    have hbk : ∀ i,i < (sigL.getD k default).size→byteAt (sigL.getD k default) i = byteAt w (p + i):=fun i hi=>by
      conv=>lhs;rw [← hc.2]
      exact byteAt_ext (by omega) hc.1
    by_cases hle : (sigL.getD k default).size≤x.size
    · exact hfi k hk ⟨hle,fun i hi=>(hbk i hi).trans (h.2 i (by omega))⟩
    · rcases he with he | he
      · have:=hc.1;omega
      · exact sig_blank k (by omega) x.size (by omega) ((hbk _ (by omega)).trans he.2)
  have hI : sgnI w p = q:=by
    have h1 : ¬ sgnI w p < q:=fun hlt=>by
      have:=sgnI_hit (s:=w) (i:=p) (by omega)
      rw [hF _ hlt] at this;cases this
    have h2 : ¬ q < sgnI w p:=fun hlt=>by
      have:=sgnI_miss hlt
      rw [e,hT] at this;cases this
    omega
  have hfst : ∀ b ∈ headL,¬ digB (b : Nat) = true∧¬ b = 34∧¬ b = 96∧¬ (letB (b : Nat) = true ∨ b = 46)∧¬ b = 59∧¬ b = 32∧¬ b = 9∧¬ b = 35∧¬ b = 10:=by decide
  obtain ⟨g1,g2,g3,g4,g5,g6⟩:=hfst _ hhd
  constructor
  · unfold nxt
    rw [hb,if_neg g1,if_neg g2,if_neg g3,if_neg g4,if_neg g5,hI,if_pos hq,e]
  · rw [hb];exact g6
theorem nxt_tok {w : ByteArray} {p : Nat} {k : Tok} (hk : tokB k = true) (hu : k.kind = 2→unqR (quoteB k.text) = (k.text,true)) (h : AtB w p (tokT k)) (he : EndB w (p + (tokT k).size)) : nxt w p = some (k,p + (tokT k).size)∧oth (byteAt w p):=by
  obtain ⟨kd,x⟩:=k
  unfold tokB at hk
  simp only at hk hu
  split at hk
  · rename_i e;subst e
    rw [Bool.and_eq_true] at hk
    have h2:=hk.2
    rw [if_pos hk.1,decide_eq_true_eq] at h2
    have ht : tokT ⟨1,x⟩ = x:=rfl
    rw [ht] at h he ⊢
    exact nxt_num h he hk.1 h2
  split at hk
  · rename_i e;subst e
    have ht : tokT ⟨2,x⟩ = quoteB x:=rfl
    rw [ht] at h he ⊢
    exact nxt_str h (by simpa using hk) (hu rfl)
  split at hk
  · rename_i e;subst e
    have ht : tokT ⟨3,x⟩ = fmtName x:=rfl
    rw [ht] at h he ⊢
    unfold fmtName at h he ⊢
    rw [if_pos hk] at h he ⊢
    by_cases hs : synB x = true
    · rw [if_pos hs] at h he ⊢
      exact nxt_syn h he hs
    · rw [if_neg hs] at h he ⊢
      exact nxt_tick h hk
  split at hk
  · rename_i e;subst e
    have ht : tokT ⟨4,x⟩ = x:=rfl
    rw [ht] at h he ⊢
    exact nxt_res h he hk
  split at hk
  · rename_i e;subst e
    have ht : tokT ⟨5,x⟩ = x:=rfl
    rw [ht] at h he ⊢
    exact nxt_sig h he hk
  split at hk
  · rename_i e;subst e
    have hk : x = ⟨#[59]⟩:=by simpa using hk
    subst hk
    have ht : tokT ⟨6,⟨#[59]⟩⟩ = ⟨#[59]⟩:=rfl
    rw [ht] at h he ⊢
    have hb:=h.2 0 (by decide)
    rw [Nat.add_zero] at hb
    have hb : byteAt w p = 59:=hb.trans (by decide)
    constructor
    · unfold nxt
      rw [hb,if_neg (by decide),if_neg (by decide),if_neg (by decide),if_neg (by decide),if_pos rfl]
      rfl
    · rw [hb];unfold oth;omega
  · cases hk
theorem app_nil (x : ByteArray) : x ++ (⟨#[]⟩ : ByteArray) = x:=by
  have h0 : (⟨#[]⟩ : ByteArray).size = 0:=rfl
  refine bytes_eq (by rw [ByteArray.size_append,h0];rfl) fun i hi=>?_
  rw [ByteArray.size_append,h0] at hi
  rw [byteAt_app,if_pos (by omega)]
theorem joinP_get {l : List ByteArray} {sep : ByteArray} : ∀ {n i : Nat},i < n→∃ z,joinP l sep n = (if i = 0 then joinP l sep i else joinP l sep i ++ sep) ++ l.getD i default ++ (if i + 1 = n then ⟨#[]⟩ else sep ++ z)
  | n + 1,i,h=>by
    by_cases e : i = n
    · subst e
      refine ⟨⟨#[]⟩,?_⟩
      rw [if_pos rfl,joinP,app_nil]
    · obtain ⟨z,hz⟩:=joinP_get (l:=l) (sep:=sep) (show i < n by omega)
      rw [joinP,if_neg (show ¬ n = 0 by omega),hz]
      by_cases e2 : i + 1 = n
      · rw [if_pos e2]
        refine ⟨l.getD n default,?_⟩
        rw [if_neg (show ¬ i + 1 = n + 1 by omega),app_nil,ByteArray.append_assoc]
      · rw [if_neg e2]
        refine ⟨z ++ sep ++ l.getD n default,?_⟩
        rw [if_neg (show ¬ i + 1 = n + 1 by omega)]
        simp only [ByteArray.append_assoc]
theorem runs_again {l : List Tok} {w : ByteArray} (hw : w = joinB (l.map tokT) ⟨#[32]⟩) (hv : ∀ k ∈ l,tokB k = true) (hu : ∀ k ∈ l,k.kind = 2→unqR (quoteB k.text) = (k.text,true)) :
    ∀ (m i : Nat) (op : List Nat),i + m = l.length→Runs w (joinP (l.map tokT) ⟨#[32]⟩ i).size (l.take i) op (l,-1)
  | 0,i,op,h=>by
    obtain rfl : i = l.length:=by omega
    rw [List.take_length]
    refine .done ?_
    rw [hw];unfold joinB;rw [List.length_map];omega
  | m + 1,i,op,h=>by
    have hi : i < l.length:=by omega
    obtain ⟨z,hz⟩:=joinP_get (l:=l.map tokT) (sep:=⟨#[32]⟩) (n:=l.length) hi
    have hW : w = joinP (l.map tokT) ⟨#[32]⟩ l.length:=by rw [hw];unfold joinB;rw [List.length_map]
    rw [← hW,mapT_get hi] at hz
    have hsz:=congrArg ByteArray.size hz
    have hk:=hv _ (getD_mem hi)
    have hku:=hu _ (getD_mem hi)
    have hst : joinP (l.map tokT) ⟨#[32]⟩ (i + 1) = (if i = 0 then joinP (l.map tokT) ⟨#[32]⟩ i else joinP (l.map tokT) ⟨#[32]⟩ i ++ ⟨#[32]⟩) ++ tokT (l.getD i default):=by rw [joinP,mapT_get hi]
    have htake : l.take (i + 1) = l.take i ++ [l.getD i default]:=by rw [List.take_succ_eq_append_getElem hi,List.getD_eq_getElem?_getD,List.getElem?_eq_getElem hi];rfl
    have hrest:=fun op=>runs_again hw hv hu m (i + 1) op (by omega)
    rw [hst,htake] at hrest
    have h32 : (⟨#[32]⟩ : ByteArray).size = 1:=rfl
    have h32b : byteAt (⟨#[32]⟩ : ByteArray) 0 = 32:=by decide
    generalize hQ : (if i = 0 then joinP (l.map tokT) ⟨#[32]⟩ i else joinP (l.map tokT) ⟨#[32]⟩ i ++ ⟨#[32]⟩) = Q at *
    have hAt:=atB_refl w
    rw [hz] at hAt
    rw [← hz] at hAt
    have hAll : AtB w 0 (Q ++ tokT (l.getD i default) ++ if i + 1 = l.length then ⟨#[]⟩ else ⟨#[32]⟩ ++ z):=by rw [← hz];exact atB_refl w
    have hL:=atB_left hAll
    have hR:=atB_right hAll
    have hT:=atB_right hL
    have hQa:=atB_left hL
    rw [Nat.zero_add] at hR hT
    rw [ByteArray.size_append] at hR
    have hE : EndB w (Q.size + (tokT (l.getD i default)).size):=by
      by_cases e : i + 1 = l.length
      · left
        rw [if_pos e,ByteArray.size_append,ByteArray.size_append] at hsz
        have : (⟨#[]⟩ : ByteArray).size = 0:=rfl
        omega
      · right
        rw [if_neg e] at hR
        have h1:=(atB_left hR).1
        have h2:=(atB_left hR).2 0 (by decide)
        rw [h32] at h1
        rw [Nat.add_zero,h32b] at h2
        exact ⟨by omega,h2⟩
    obtain ⟨n1,n2⟩:=nxt_tok hk hku hT hE
    have hlt : Q.size < w.size:=by
      have h1:=hT.1
      have h2 : 1≤(tokT (l.getD i default)).size:=by
        rcases Nat.eq_zero_or_pos (tokT (l.getD i default)).size with e | e
        · exfalso
          rw [e,Nat.add_zero] at n1 hE
          rcases hE with hE | hE
          · unfold nxt at n1
            have hb0 : byteAt w Q.size = 0:=by unfold byteAt;rw [getElem?_neg w Q.size (by omega)];rfl
            rw [hb0,if_neg (by decide),if_neg (by decide),if_neg (by decide),if_neg (by decide),if_neg (by decide),sgn_none (by rw [hb0];decide),if_neg (by omega)] at n1
            cases n1
          · exact n2.1 hE.2
        · exact e
      omega
    have hmain : Runs w Q.size (l.take i) op (l,-1):=.tok hlt n2 n1 (by
      have:=hrest (opN (l.getD i default) op)
      rwa [ByteArray.size_append] at this)
    by_cases e : i = 0
    · rw [if_pos e] at hQ
      rw [hQ];exact hmain
    · rw [if_neg e] at hQ
      rw [← hQ] at hQa hmain hlt
      have hb:=(atB_right hQa).2 0 (by decide)
      rw [Nat.zero_add,Nat.add_zero,h32b] at hb
      rw [ByteArray.size_append,h32] at hmain hlt
      exact .sp (by omega) (.inl hb) hmain
theorem nxt_ok {s : ByteArray} {i e : Nat} {k : Tok} (h : nxt s i = some (k,e)) (hs : s.size≤1000000) : tokB k = true:=by
  unfold nxt at h
  split at h
  · rename_i hd
    split at h
    · rename_i hp
      injection h with h;injection h with h1 h2;subst h1
      show (prsB _ && _) = true
      rw [hp,Bool.true_and,if_pos rfl,decide_eq_true_eq]
      have hpos:=prs_pos hp
      generalize hx : s.extract i (endP (pD s) s.size i) = x at *
      have hk : pk x = 0:=by
        unfold pk
        refine if_neg fun hh=>?_
        have hsz : x.size = min (endP (pD s) s.size i) s.size - i:=by rw [← hx,ByteArray.size_extract]
        have hb : byteAt x 0 = byteAt s i:=by
          rw [← hx]
          by_cases hle : endP (pD s) s.size i≤s.size
          · rw [byteAt_ext (by omega) hle,Nat.add_zero]
          · have h1 : ¬ i≤s.size:=fun hi=>hle (endP_le hi).2
            omega
        rw [← hb,hh.2] at hd
        exact absurd hd (by decide)
      unfold prsV
      rw [hk,if_neg (by decide)]
      exact Int.natCast_nonneg _
    · cases h
  split at h
  · split at h
    · rename_i hc
      injection h with h;injection h with h1 h2;subst h1
      show decide _ = true
      rw [decide_eq_true_eq]
      exact hc.2.2
    · cases h
  split at h
  · split at h
    · rename_i hc
      injection h with h;injection h with h1 h2;subst h1
      exact hc.2
    · cases h
  split at h
  · split at h
    · rename_i hc
      injection h with h;injection h with h1 h2;subst h1
      exact hc
    · split at h
      · rename_i hc
        injection h with h;injection h with h1 h2;subst h1
        exact synB_name hc
      · cases h
  split at h
  · injection h with h;injection h with h1 h2;subst h1
    rfl
  · split at h
    · rename_i hc
      injection h with h;injection h with h1 h2;subst h1
      show hasB sigL _ = true
      exact (hasB_iff _ _).2 (getD_mem hc)
    · cases h
theorem runs_ok {s : ByteArray} (hs : s.size≤1000000) {i : Nat} {out : List Tok} {op : List Nat} {R : List Tok × Int} (h : Runs s i out op R) : (∀ k ∈ out,tokB k = true)→∀ k ∈ R.1,tokB k = true:=by
  induction h with
  | done=>exact id
  | sp _ _ _ ih=>exact ih
  | com _ _ _ ih=>exact ih
  | @nl i out op R _ _ _ ih =>
    intro ho
    refine ih fun k hk=>?_
    unfold nlO at hk
    split at hk
    · rcases List.mem_append.1 hk with hk | hk
      · exact ho k hk
      · rw [List.mem_singleton.1 hk];decide
    · exact ho k hk
  | bad=>intro _ k hk;cases hk
  | tok _ _ h3 _ ih =>
    intro ho
    refine ih fun k hk=>?_
    rcases List.mem_append.1 hk with hk | hk
    · exact ho k hk
    · rw [List.mem_singleton.1 hk];exact nxt_ok h3 hs
def u_impl_TokensOf_h : List Hint:=[⟨1000029,1,⟨[(99,.p false [.d 38]),(89,.p false [.d 35]),(88,.p false [.d 25]),(86,.p false [.d 32]),(82,.p false [.d 30]),(9,.p false [.d 26]),(8,.p false [.ptr 3 3 0]),(39,.p false [.d 23]),(25,.p false [.d 21]),(20,.p false [.d 19]),(19,.p false [.d 15]),(16,.p false [.d 14]),(4,.p false [.own 2 2]),(2,.p false [.own 1 1]),(5,.p false [.own 0 0]),(6,.p false [.d 9]),(12,.p false [.d 4]),(3,.p false [.d 1]),(0,.p false [.d 0])],[(0,.row 0 5 1 10),(1,.row 1 5 1 11),(2,.row 2 29 2 12),(3,.var 3 29 [.d 24,.d 25])],4,4,39,[(35,false),(32,true),(30,false),(23,false),(21,false),(19,false),(17,false),(14,true),(4,false)]⟩,[]⟩,⟨1000023,1,⟨[(5,.p false [.own 0 3]),(86,.p false [.d 32]),(82,.p false [.d 30]),(9,.p false [.d 26]),(8,.p false [.ptr 3 2 0]),(39,.p false [.d 23]),(25,.p false [.d 21]),(20,.p false [.d 19]),(19,.p false [.d 15]),(16,.p false [.d 14]),(4,.p false [.own 2 1]),(2,.p false [.own 1 0]),(6,.p false [.d 9]),(12,.p false [.d 4]),(3,.p false [.d 1]),(0,.p false [.d 0])],[(1,.row 0 5 1 11),(2,.row 1 29 2 12),(3,.var 2 29 [.d 24,.d 25]),(0,.row 3 5 1 33)],4,4,34,[(30,false),(23,false),(21,false),(19,false),(17,false),(14,true),(4,false)]⟩,[⟨true,5,1,0,0⟩]⟩,⟨1000025,1,⟨[(89,.p false [.d 35]),(88,.p false [.d 25]),(86,.p false [.d 32]),(82,.p false [.d 30]),(9,.p false [.d 26]),(8,.p false [.ptr 3 3 0]),(39,.p false [.d 23]),(25,.p false [.d 21]),(20,.p false [.d 19]),(19,.p false [.d 15]),(16,.p false [.d 14]),(4,.p false [.own 2 2]),(2,.p false [.own 1 1]),(5,.p false [.own 0 0]),(6,.p false [.d 9]),(12,.p false [.d 4]),(3,.p false [.d 1]),(0,.p false [.d 0])],[(0,.row 0 5 1 10),(1,.row 1 5 1 11),(2,.row 2 29 2 12),(3,.var 3 29 [.d 24,.d 25])],4,4,36,[(32,true),(30,false),(23,false),(21,false),(19,false),(17,false),(14,true),(4,false)]⟩,[]⟩,⟨15,1,⟨[(7,.p false [.d 24]),(39,.p false [.d 23]),(25,.p false [.d 21]),(20,.p false [.d 19]),(19,.p false [.d 15]),(16,.p false [.d 14]),(4,.p false [.own 2 2]),(2,.p false [.own 1 1]),(5,.p false [.own 0 0]),(6,.p false [.d 9]),(12,.p false [.d 4]),(3,.p false [.d 1]),(0,.p false [.d 0])],[(0,.row 0 5 1 10),(1,.row 1 5 1 11),(2,.row 2 29 2 12)],3,3,25,[(23,true),(21,false),(19,false),(17,false),(14,true),(4,false)]⟩,[]⟩,⟨3000012,1,⟨[(25,.p false [.d 21]),(20,.p false [.d 19]),(19,.p false [.d 15]),(16,.p false [.d 14]),(4,.p false [.own 2 2]),(2,.p false [.own 1 1]),(5,.p false [.own 0 0]),(6,.p false [.d 22]),(12,.p false [.d 4]),(3,.p false [.d 1]),(0,.p false [.d 0])],[(0,.row 0 5 1 10),(1,.row 1 5 1 11),(2,.row 2 29 2 12)],3,3,23,[(21,true),(19,false),(17,false),(14,true),(4,false)]⟩,[⟨true,5,0,5,1⟩,⟨true,2,0,5,1⟩,⟨true,4,0,29,2⟩]⟩,⟨2000001,5,⟨[(6,.p false [.d 15]),(20,.p false [.d 16]),(19,.p false [.d 17]),(16,.p false [.d 14]),(4,.p false [.own 2 2]),(2,.p false [.own 1 1]),(5,.p false [.own 0 0]),(12,.p false [.d 4]),(3,.p false [.d 1]),(0,.p false [.d 0])],[(0,.row 0 5 1 18),(1,.row 1 5 1 11),(2,.row 2 29 2 19)],3,3,20,[(14,true),(4,false)]⟩,[⟨true,2,0,5,1⟩,⟨true,4,0,29,2⟩]⟩,⟨3000006,4,⟨[(4,.p false [.own 2 2]),(2,.p false [.own 1 1]),(5,.p false [.own 0 0]),(6,.p false [.d 9]),(12,.p false [.d 4]),(3,.p false [.d 1]),(0,.p false [.d 0])],[(0,.row 0 5 1 10),(1,.row 1 5 1 11),(2,.row 2 29 2 12)],3,3,13,[(4,false)]⟩,[⟨true,5,0,5,1⟩,⟨true,2,0,5,1⟩,⟨true,4,0,29,2⟩]⟩]
def u_impl_TokensOf_d : List (Nat × Nat × Bool × List Nat):=[]
def u_impl_TokensOf_l0 : UP:=.po (.lenS 6) <| .po (.bin .lss false 1 0) <| .ite 0 (.po (.chr 8 2) <| .po (.k (.int .u8 10)) <| .po (.bin .neq false 1 0) <| .ite 0 (.po (.k (.int .i64 1)) <| .po (.bin .add false 6 0) <| .jump 2 [0]) <| .jump 1 [5,6,7,9,8]) <| .po (.k (.bool false)) <| .jump 1 [3,4,5,7,6]
def u_impl_TokensOf_j1 : UP:=.po (.un .not 0) <| .ite 0 (.po (.lenL 4) <| .po (.k (.int .i64 0)) <| .po (.bin .gtr false 1 0) <| .ite 0 (.po (.lenL 7) <| .po (.k (.int .i64 1)) <| .po (.bin .sub false 1 0) <| .po (.isI 0) <| .po (.chk 2 10 0) <| .po (.idx 2 10 0) <| .sel [0,1,10,11,12,13,14] <| .cl 15 [(true,[1,0])] [(false,[none],true)] <| .ite 0 (.po (.k (.int .i64 0)) <| .po (.k (.string ⟨#[]⟩)) <| .po (.k (.int .i64 6)) <| .po (.k (.string ⟨#[59]⟩)) <| .po (.sc 1) <| .po (.sc 0) <| .po (.mk 29 2 [[1,0]]) <| .po (.flat 0) <| .po (.app 29 2 24 10 0) <| .po (.k (.int .i64 1)) <| .po (.bin .add false 14 0) <| .jump 1 [0,11,12,14,2]) <| .po (.k (.int .i64 1)) <| .po (.bin .add false 8 0) <| .jump 1 [0,5,6,8,7]) <| .po (.k (.bool false)) <| .po (.k (.int .i64 1)) <| .po (.bin .add false 11 0) <| .jump 1 [0,8,9,11,10]) <| .po (.k (.bool false)) <| .po (.k (.bool false)) <| .po (.k (.int .i64 1)) <| .po (.bin .add false 9 0) <| .jump 1 [0,6,7,9,8]
def u_impl_TokensOf_j2 : UP:=.ite 0 (.po (.lenL 6) <| .po (.k (.int .i64 0)) <| .po (.bin .gtr false 1 0) <| .ite 0 (.po (.lenL 9) <| .po (.k (.int .i64 1)) <| .po (.bin .sub false 1 0) <| .po (.cutI 12 none (some 0)) <| .po (.cutP 14 1 0) <| .jump 2 [0]) <| .jump 2 [9]) <| .jump 2 [6]
def u_impl_TokensOf_j3 : UP:=.ite 0 (.po (.k (.int .i64 0)) <| .po (.chr 3 0) <| .po (.sc 0) <| .po (.mk 5 1 [[0]]) <| .po (.flat 0) <| .po (.app 5 1 1 6 0) <| .jump 2 [0]) <| .po (.k (.string ⟨#[41]⟩)) <| .po (.bin .eql false 3 0) <| .join 1 u_impl_TokensOf_j2 <| .ite 0 (.jump 3 [0]) <| .po (.k (.string ⟨#[93]⟩)) <| .po (.bin .eql false 5 0) <| .ite 0 (.jump 3 [0]) <| .po (.k (.string ⟨#[125]⟩)) <| .po (.bin .eql false 7 0) <| .jump 3 [0]
def u_impl_TokensOf_j4 : UP:=.po (.sc 4) <| .po (.sc 3) <| .po (.mk 29 2 [[4,3]]) <| .po (.flat 0) <| .po (.app 29 2 24 8 0) <| .jump 1 [4,7,8,2,0]
def u_impl_TokensOf_j5 : UP:=.jump 0 [4,1,6,0]
def u_impl_TokensOf_l6 : UP:=.po (.lenS 8) <| .po (.bin .lss false 4 0) <| .ite 0 (.sel [2,3,4,5,10] <| .join 5 u_impl_TokensOf_j5 <| .po (.chr 4 3) <| .po (.k (.int .u8 32)) <| .po (.bin .eql false 1 0) <| .ite 0 (.po (.k (.int .i64 1)) <| .po (.bin .add false 7 0) <| .jump 1 [0,2,4,7,5]) <| .po (.k (.int .u8 9)) <| .po (.bin .eql false 3 0) <| .ite 0 (.po (.k (.int .i64 1)) <| .po (.bin .add false 9 0) <| .jump 1 [0,2,6,9,7]) <| .po (.k (.int .u8 35)) <| .po (.bin .eql false 5 0) <| .ite 0 (.sel [2,6,7,9,10,11] <| .loop [4] u_impl_TokensOf_l0) <| .po (.k (.int .u8 10)) <| .po (.bin .eql false 7 0) <| .ite 0 (.sel [4,8,9,11,12] <| .join 1 u_impl_TokensOf_j1 <| .po (.lenL 3) <| .po (.k (.int .i64 0)) <| .po (.bin .gtr false 1 0) <| .ite 0 (.po (.lenL 6) <| .po (.k (.int .i64 1)) <| .po (.bin .sub false 1 0) <| .po (.isI 0) <| .po (.chk 1 9 0) <| .po (.idx 1 9 0) <| .po (.k (.int .u8 123)) <| .po (.bin .neq false 1 0) <| .jump 2 [0]) <| .po (.k (.bool false)) <| .jump 2 [0]) <| .sel [4,8,9,11,12,13] <| .cl 16 [(false,[5]),(false,[4])] [(true,[none,none],true),(false,[none],true)] <| .po (.k (.int .i64 0)) <| .po (.k (.string ⟨#[]⟩)) <| .po (.k (.int .i64 0)) <| .po (.bin .lss false 3 0) <| .ite 0 (.po (.e 29 2) <| .po (.sc 12) <| .ret [(false,[0]),(false,[12])]) <| .po (.k (.int .i64 5)) <| .po (.bin .eql false 7 0) <| .sel [0,6,7,8,9,10,11,12] <| .join 1 u_impl_TokensOf_j4 <| .ite 0 (.po (.k (.string ⟨#[40]⟩)) <| .po (.bin .eql false 3 0) <| .sel [0,4,9] <| .join 1 u_impl_TokensOf_j3 <| .ite 0 (.jump 3 [0]) <| .po (.k (.string ⟨#[91]⟩)) <| .po (.bin .eql false 2 0) <| .ite 0 (.jump 3 [0]) <| .po (.k (.string ⟨#[123]⟩)) <| .po (.bin .eql false 4 0) <| .jump 3 [0]) <| .jump 2 [7]) <| .po (.k (.int .i64 (-1))) <| .po (.sc 0) <| .ret [(false,[3]),(false,[0])]
def u_impl_TokensOf_u : UP:=.po (.k (.int .i64 0)) <| .po (.lenS 1) <| .po (.k (.int .i64 600)) <| .po (.bin .gtr false 1 0) <| .ite 0 (.po (.k (.int .i64 600)) <| .po (.e 29 2) <| .po (.sc 1) <| .ret [(false,[0]),(false,[1])]) <| .po (.k (.int .i64 0)) <| .po (.e 5 1) <| .po (.e 5 1) <| .po (.e 29 2) <| .sel [0,1,2,3,8] <| .loop [3,2,1,0] u_impl_TokensOf_l6
theorem u_impl_TokensOf_g : toUPf Try.prog 6 Try.f6 owA u_impl_TokensOf_h u_impl_TokensOf_d = some ([(false,1)],u_impl_TokensOf_u):=by kernel_rfl
open Int (reduceNeg reduceSub reduceMul reduceLT reduceLE reduceEq reduceToNat)
theorem fl1Tok {t : Nat} {a : Int} {b : ByteArray} : eFlat (some (.sl t 2 [[.sc (.int .i64 a),.sc (.string b)]])) = some []:=rfl
set_option maxHeartbeats 16000000 in
theorem implTks_m (s : ByteArray) (hs : s.size≤600) (R : List Tok × Int) (hR : Runs s 0 [] [] R) : Meets Try.prog 6 [(false,[.sc (.string s)])] [(false,[encToks R.1],true),(false,[.sc (.int .i64 R.2)],true)]:=by
  refine meets_upf Try.func6 u_impl_TokensOf_g rfl ?_;simp only [u_impl_TokensOf_u]
  simp only [encToks]
  simp (disch:=first | omega | (simp only [lnA];omega) | simp only [lnB,Nat.reduceAdd]) only [go_sem,↓reduceIte,Nat.reduceAdd,reduceNeg,Int.reduceAdd,reduceSub,reduceMul,reduceLT,reduceLE,reduceEq,reduceToNat,Nat.reduceBEq,nat1,true_and]
  refine br_if (fun hbr=>?_) (fun hbr=>?_)
  · omega
  simp (disch:=first | omega | (simp only [lnA];omega) | simp only [lnB,Nat.reduceAdd]) only [go_sem,↓reduceIte,Nat.reduceAdd,reduceNeg,Int.reduceAdd,reduceSub,reduceMul,reduceLT,reduceLE,reduceEq,reduceToNat,Nat.reduceBEq,nat1,true_and]
  refine lp (fun a : Nat × List Tok × List Nat=>[.sc (.int .i64 (a.1 : Nat)),.sl 5 1 (a.2.2.map encU),.sl 5 1 (([] : List Nat).map encU),.sl 29 2 (a.2.1.map encTok)]) (fun a=>a.1≤s.size∧Runs s a.1 a.2.1 a.2.2 R∧a.2.1.length≤a.1∧a.2.2.length≤a.1) (fun a=>s.size - a.1) (0,[],[]) rfl ⟨Nat.zero_le _,hR,Nat.le_refl _,Nat.le_refl _⟩ ?_
  rintro ⟨i,out,op⟩ ⟨hi,hr,ho,hp⟩
  simp only at hi hr ho hp ⊢
  simp only [u_impl_TokensOf_l6]
  have hb:=byteAt_lt s i
  cases hr with
  | done h =>
    obtain rfl : i = s.size:=by omega
    repeat' (first | (with_reducible first | refine jn_in ?_ | refine cl_ok (by assumption) rfl ?_ | refine cl_okP (by assumption) rfl ?_ | refine br_x (fun hbr=>?_) fun hbr=>?_) | simp (disch:=first | omega | (simp only [lnA];omega) | simp only [lnB,Nat.reduceAdd]) only [go_sem,↓reduceIte,Nat.reduceAdd,reduceNeg,Int.reduceAdd,reduceSub,reduceMul,reduceLT,reduceLE,reduceEq,reduceToNat,Nat.reduceBEq,nat1,true_and])
    all_goals first | omega | rfl | skip
  | sp h1 h2 h3 =>
    rcases h2 with h2 | h2
    · have h2' : (byteAt s i : Int) = 32:=by omega
      repeat' (first | (with_reducible first | refine jn_in ?_ | refine cl_ok (by assumption) rfl ?_ | refine cl_okP (by assumption) rfl ?_ | refine br_x (fun hbr=>?_) fun hbr=>?_) | simp (disch:=first | omega | (simp only [lnA];omega) | simp only [lnB,Nat.reduceAdd]) only [go_sem,↓reduceIte,Nat.reduceAdd,reduceNeg,Int.reduceAdd,reduceSub,reduceMul,reduceLT,reduceLE,reduceEq,reduceToNat,Nat.reduceBEq,nat1,h2',Int.toNat_natCast,u_impl_TokensOf_j5])
      all_goals first | omega | exact ⟨(i + 1,out,op),rfl,⟨by omega,h3,by simp only;omega,by simp only;omega⟩,by simp only;omega⟩ | skip
    · have h2' : (byteAt s i : Int) = 9:=by omega
      repeat' (first | (with_reducible first | refine jn_in ?_ | refine cl_ok (by assumption) rfl ?_ | refine cl_okP (by assumption) rfl ?_ | refine br_x (fun hbr=>?_) fun hbr=>?_) | simp (disch:=first | omega | (simp only [lnA];omega) | simp only [lnB,Nat.reduceAdd]) only [go_sem,↓reduceIte,Nat.reduceAdd,reduceNeg,Int.reduceAdd,reduceSub,reduceMul,reduceLT,reduceLE,reduceEq,reduceToNat,Nat.reduceBEq,nat1,h2',Int.toNat_natCast,u_impl_TokensOf_j5])
      all_goals first | omega | exact ⟨(i + 1,out,op),rfl,⟨by omega,h3,by simp only;omega,by simp only;omega⟩,by simp only;omega⟩ | skip
  | com h1 h2 h3 =>
    have h2' : (byteAt s i : Int) = 35:=by omega
    have q1:=endP_t (p:=pC s) (n:=s.size) h1 (by unfold pC;rw [h2];rfl)
    have q2:=endP_le (p:=pC s) (n:=s.size) (i:=i + 1) (by omega)
    generalize hE : endP (pC s) s.size i = e at *
    repeat' (first | (with_reducible first | refine jn_in ?_ | refine cl_ok (by assumption) rfl ?_ | refine cl_okP (by assumption) rfl ?_ | refine br_x (fun hbr=>?_) fun hbr=>?_) | simp (disch:=first | omega | (simp only [lnA];omega) | simp only [lnB,Nat.reduceAdd]) only [go_sem,↓reduceIte,Nat.reduceAdd,reduceNeg,Int.reduceAdd,reduceSub,reduceMul,reduceLT,reduceLE,reduceEq,reduceToNat,Nat.reduceBEq,nat1,h2',Int.toNat_natCast,u_impl_TokensOf_j5])
    rotate_left
    · omega
    refine lp (fun k : Nat=>[.sc (.int .i64 k)]) (fun k=>k≤s.size∧endP (pC s) s.size k = e) (fun k=>s.size - k) i rfl ⟨by omega,hE⟩ ?_
    rintro k ⟨hk,he⟩
    simp only [u_impl_TokensOf_l0]
    by_cases hlt : k < s.size
    · by_cases hk10 : byteAt s k = 10
      · have hk10' : (byteAt s k : Int) = 10:=by omega
        have:=endP_f (p:=pC s) (n:=s.size) (i:=k) (by unfold pC;rw [decide_eq_true hk10];rfl)
        obtain rfl : k = e:=by omega
        repeat' (first | (with_reducible first | refine jn_in ?_ | refine cl_ok (by assumption) rfl ?_ | refine cl_okP (by assumption) rfl ?_ | refine br_x (fun hbr=>?_) fun hbr=>?_) | simp (disch:=first | omega | (simp only [lnA];omega) | simp only [lnB,Nat.reduceAdd]) only [go_sem,↓reduceIte,Nat.reduceAdd,reduceNeg,Int.reduceAdd,reduceSub,reduceMul,reduceLT,reduceLE,reduceEq,reduceToNat,Nat.reduceBEq,nat1,hk10',Int.toNat_natCast,u_impl_TokensOf_j5])
        all_goals first | omega | exact ⟨(k,out,op),rfl,⟨by omega,h3,by simp only;omega,by simp only;omega⟩,by simp only;omega⟩ | skip
      · have:=endP_t (p:=pC s) (n:=s.size) hlt (by unfold pC;rw [decide_eq_false hk10];rfl)
        have d10 : ¬ (byteAt s k : Int) = 10:=by omega
        repeat' (first | (with_reducible first | refine jn_in ?_ | refine cl_ok (by assumption) rfl ?_ | refine cl_okP (by assumption) rfl ?_ | refine br_x (fun hbr=>?_) fun hbr=>?_) | simp (disch:=first | omega | (simp only [lnA];omega) | simp only [lnB,Nat.reduceAdd]) only [go_sem,↓reduceIte,Nat.reduceAdd,reduceNeg,Int.reduceAdd,reduceSub,reduceMul,reduceLT,reduceLE,reduceEq,reduceToNat,Nat.reduceBEq,nat1,d10,Int.toNat_natCast,u_impl_TokensOf_j5])
        all_goals first | omega | contradiction | exact ⟨k + 1,rfl,⟨by omega,by omega⟩,by omega⟩ | skip
    · have:=endP_o (p:=pC s) (n:=s.size) (i:=k) (by omega)
      obtain rfl : k = e:=by omega
      repeat' (first | (with_reducible first | refine jn_in ?_ | refine cl_ok (by assumption) rfl ?_ | refine cl_okP (by assumption) rfl ?_ | refine br_x (fun hbr=>?_) fun hbr=>?_) | simp (disch:=first | omega | (simp only [lnA];omega) | simp only [lnB,Nat.reduceAdd]) only [go_sem,↓reduceIte,Nat.reduceAdd,reduceNeg,Int.reduceAdd,reduceSub,reduceMul,reduceLT,reduceLE,reduceEq,reduceToNat,Nat.reduceBEq,nat1,Int.toNat_natCast,u_impl_TokensOf_j5])
      all_goals first | omega | exact ⟨(k,out,op),rfl,⟨by omega,h3,by simp only;omega,by simp only;omega⟩,by simp only;omega⟩ | skip
  | nl h1 h2 h3 =>
    have h2' : (byteAt s i : Int) = 10:=by omega
    have hnl:=nlO_len out op
    have hfin : ∀ o2 : List Tok,o2 = nlO out op→∃ a' : Nat × List Tok × List Nat,[DV.sc (.int .i64 ((i + 1 : Nat) : Int)),.sl 5 1 (op.map encU),.sl 5 1 (([] : List Nat).map encU),.sl 29 2 (o2.map encTok)] = [.sc (.int .i64 (a'.1 : Nat)),.sl 5 1 (a'.2.2.map encU),.sl 5 1 (([] : List Nat).map encU),.sl 29 2 (a'.2.1.map encTok)]∧(a'.1≤s.size∧Runs s a'.1 a'.2.1 a'.2.2 R∧a'.2.1.length≤a'.1∧a'.2.2.length≤a'.1)∧s.size - a'.1 < s.size - i :=
      fun o2 e=>⟨(i + 1,o2,op),rfl,⟨by simp only;omega,by rw [e];exact h3,by simp only;rw [e];omega,by simp only;omega⟩,by simp only;omega⟩
    have htok:=map_tok out 6 ⟨#[59]⟩
    have happ : eApp 29 2 24 (some (.sl 29 2 (out.map encTok))) (some (.sl 29 2 [[.sc (.int .i64 6),.sc (.string ⟨#[59]⟩)]])) = some [.sl 29 2 ((out ++ [semiT]).map encTok)]:=by
      rw [e_app (by simp;omega) (by decide),htok];rfl
    have hex:=endsX_m (lastT out)
    by_cases hop : op = []
    · have hok : okN op = true:=by rw [hop];rfl
      have hol : op.length = 0:=by rw [hop];rfl
      by_cases hou : out = []
      · have hol2 : out.length = 0:=by rw [hou];rfl
        have hn : out = nlO out op:=by unfold nlO;rw [if_neg (fun h=>by rw [hou] at h;exact absurd h.2 (by decide))]
        repeat' (first | (with_reducible first | refine jn_in ?_ | refine cl_ok (by assumption) rfl ?_ | refine cl_okP (by assumption) rfl ?_ | refine br_x (fun hbr=>?_) fun hbr=>?_) | simp (disch:=first | omega | (simp only [lnA];omega) | simp only [lnB,Nat.reduceAdd]) only [go_sem,↓reduceIte,Nat.reduceAdd,reduceNeg,Int.reduceAdd,reduceSub,reduceMul,reduceLT,reduceLE,reduceEq,reduceToNat,Nat.reduceBEq,nat1,h2',hol,hol2,Int.toNat_natCast,u_impl_TokensOf_j1,u_impl_TokensOf_j5])
        all_goals first | omega | exact hfin _ hn | skip
      · have hlp : 0 < out.length:=List.length_pos_iff.2 hou
        have hix : eIdx 2 (some (.sl 29 2 (out.map encTok))) (some (.sc (.int .i64 ((out.length : Int) - 1)))) = some (encTok (lastT out)):=by
          rw [ix_Tok (by omega) (by omega),show ((out.length : Int) - 1).toNat = out.length - 1 by omega,last_get hou]
        cases hx : endsX (lastT out)
        · rw [hx] at hex
          have hn : out = nlO out op:=by unfold nlO;rw [if_neg (fun h=>by rw [hx] at h;cases h.2)]
          generalize lastT out = x at *
          obtain ⟨xk,xt⟩:=x
          simp only [encTok] at hex hix
          repeat' (first | (with_reducible first | refine jn_in ?_ | refine cl_ok (by assumption) rfl ?_ | refine cl_okP (by assumption) rfl ?_ | refine br_x (fun hbr=>?_) fun hbr=>?_) | simp (disch:=first | omega | (simp only [lnA];omega) | simp only [lnB,Nat.reduceAdd]) only [go_sem,↓reduceIte,Nat.reduceAdd,reduceNeg,Int.reduceAdd,reduceSub,reduceMul,reduceLT,reduceLE,reduceEq,reduceToNat,Nat.reduceBEq,nat1,h2',hol,hix,Int.toNat_natCast,u_impl_TokensOf_j1,u_impl_TokensOf_j5])
          all_goals first | omega | exact hfin _ hn | skip
        · rw [hx] at hex
          have hn : out ++ [semiT] = nlO out op:=by unfold nlO;rw [if_pos ⟨hok,hx⟩]
          generalize lastT out = x at *
          obtain ⟨xk,xt⟩:=x
          simp only [encTok] at hex hix
          repeat' (first | (with_reducible first | refine jn_in ?_ | refine cl_ok (by assumption) rfl ?_ | refine cl_okP (by assumption) rfl ?_ | refine br_x (fun hbr=>?_) fun hbr=>?_) | simp (disch:=first | omega | (simp only [lnA];omega) | simp only [lnB,Nat.reduceAdd]) only [go_sem,↓reduceIte,Nat.reduceAdd,reduceNeg,Int.reduceAdd,reduceSub,reduceMul,reduceLT,reduceLE,reduceEq,reduceToNat,Nat.reduceBEq,nat1,h2',hol,hix,happ,fl1Tok,Int.toNat_natCast,u_impl_TokensOf_j1,u_impl_TokensOf_j5])
          all_goals first | omega | exact hfin _ hn | skip
    have hlpo : 0 < op.length:=List.length_pos_iff.2 hop
    have hixo : eIdx 1 (some (.sl 5 1 (op.map encU))) (some (.sc (.int .i64 ((op.length : Int) - 1)))) = some [.sc (.int .u8 (op.getLastD 123 : Nat))]:=by
      rw [ix_u (by omega) (by omega),show ((op.length : Int) - 1).toNat = op.length - 1 by omega,last_getN hop]
    by_cases hb3 : op.getLastD 123 = 123
    · have hok : okN op = true:=decide_eq_true hb3
      have hb3' : ((op.getLastD 123 : Nat) : Int) = 123:=by omega
      rw [hb3'] at hixo
      by_cases hou : out = []
      · have hol2 : out.length = 0:=by rw [hou];rfl
        have hn : out = nlO out op:=by unfold nlO;rw [if_neg (fun h=>by rw [hou] at h;exact absurd h.2 (by decide))]
        repeat' (first | (with_reducible first | refine jn_in ?_ | refine cl_ok (by assumption) rfl ?_ | refine cl_okP (by assumption) rfl ?_ | refine br_x (fun hbr=>?_) fun hbr=>?_) | simp (disch:=first | omega | (simp only [lnA];omega) | simp only [lnB,Nat.reduceAdd]) only [go_sem,↓reduceIte,Nat.reduceAdd,reduceNeg,Int.reduceAdd,reduceSub,reduceMul,reduceLT,reduceLE,reduceEq,reduceToNat,Nat.reduceBEq,nat1,h2',hixo,hol2,Int.toNat_natCast,u_impl_TokensOf_j1,u_impl_TokensOf_j5])
        all_goals first | omega | exact hfin _ hn | skip
      · have hlp : 0 < out.length:=List.length_pos_iff.2 hou
        have hix : eIdx 2 (some (.sl 29 2 (out.map encTok))) (some (.sc (.int .i64 ((out.length : Int) - 1)))) = some (encTok (lastT out)):=by
          rw [ix_Tok (by omega) (by omega),show ((out.length : Int) - 1).toNat = out.length - 1 by omega,last_get hou]
        cases hx : endsX (lastT out)
        · rw [hx] at hex
          have hn : out = nlO out op:=by unfold nlO;rw [if_neg (fun h=>by rw [hx] at h;cases h.2)]
          generalize lastT out = x at *
          obtain ⟨xk,xt⟩:=x
          simp only [encTok] at hex hix
          repeat' (first | (with_reducible first | refine jn_in ?_ | refine cl_ok (by assumption) rfl ?_ | refine cl_okP (by assumption) rfl ?_ | refine br_x (fun hbr=>?_) fun hbr=>?_) | simp (disch:=first | omega | (simp only [lnA];omega) | simp only [lnB,Nat.reduceAdd]) only [go_sem,↓reduceIte,Nat.reduceAdd,reduceNeg,Int.reduceAdd,reduceSub,reduceMul,reduceLT,reduceLE,reduceEq,reduceToNat,Nat.reduceBEq,nat1,h2',hixo,hix,Int.toNat_natCast,u_impl_TokensOf_j1,u_impl_TokensOf_j5])
          all_goals first | omega | exact hfin _ hn | skip
        · rw [hx] at hex
          have hn : out ++ [semiT] = nlO out op:=by unfold nlO;rw [if_pos ⟨hok,hx⟩]
          generalize lastT out = x at *
          obtain ⟨xk,xt⟩:=x
          simp only [encTok] at hex hix
          repeat' (first | (with_reducible first | refine jn_in ?_ | refine cl_ok (by assumption) rfl ?_ | refine cl_okP (by assumption) rfl ?_ | refine br_x (fun hbr=>?_) fun hbr=>?_) | simp (disch:=first | omega | (simp only [lnA];omega) | simp only [lnB,Nat.reduceAdd]) only [go_sem,↓reduceIte,Nat.reduceAdd,reduceNeg,Int.reduceAdd,reduceSub,reduceMul,reduceLT,reduceLE,reduceEq,reduceToNat,Nat.reduceBEq,nat1,h2',hixo,hix,happ,fl1Tok,Int.toNat_natCast,u_impl_TokensOf_j1,u_impl_TokensOf_j5])
          all_goals first | omega | exact hfin _ hn | skip
    have hok : okN op = false:=decide_eq_false hb3
    have hb3' : ¬ ((op.getLastD 123 : Nat) : Int) = 123:=by omega
    have hn : out = nlO out op:=by unfold nlO;rw [if_neg (fun h=>by rw [hok] at h;cases h.1)]
    repeat' (first | (with_reducible first | refine jn_in ?_ | refine cl_ok (by assumption) rfl ?_ | refine cl_okP (by assumption) rfl ?_ | refine br_x (fun hbr=>?_) fun hbr=>?_) | simp (disch:=first | omega | (simp only [lnA];omega) | simp only [lnB,Nat.reduceAdd]) only [go_sem,↓reduceIte,Nat.reduceAdd,reduceNeg,Int.reduceAdd,reduceSub,reduceMul,reduceLT,reduceLE,reduceEq,reduceToNat,Nat.reduceBEq,nat1,h2',hixo,hb3',Int.toNat_natCast,u_impl_TokensOf_j1,u_impl_TokensOf_j5])
    all_goals first | omega | contradiction | exact hfin _ hn | skip
  | bad h1 h2 h3 =>
    obtain ⟨n1,n2,n3,n4⟩:=h2
    have d1 : ¬ (byteAt s i : Int) = 32:=by omega
    have d2 : ¬ (byteAt s i : Int) = 9:=by omega
    have d3 : ¬ (byteAt s i : Int) = 35:=by omega
    have d4 : ¬ (byteAt s i : Int) = 10:=by omega
    have hn:=nextI_m s i h1 (by omega)
    rw [h3] at hn
    simp only [nxI,encTok] at hn
    repeat' (first | (with_reducible first | refine jn_in ?_ | refine cl_ok (by assumption) rfl ?_ | refine cl_okP (by assumption) rfl ?_ | refine br_x (fun hbr=>?_) fun hbr=>?_) | simp (disch:=first | omega | (simp only [lnA];omega) | simp only [lnB,Nat.reduceAdd]) only [go_sem,↓reduceIte,Nat.reduceAdd,reduceNeg,Int.reduceAdd,reduceSub,reduceMul,reduceLT,reduceLE,reduceEq,reduceToNat,Nat.reduceBEq,nat1,d1,d2,d3,d4,Int.toNat_natCast,u_impl_TokensOf_j5])
    all_goals first | omega | contradiction | rfl | skip
  | @tok _ _ _ k e _ h1 h2 h3 h4 =>
    obtain ⟨n1,n2,n3,n4⟩:=h2
    have d1 : ¬ (byteAt s i : Int) = 32:=by omega
    have d2 : ¬ (byteAt s i : Int) = 9:=by omega
    have d3 : ¬ (byteAt s i : Int) = 35:=by omega
    have d4 : ¬ (byteAt s i : Int) = 10:=by omega
    have hn:=nextI_m s i h1 (by omega)
    obtain ⟨g1,g2,g3⟩:=nxt_gt h1 (by omega) h3
    rw [h3] at hn
    have hol:=opN_len k op
    have hfin : ∀ (o2 : List Tok) (p2 : List Nat),o2 = out ++ [k]→p2 = opN k op→∃ a' : Nat × List Tok × List Nat,[DV.sc (.int .i64 ((e : Nat) : Int)),.sl 5 1 (p2.map encU),.sl 5 1 (([] : List Nat).map encU),.sl 29 2 (o2.map encTok)] = [.sc (.int .i64 (a'.1 : Nat)),.sl 5 1 (a'.2.2.map encU),.sl 5 1 (([] : List Nat).map encU),.sl 29 2 (a'.2.1.map encTok)]∧(a'.1≤s.size∧Runs s a'.1 a'.2.1 a'.2.2 R∧a'.2.1.length≤a'.1∧a'.2.2.length≤a'.1)∧s.size - a'.1 < s.size - i :=
      fun o2 p2 e1 e2=>⟨(e,o2,p2),rfl,⟨by simp only;omega,by rw [e1,e2];exact h4,by simp only;rw [e1,List.length_append,List.length_singleton];omega,by simp only;rw [e2];omega⟩,by simp only;omega⟩
    obtain ⟨kd,tx⟩:=k
    have htok:=map_tok out kd tx
    have happ : eApp 29 2 24 (some (.sl 29 2 (out.map encTok))) (some (.sl 29 2 [[.sc (.int .i64 kd),.sc (.string tx)]])) = some [.sl 29 2 ((out ++ [(⟨kd,tx⟩ : Tok)]).map encTok)]:=by
      rw [e_app (by simp;omega) (by decide),htok]
    have apo : ∀ a : Nat,eApp 5 1 1 (some (.sl 5 1 (op.map encU))) (some (.sl 5 1 [[.sc (.int .u8 (a : Int))]])) = some [.sl 5 1 ((op ++ [a]).map encU)]:=fun a=>e_appm (m:=[a]) (by omega) (by show 1≤100000000000;omega) (by decide)
    simp only [nxI,encTok] at hn
    by_cases hk : kd = 5
    rotate_left
    · have hop : op = opN ⟨kd,tx⟩ op:=by unfold opN;rw [if_neg hk]
      repeat' (first | (with_reducible first | refine jn_in ?_ | refine cl_ok (by assumption) rfl ?_ | refine cl_okP (by assumption) rfl ?_ | refine br_x (fun hbr=>?_) fun hbr=>?_) | simp (disch:=first | omega | (simp only [lnA];omega) | simp only [lnB,Nat.reduceAdd]) only [go_sem,↓reduceIte,Nat.reduceAdd,reduceNeg,Int.reduceAdd,reduceSub,reduceMul,reduceLT,reduceLE,reduceEq,reduceToNat,Nat.reduceBEq,nat1,d1,d2,d3,d4,happ,fl1Tok,Int.toNat_natCast,u_impl_TokensOf_j4,u_impl_TokensOf_j5])
      all_goals first | omega | contradiction | exact hfin _ _ rfl hop | skip
    subst hk
    by_cases t40 : tx = ⟨#[40]⟩
    · have hop : op ++ [40] = opN ⟨5,tx⟩ op:=by unfold opN;rw [if_pos rfl,if_pos (by simp [t40]),t40];rfl
      have m91 : ¬ tx = ⟨#[91]⟩:=by rw [t40];decide
      have m123 : ¬ tx = ⟨#[123]⟩:=by rw [t40];decide
      have hch : eChr (some (.sc (.string tx))) (some (.sc (.int .i64 0))) = some [.sc (.int .u8 40)]:=by rw [t40];rfl
      have ap1 : eApp 5 1 1 (some (.sl 5 1 (op.map encU))) (some (.sl 5 1 [[.sc (.int .u8 40)]])) = some [.sl 5 1 ((op ++ [40]).map encU)]:=apo 40
      repeat' (first | (with_reducible first | refine jn_in ?_ | refine cl_ok (by assumption) rfl ?_ | refine cl_okP (by assumption) rfl ?_ | refine br_x (fun hbr=>?_) fun hbr=>?_) | simp (disch:=first | omega | (simp only [lnA];omega) | simp only [lnB,Nat.reduceAdd]) only [go_sem,↓reduceIte,Nat.reduceAdd,reduceNeg,Int.reduceAdd,reduceSub,reduceMul,reduceLT,reduceLE,reduceEq,reduceToNat,Nat.reduceBEq,nat1,d1,d2,d3,d4,happ,fl1Tok,hch,ap1,fl1_z,Int.toNat_natCast,u_impl_TokensOf_j3,u_impl_TokensOf_j4,u_impl_TokensOf_j5])
      all_goals first | omega | contradiction | exact hfin _ _ rfl hop | skip
    by_cases t91 : tx = ⟨#[91]⟩
    · have hop : op ++ [91] = opN ⟨5,tx⟩ op:=by unfold opN;rw [if_pos rfl,if_pos (by simp [t91]),t91];rfl
      have m40 : ¬ tx = ⟨#[40]⟩:=by rw [t91];decide
      have m123 : ¬ tx = ⟨#[123]⟩:=by rw [t91];decide
      have hch : eChr (some (.sc (.string tx))) (some (.sc (.int .i64 0))) = some [.sc (.int .u8 91)]:=by rw [t91];rfl
      have ap1 : eApp 5 1 1 (some (.sl 5 1 (op.map encU))) (some (.sl 5 1 [[.sc (.int .u8 91)]])) = some [.sl 5 1 ((op ++ [91]).map encU)]:=apo 91
      repeat' (first | (with_reducible first | refine jn_in ?_ | refine cl_ok (by assumption) rfl ?_ | refine cl_okP (by assumption) rfl ?_ | refine br_x (fun hbr=>?_) fun hbr=>?_) | simp (disch:=first | omega | (simp only [lnA];omega) | simp only [lnB,Nat.reduceAdd]) only [go_sem,↓reduceIte,Nat.reduceAdd,reduceNeg,Int.reduceAdd,reduceSub,reduceMul,reduceLT,reduceLE,reduceEq,reduceToNat,Nat.reduceBEq,nat1,d1,d2,d3,d4,happ,fl1Tok,hch,ap1,fl1_z,Int.toNat_natCast,u_impl_TokensOf_j3,u_impl_TokensOf_j4,u_impl_TokensOf_j5])
      all_goals first | omega | contradiction | exact hfin _ _ rfl hop | skip
    by_cases t123 : tx = ⟨#[123]⟩
    · have hop : op ++ [123] = opN ⟨5,tx⟩ op:=by unfold opN;rw [if_pos rfl,if_pos (by simp [t123]),t123];rfl
      have m40 : ¬ tx = ⟨#[40]⟩:=by rw [t123];decide
      have m91 : ¬ tx = ⟨#[91]⟩:=by rw [t123];decide
      have hch : eChr (some (.sc (.string tx))) (some (.sc (.int .i64 0))) = some [.sc (.int .u8 123)]:=by rw [t123];rfl
      have ap1 : eApp 5 1 1 (some (.sl 5 1 (op.map encU))) (some (.sl 5 1 [[.sc (.int .u8 123)]])) = some [.sl 5 1 ((op ++ [123]).map encU)]:=apo 123
      repeat' (first | (with_reducible first | refine jn_in ?_ | refine cl_ok (by assumption) rfl ?_ | refine cl_okP (by assumption) rfl ?_ | refine br_x (fun hbr=>?_) fun hbr=>?_) | simp (disch:=first | omega | (simp only [lnA];omega) | simp only [lnB,Nat.reduceAdd]) only [go_sem,↓reduceIte,Nat.reduceAdd,reduceNeg,Int.reduceAdd,reduceSub,reduceMul,reduceLT,reduceLE,reduceEq,reduceToNat,Nat.reduceBEq,nat1,d1,d2,d3,d4,happ,fl1Tok,hch,ap1,fl1_z,Int.toNat_natCast,u_impl_TokensOf_j3,u_impl_TokensOf_j4,u_impl_TokensOf_j5])
      all_goals first | omega | contradiction | exact hfin _ _ rfl hop | skip
    have nopen : ¬ (tx = ⟨#[40]⟩ ∨ tx = ⟨#[91]⟩ ∨ tx = ⟨#[123]⟩):=by simp [t40,t91,t123]
    by_cases tc : tx = ⟨#[41]⟩ ∨ tx = ⟨#[93]⟩ ∨ tx = ⟨#[125]⟩
    · have hop : op.take (op.length - 1) = opN ⟨5,tx⟩ op:=by unfold opN;rw [if_pos rfl,if_neg nopen,if_pos tc]
      have hcon : ¬ tx = ⟨#[41]⟩→¬ tx = ⟨#[93]⟩→¬ tx = ⟨#[125]⟩→False:=fun a b c=>by rcases tc with h | h | h <;> contradiction
      have ttn : ((op.length : Int) - 1).toNat = op.length - 1:=by omega
      by_cases hpz : op = []
      · have hpl : op.length = 0:=by rw [hpz];rfl
        have hop2 : op = opN ⟨5,tx⟩ op:=by rw [← hop,hpl,hpz];rfl
        repeat' (first | (with_reducible first | refine jn_in ?_ | refine cl_ok (by assumption) rfl ?_ | refine cl_okP (by assumption) rfl ?_ | refine br_x (fun hbr=>?_) fun hbr=>?_) | simp (disch:=first | omega | (simp only [lnA];omega) | simp only [lnB,Nat.reduceAdd]) only [go_sem,↓reduceIte,Nat.reduceAdd,reduceNeg,Int.reduceAdd,reduceSub,reduceMul,reduceLT,reduceLE,reduceEq,reduceToNat,Nat.reduceBEq,nat1,d1,d2,d3,d4,happ,fl1Tok,hpl,Int.toNat_natCast,u_impl_TokensOf_j2,u_impl_TokensOf_j3,u_impl_TokensOf_j4,u_impl_TokensOf_j5])
        all_goals first | omega | contradiction | exact hfin _ _ rfl hop2 | (exfalso;exact hcon ‹_› ‹_› ‹_›) | skip
      · have hpl : 0 < op.length:=List.length_pos_iff.2 hpz
        repeat' (first | (with_reducible first | refine jn_in ?_ | refine cl_ok (by assumption) rfl ?_ | refine cl_okP (by assumption) rfl ?_ | refine br_x (fun hbr=>?_) fun hbr=>?_) | simp (disch:=first | omega | (simp only [lnA];omega) | simp only [lnB,Nat.reduceAdd]) only [go_sem,↓reduceIte,Nat.reduceAdd,reduceNeg,Int.reduceAdd,reduceSub,reduceMul,reduceLT,reduceLE,reduceEq,reduceToNat,Nat.reduceBEq,nat1,d1,d2,d3,d4,happ,fl1Tok,ttn,Int.toNat_natCast,u_impl_TokensOf_j2,u_impl_TokensOf_j3,u_impl_TokensOf_j4,u_impl_TokensOf_j5])
        all_goals first | omega | contradiction | exact hfin _ _ rfl hop | (exfalso;exact hcon ‹_› ‹_› ‹_›) | skip
    · have hop : op = opN ⟨5,tx⟩ op:=by unfold opN;rw [if_pos rfl,if_neg nopen,if_neg tc]
      have c1 : ¬ tx = ⟨#[41]⟩:=fun h=>tc (.inl h)
      have c2 : ¬ tx = ⟨#[93]⟩:=fun h=>tc (.inr (.inl h))
      have c3 : ¬ tx = ⟨#[125]⟩:=fun h=>tc (.inr (.inr h))
      repeat' (first | (with_reducible first | refine jn_in ?_ | refine cl_ok (by assumption) rfl ?_ | refine cl_okP (by assumption) rfl ?_ | refine br_x (fun hbr=>?_) fun hbr=>?_) | simp (disch:=first | omega | (simp only [lnA];omega) | simp only [lnB,Nat.reduceAdd]) only [go_sem,↓reduceIte,Nat.reduceAdd,reduceNeg,Int.reduceAdd,reduceSub,reduceMul,reduceLT,reduceLE,reduceEq,reduceToNat,Nat.reduceBEq,nat1,d1,d2,d3,d4,happ,fl1Tok,Int.toNat_natCast,u_impl_TokensOf_j2,u_impl_TokensOf_j3,u_impl_TokensOf_j4,u_impl_TokensOf_j5])
      all_goals first | omega | contradiction | exact hfin _ _ rfl hop | skip
def u_spec_TokensOf_h : List Hint:=[⟨1000023,1,⟨[(5,.p false [.d 41]),(98,.p false [.d 40]),(7,.p false [.d 39]),(84,.p false [.d 38]),(9,.p false [.d 34]),(8,.p false [.ptr 2 2 0]),(50,.p false [.d 31]),(33,.p false [.d 28]),(20,.p false [.d 25]),(19,.p false [.d 19]),(6,.p false [.ptr 1 1 0]),(13,.p false [.d 6]),(4,.p false [.own 0 0]),(3,.p false [.d 1]),(2,.p false [.nil]),(0,.p false [.d 0])],[(0,.row 0 29 2 15),(1,.var 1 29 [.d 16,.d 17]),(2,.var 2 29 [.d 32,.d 33])],3,3,42,[(38,false),(31,false),(28,false),(25,false),(22,false),(19,true),(6,false)]⟩,[]⟩,⟨22,1,⟨[(98,.p false [.d 40]),(7,.p false [.d 39]),(84,.p false [.d 38]),(9,.p false [.d 34]),(8,.p false [.ptr 2 2 0]),(50,.p false [.d 31]),(33,.p false [.d 28]),(20,.p false [.d 25]),(19,.p false [.d 19]),(6,.p false [.ptr 1 1 0]),(13,.p false [.d 6]),(5,.p false [.d 14]),(4,.p false [.own 0 0]),(3,.p false [.d 1]),(2,.p false [.nil]),(0,.p false [.d 0])],[(0,.row 0 29 2 15),(1,.var 1 29 [.d 16,.d 17]),(2,.var 2 29 [.d 32,.d 33])],3,3,41,[(38,false),(31,false),(28,false),(25,false),(22,false),(19,true),(6,false)]⟩,[]⟩,⟨3000011,1,⟨[(33,.p false [.d 28]),(20,.p false [.d 25]),(19,.p false [.d 19]),(7,.p false [.d 29]),(6,.p false [.ptr 1 1 0]),(13,.p false [.d 6]),(5,.p false [.d 14]),(4,.p false [.own 0 0]),(3,.p false [.d 1]),(2,.p false [.nil]),(0,.p false [.d 0])],[(0,.row 0 29 2 15),(1,.var 1 29 [.d 16,.d 17])],2,2,30,[(28,true),(25,false),(22,false),(19,true),(6,false)]⟩,[]⟩,⟨2000001,6,⟨[(7,.p false [.d 20]),(20,.p false [.d 21]),(19,.p false [.d 19]),(6,.p false [.ptr 1 1 0]),(13,.p false [.d 6]),(5,.p false [.d 22]),(4,.p false [.own 0 0]),(3,.p false [.d 1]),(2,.p false [.nil]),(0,.p false [.d 0])],[(0,.row 0 29 2 23),(1,.var 1 29 [.d 24,.d 25])],2,2,26,[(19,true),(6,false)]⟩,[]⟩,⟨3000007,5,⟨[(7,.p false [.d 13]),(6,.p false [.ptr 1 1 0]),(13,.p false [.d 6]),(5,.p false [.d 14]),(4,.p false [.own 0 0]),(3,.p false [.d 1]),(2,.p false [.nil]),(0,.p false [.d 0])],[(0,.row 0 29 2 15),(1,.var 1 29 [.d 16,.d 17])],2,2,18,[(6,false)]⟩,[]⟩]
def u_spec_TokensOf_d : List (Nat × Nat × Bool × List Nat):=[]
def u_spec_TokensOf_l0 : UP:=.po (.lenS 7) <| .po (.bin .lss false 1 0) <| .ite 0 (.po (.chr 9 2) <| .po (.k (.int .u8 10)) <| .po (.bin .neq false 1 0) <| .ite 0 (.po (.k (.int .i64 1)) <| .po (.bin .add false 6 0) <| .jump 2 [0]) <| .jump 1 [5,6,10,9,8,7]) <| .po (.k (.bool false)) <| .jump 1 [3,4,8,7,6,5]
def u_spec_TokensOf_j1 : UP:=.po (.sc 4) <| .po (.sc 3) <| .po (.mk 29 2 [[4,3]]) <| .po (.flat 0) <| .po (.app 29 2 24 7 0) <| .jump 1 [4,7,2,0,6,5]
def u_spec_TokensOf_j2 : UP:=.join 1 u_spec_TokensOf_j1 <| .ite 0 (.po (.bin .add false 6 2) <| .jump 2 [0]) <| .po (.k (.int .i64 5)) <| .po (.bin .eql false 4 0) <| .ite 0 (.po (.k (.string ⟨#[41]⟩)) <| .po (.k (.string ⟨#[93]⟩)) <| .po (.k (.string ⟨#[125]⟩)) <| .po (.sc 2) <| .po (.sc 1) <| .po (.sc 0) <| .po (.mk 9 1 [[2],[1],[0]]) <| .sel [0,8,12] <| .cl 19 [(false,[0]),(false,[1])] [(false,[none],true)] <| .ite 0 (.po (.k (.string ⟨#[]⟩)) <| .po (.bin .neq false 4 0) <| .ite 0 (.po (.lenS 5) <| .po (.k (.int .i64 1)) <| .po (.bin .sub false 1 0) <| .po (.cutS 8 none (some 0)) <| .jump 2 [0]) <| .jump 2 [5]) <| .po (.k (.bool false)) <| .jump 2 [4]) <| .po (.k (.bool false)) <| .po (.k (.bool false)) <| .jump 2 [10]
def u_spec_TokensOf_j3 : UP:=.jump 0 [5,3,2,1,0]
def u_spec_TokensOf_l4 : UP:=.po (.lenS 10) <| .po (.bin .lss false 5 0) <| .ite 0 (.sel [2,3,4,5,6,12] <| .join 6 u_spec_TokensOf_j3 <| .po (.chr 5 4) <| .po (.k (.int .u8 32)) <| .po (.bin .eql false 1 0) <| .ite 0 (.po (.k (.bool true)) <| .po (.k (.int .i64 1)) <| .po (.bin .add false 9 0) <| .jump 1 [0,2,9,8,7,6]) <| .po (.chr 8 7) <| .po (.k (.int .u8 9)) <| .po (.bin .eql false 1 0) <| .ite 0 (.po (.k (.int .i64 1)) <| .po (.bin .add false 11 0) <| .jump 1 [0,2,11,10,9,8]) <| .po (.chr 11 10) <| .po (.k (.int .u8 35)) <| .po (.bin .eql false 1 0) <| .ite 0 (.sel [3,9,10,11,12,13,14] <| .loop [5] u_spec_TokensOf_l0) <| .po (.chr 14 13) <| .po (.k (.int .u8 10)) <| .po (.bin .eql false 1 0) <| .ite 0 (.po (.k (.int .i64 1)) <| .po (.bin .add false 17 0) <| .sel [0,8,14,15,16,17] <| .cl 17 [(true,[3,2])] [(false,[none],true)] <| .po (.un .not 0) <| .ite 0 (.po (.k (.string ⟨#[]⟩)) <| .po (.bin .eql false 8 0) <| .ite 0 (.po (.k (.bool true)) <| .po (.k (.int .i64 0)) <| .po (.k (.string ⟨#[]⟩)) <| .po (.k (.int .i64 6)) <| .po (.k (.string ⟨#[59]⟩)) <| .po (.sc 1) <| .po (.sc 0) <| .po (.mk 29 2 [[1,0]]) <| .po (.flat 0) <| .po (.app 29 2 24 14 0) <| .jump 1 [11,12,16,0,3,2]) <| .po (.lenS 9) <| .po (.k (.int .i64 1)) <| .po (.bin .sub false 1 0) <| .po (.chr 12 0) <| .po (.k (.int .u8 123)) <| .po (.bin .eql false 1 0) <| .ite 0 (.po (.k (.int .i64 0)) <| .po (.k (.string ⟨#[]⟩)) <| .po (.k (.int .i64 6)) <| .po (.k (.string ⟨#[59]⟩)) <| .po (.sc 1) <| .po (.sc 0) <| .po (.mk 29 2 [[1,0]]) <| .po (.flat 0) <| .po (.app 29 2 24 19 0) <| .jump 1 [16,17,21,0,3,2]) <| .jump 1 [10,11,15,14,13,12]) <| .po (.k (.bool false)) <| .jump 1 [3,4,8,7,6,5]) <| .sel [6,14,15,16,17] <| .cl 18 [(false,[4]),(false,[3])] [(true,[none,none],true),(false,[none],true)] <| .po (.k (.int .i64 0)) <| .po (.k (.string ⟨#[]⟩)) <| .po (.k (.int .i64 0)) <| .po (.bin .eql false 3 0) <| .ite 0 (.po (.mk 29 2 []) <| .po (.sc 11) <| .ret [(false,[0]),(false,[11])]) <| .po (.bin .add false 10 4) <| .sel [0,6,7,8,9,10] <| .join 1 u_spec_TokensOf_j2 <| .po (.k (.int .i64 5)) <| .po (.bin .eql false 3 0) <| .ite 0 (.po (.k (.string ⟨#[40]⟩)) <| .po (.k (.string ⟨#[91]⟩)) <| .po (.k (.string ⟨#[123]⟩)) <| .po (.sc 2) <| .po (.sc 1) <| .po (.sc 0) <| .po (.mk 9 1 [[2],[1],[0]]) <| .sel [0,7] <| .cl 19 [(false,[0]),(false,[1])] [(false,[none],true)] <| .jump 2 [0]) <| .po (.k (.bool false)) <| .jump 2 [0]) <| .po (.k (.int .i64 (-1))) <| .po (.sc 0) <| .ret [(false,[5]),(false,[0])]
def u_spec_TokensOf_u : UP:=.po (.k (.int .i64 0)) <| .po (.mk 29 2 []) <| .po (.k (.string ⟨#[]⟩)) <| .po (.lenS 3) <| .po (.k (.int .i64 600)) <| .po (.bin .gtr false 1 0) <| .ite 0 (.po (.k (.int .i64 600)) <| .po (.sc 0) <| .ret [(false,[5]),(false,[0])]) <| .po (.k (.int .i64 0)) <| .po (.k (.string ⟨#[]⟩)) <| .po (.k (.int .i64 6)) <| .po (.k (.int .i64 0)) <| .po (.k (.string ⟨#[]⟩)) <| .po (.k (.int .i64 0)) <| .sel [0,3,4,9,10,12] <| .loop [0,3,4,1,2] u_spec_TokensOf_l4
theorem u_spec_TokensOf_g : toUPf Try.prog 7 Try.f7 owA u_spec_TokensOf_h u_spec_TokensOf_d = some ([(false,1)],u_spec_TokensOf_u):=by kernel_rfl
theorem ofN_emp {op : List Nat} : ofN op = ⟨#[]⟩ ↔ op = []:=by
  refine ⟨fun h=>?_,fun h=>by rw [h];rfl⟩
  have:=congrArg ByteArray.size h
  rw [ofN_size] at this
  exact List.length_eq_zero_iff.1 this
theorem opN_lt {k : Tok} {op : List Nat} (h : ∀ x ∈ op,x < 256) : ∀ x ∈ opN k op,x < 256:=by
  intro x hx
  unfold opN at hx
  split at hx
  · split at hx
    · rcases List.mem_append.1 hx with hx | hx
      · exact h x hx
      · rw [List.mem_singleton.1 hx];exact byteAt_lt _ _
    · split at hx
      · exact h x (List.mem_of_mem_take hx)
      · exact h x hx
  · exact h x hx
theorem ofN_last {op : List Nat} (h : op ≠ []) (hb : ∀ x ∈ op,x < 256) : byteAt (ofN op) (op.length - 1) = op.getLastD 123:=by
  have e:=last_getN h
  have e2 : op.getD (op.length - 1) 0 = op.getLastD 123:=by
    rw [← e,List.getD_eq_getElem?_getD,List.getD_eq_getElem?_getD,List.getElem?_eq_getElem (by have:=List.length_pos_iff.2 h;omega)];rfl
  rw [byteAt_ofN (by rw [e2,← e];exact hb _ (getD_mem (by have:=List.length_pos_iff.2 h;omega))),e2]
theorem ofN_take (op : List Nat) (n : Nat) : (ofN op).extract 0 n = ofN (op.take n):=by
  apply ByteArray.ext
  apply Array.ext'
  rw [ofN_data,List.map_take,← ofN_data]
  simp
set_option maxHeartbeats 16000000 in
theorem specTks_m (s : ByteArray) (hs : s.size≤600) (R : List Tok × Int) (hR : Runs s 0 [] [] R) : Meets Try.prog 7 [(false,[.sc (.string s)])] [(false,[encToks R.1],true),(false,[.sc (.int .i64 R.2)],true)]:=by
  refine meets_upf Try.func7 u_spec_TokensOf_g rfl ?_;simp only [u_spec_TokensOf_u]
  simp only [encToks]
  simp (disch:=first | omega | (simp only [lnA];omega) | simp only [lnB,Nat.reduceAdd]) only [go_sem,↓reduceIte,Nat.reduceAdd,reduceNeg,Int.reduceAdd,reduceSub,reduceMul,reduceLT,reduceLE,reduceEq,reduceToNat,Nat.reduceBEq,nat1,true_and]
  refine br_if (fun hbr=>?_) (fun hbr=>?_)
  · omega
  simp (disch:=first | omega | (simp only [lnA];omega) | simp only [lnB,Nat.reduceAdd]) only [go_sem,↓reduceIte,Nat.reduceAdd,reduceNeg,Int.reduceAdd,reduceSub,reduceMul,reduceLT,reduceLE,reduceEq,reduceToNat,Nat.reduceBEq,nat1,true_and]
  refine lp (fun a : Nat × List Tok × List Nat=>[DV.sc (.int .i64 ((a.1 : Nat) : Int)),.sc (.string (ofN (a.2.2))),.sl 29 2 ((a.2.1).map encTok),.sc (.int .i64 (lastT (a.2.1)).kind),.sc (.string (lastT (a.2.1)).text)]) (fun a=>a.1≤s.size∧Runs s a.1 a.2.1 a.2.2 R∧a.2.1.length≤a.1∧a.2.2.length≤a.1∧∀ x ∈ a.2.2,x < 256) (fun a=>s.size - a.1) (0,[],[]) rfl ⟨Nat.zero_le _,hR,Nat.le_refl _,Nat.le_refl _,by simp⟩ ?_
  rintro ⟨i,out,op⟩ ⟨hi,hr,ho,hp,h256⟩
  simp only at hi hr ho hp h256 ⊢
  simp only [u_spec_TokensOf_l4]
  have hb:=byteAt_lt s i
  have hol0:=ofN_size op
  cases hr with
  | done h =>
    obtain rfl : i = s.size:=by omega
    repeat' (first | (with_reducible first | refine jn_in ?_ | refine cl_ok (by assumption) rfl ?_ | refine cl_okP (by assumption) rfl ?_ | refine br_x (fun hbr=>?_) fun hbr=>?_) | simp (disch:=first | omega | (simp only [lnA];omega) | simp only [lnB,Nat.reduceAdd]) only [go_sem,↓reduceIte,Nat.reduceAdd,reduceNeg,Int.reduceAdd,reduceSub,reduceMul,reduceLT,reduceLE,reduceEq,reduceToNat,Nat.reduceBEq,nat1,true_and])
    all_goals first | omega | rfl | skip
  | sp h1 h2 h3 =>
    have hfin : ∃ a' : Nat × List Tok × List Nat,[DV.sc (.int .i64 ((i + 1 : Nat) : Int)),.sc (.string (ofN (op))),.sl 29 2 ((out).map encTok),.sc (.int .i64 (lastT (out)).kind),.sc (.string (lastT (out)).text)] = [DV.sc (.int .i64 ((a'.1 : Nat) : Int)),.sc (.string (ofN (a'.2.2))),.sl 29 2 ((a'.2.1).map encTok),.sc (.int .i64 (lastT (a'.2.1)).kind),.sc (.string (lastT (a'.2.1)).text)]∧(a'.1≤s.size∧Runs s a'.1 a'.2.1 a'.2.2 R∧a'.2.1.length≤a'.1∧a'.2.2.length≤a'.1∧∀ x ∈ a'.2.2,x < 256)∧s.size - a'.1 < s.size - i:=⟨(i + 1,out,op),rfl,⟨by simp only;omega,h3,by simp only;omega,by simp only;omega,h256⟩,by simp only;omega⟩
    rcases h2 with h2 | h2
    · have h2' : (byteAt s i : Int) = 32:=by omega
      repeat' (first | (with_reducible first | refine jn_in ?_ | refine cl_ok (by assumption) rfl ?_ | refine cl_okP (by assumption) rfl ?_ | refine br_x (fun hbr=>?_) fun hbr=>?_) | simp (disch:=first | omega | (simp only [lnA];omega) | simp only [lnB,Nat.reduceAdd]) only [go_sem,↓reduceIte,Nat.reduceAdd,reduceNeg,Int.reduceAdd,reduceSub,reduceMul,reduceLT,reduceLE,reduceEq,reduceToNat,Nat.reduceBEq,nat1,h2',Int.toNat_natCast,u_spec_TokensOf_j3])
      all_goals first | omega | exact hfin | skip
    · have h2' : (byteAt s i : Int) = 9:=by omega
      repeat' (first | (with_reducible first | refine jn_in ?_ | refine cl_ok (by assumption) rfl ?_ | refine cl_okP (by assumption) rfl ?_ | refine br_x (fun hbr=>?_) fun hbr=>?_) | simp (disch:=first | omega | (simp only [lnA];omega) | simp only [lnB,Nat.reduceAdd]) only [go_sem,↓reduceIte,Nat.reduceAdd,reduceNeg,Int.reduceAdd,reduceSub,reduceMul,reduceLT,reduceLE,reduceEq,reduceToNat,Nat.reduceBEq,nat1,h2',Int.toNat_natCast,u_spec_TokensOf_j3])
      all_goals first | omega | exact hfin | skip
  | com h1 h2 h3 =>
    have h2' : (byteAt s i : Int) = 35:=by omega
    have q1:=endP_t (p:=pC s) (n:=s.size) h1 (by unfold pC;rw [h2];rfl)
    have q2:=endP_le (p:=pC s) (n:=s.size) (i:=i + 1) (by omega)
    generalize hE : endP (pC s) s.size i = e at *
    have hfin : ∃ a' : Nat × List Tok × List Nat,[DV.sc (.int .i64 ((e : Nat) : Int)),.sc (.string (ofN (op))),.sl 29 2 ((out).map encTok),.sc (.int .i64 (lastT (out)).kind),.sc (.string (lastT (out)).text)] = [DV.sc (.int .i64 ((a'.1 : Nat) : Int)),.sc (.string (ofN (a'.2.2))),.sl 29 2 ((a'.2.1).map encTok),.sc (.int .i64 (lastT (a'.2.1)).kind),.sc (.string (lastT (a'.2.1)).text)]∧(a'.1≤s.size∧Runs s a'.1 a'.2.1 a'.2.2 R∧a'.2.1.length≤a'.1∧a'.2.2.length≤a'.1∧∀ x ∈ a'.2.2,x < 256)∧s.size - a'.1 < s.size - i:=⟨(e,out,op),rfl,⟨by simp only;omega,h3,by simp only;omega,by simp only;omega,h256⟩,by simp only;omega⟩
    repeat' (first | (with_reducible first | refine jn_in ?_ | refine cl_ok (by assumption) rfl ?_ | refine cl_okP (by assumption) rfl ?_ | refine br_x (fun hbr=>?_) fun hbr=>?_) | simp (disch:=first | omega | (simp only [lnA];omega) | simp only [lnB,Nat.reduceAdd]) only [go_sem,↓reduceIte,Nat.reduceAdd,reduceNeg,Int.reduceAdd,reduceSub,reduceMul,reduceLT,reduceLE,reduceEq,reduceToNat,Nat.reduceBEq,nat1,h2',Int.toNat_natCast,u_spec_TokensOf_j3])
    rotate_left
    · omega
    refine lp (fun k : Nat=>[.sc (.int .i64 k)]) (fun k=>k≤s.size∧endP (pC s) s.size k = e) (fun k=>s.size - k) i rfl ⟨by omega,hE⟩ ?_
    rintro k ⟨hk,he⟩
    simp only [u_spec_TokensOf_l0]
    by_cases hlt : k < s.size
    · by_cases hk10 : byteAt s k = 10
      · have hk10' : (byteAt s k : Int) = 10:=by omega
        have:=endP_f (p:=pC s) (n:=s.size) (i:=k) (by unfold pC;rw [decide_eq_true hk10];rfl)
        obtain rfl : k = e:=by omega
        repeat' (first | (with_reducible first | refine jn_in ?_ | refine cl_ok (by assumption) rfl ?_ | refine cl_okP (by assumption) rfl ?_ | refine br_x (fun hbr=>?_) fun hbr=>?_) | simp (disch:=first | omega | (simp only [lnA];omega) | simp only [lnB,Nat.reduceAdd]) only [go_sem,↓reduceIte,Nat.reduceAdd,reduceNeg,Int.reduceAdd,reduceSub,reduceMul,reduceLT,reduceLE,reduceEq,reduceToNat,Nat.reduceBEq,nat1,hk10',Int.toNat_natCast,u_spec_TokensOf_j3])
        all_goals first | omega | exact hfin | skip
      · have:=endP_t (p:=pC s) (n:=s.size) hlt (by unfold pC;rw [decide_eq_false hk10];rfl)
        have d10 : ¬ (byteAt s k : Int) = 10:=by omega
        repeat' (first | (with_reducible first | refine jn_in ?_ | refine cl_ok (by assumption) rfl ?_ | refine cl_okP (by assumption) rfl ?_ | refine br_x (fun hbr=>?_) fun hbr=>?_) | simp (disch:=first | omega | (simp only [lnA];omega) | simp only [lnB,Nat.reduceAdd]) only [go_sem,↓reduceIte,Nat.reduceAdd,reduceNeg,Int.reduceAdd,reduceSub,reduceMul,reduceLT,reduceLE,reduceEq,reduceToNat,Nat.reduceBEq,nat1,d10,Int.toNat_natCast,u_spec_TokensOf_j3])
        all_goals first | omega | contradiction | exact ⟨k + 1,rfl,⟨by omega,by omega⟩,by omega⟩ | skip
    · have:=endP_o (p:=pC s) (n:=s.size) (i:=k) (by omega)
      obtain rfl : k = e:=by omega
      repeat' (first | (with_reducible first | refine jn_in ?_ | refine cl_ok (by assumption) rfl ?_ | refine cl_okP (by assumption) rfl ?_ | refine br_x (fun hbr=>?_) fun hbr=>?_) | simp (disch:=first | omega | (simp only [lnA];omega) | simp only [lnB,Nat.reduceAdd]) only [go_sem,↓reduceIte,Nat.reduceAdd,reduceNeg,Int.reduceAdd,reduceSub,reduceMul,reduceLT,reduceLE,reduceEq,reduceToNat,Nat.reduceBEq,nat1,Int.toNat_natCast,u_spec_TokensOf_j3])
      all_goals first | omega | exact hfin | skip
  | nl h1 h2 h3 =>
    have h2' : (byteAt s i : Int) = 10:=by omega
    have hnl:=nlO_len out op
    have hfin : ∀ o2 : List Tok,o2 = nlO out op→∃ a' : Nat × List Tok × List Nat,[DV.sc (.int .i64 ((i + 1 : Nat) : Int)),.sc (.string (ofN (op))),.sl 29 2 ((o2).map encTok),.sc (.int .i64 (lastT (o2)).kind),.sc (.string (lastT (o2)).text)] = [DV.sc (.int .i64 ((a'.1 : Nat) : Int)),.sc (.string (ofN (a'.2.2))),.sl 29 2 ((a'.2.1).map encTok),.sc (.int .i64 (lastT (a'.2.1)).kind),.sc (.string (lastT (a'.2.1)).text)]∧(a'.1≤s.size∧Runs s a'.1 a'.2.1 a'.2.2 R∧a'.2.1.length≤a'.1∧a'.2.2.length≤a'.1∧∀ x ∈ a'.2.2,x < 256)∧s.size - a'.1 < s.size - i:=fun o2 e=>⟨(i + 1,o2,op),rfl,⟨by simp only;omega,by rw [e];exact h3,by simp only;rw [e];omega,by simp only;omega,h256⟩,by simp only;omega⟩
    have hfin2:=hfin (out ++ [semiT])
    rw [lastT_app] at hfin2
    have htok:=map_tok out 6 ⟨#[59]⟩
    have happ : eApp 29 2 24 (some (.sl 29 2 (out.map encTok))) (some (.sl 29 2 [[.sc (.int .i64 6),.sc (.string ⟨#[59]⟩)]])) = some [.sl 29 2 ((out ++ [semiT]).map encTok)]:=by
      rw [e_app (by simp;omega) (by decide),htok];rfl
    have hex:=l15Open_m (lastT out)
    simp only [encTok] at hex
    cases hx : endsX (lastT out)
    · rw [hx] at hex
      have hn : out = nlO out op:=by unfold nlO;rw [if_neg (fun h=>by rw [hx] at h;cases h.2)]
      have hf:=hfin out hn
      simp only [Bool.not_false] at hex
      repeat' (first | (with_reducible first | refine jn_in ?_ | refine cl_ok (by assumption) rfl ?_ | refine cl_okP (by assumption) rfl ?_ | refine br_x (fun hbr=>?_) fun hbr=>?_) | simp (disch:=first | omega | (simp only [lnA];omega) | simp only [lnB,Nat.reduceAdd]) only [go_sem,↓reduceIte,Nat.reduceAdd,reduceNeg,Int.reduceAdd,reduceSub,reduceMul,reduceLT,reduceLE,reduceEq,reduceToNat,Nat.reduceBEq,nat1,h2',Int.toNat_natCast,u_spec_TokensOf_j3])
      all_goals first | omega | exact hf | skip
    rw [hx] at hex
    simp only [Bool.not_true] at hex
    by_cases hop : op = []
    · have hok : okN op = true:=by rw [hop];rfl
      have hof : ofN op = ⟨#[]⟩:=ofN_emp.2 hop
      have hn : out ++ [semiT] = nlO out op:=by unfold nlO;rw [if_pos ⟨hok,hx⟩]
      have hf:=hfin2 hn
      repeat' (first | (with_reducible first | refine jn_in ?_ | refine cl_ok (by assumption) rfl ?_ | refine cl_okP (by assumption) rfl ?_ | refine br_x (fun hbr=>?_) fun hbr=>?_) | simp (disch:=first | omega | (simp only [lnA];omega) | simp only [lnB,Nat.reduceAdd]) only [go_sem,↓reduceIte,Nat.reduceAdd,reduceNeg,Int.reduceAdd,reduceSub,reduceMul,reduceLT,reduceLE,reduceEq,reduceToNat,Nat.reduceBEq,nat1,h2',happ,fl1Tok,Int.toNat_natCast,u_spec_TokensOf_j3])
      all_goals first | omega | exact hf | exact absurd hof ‹_› | skip
    have hof : ¬ ofN op = ⟨#[]⟩:=fun h=>hop (ofN_emp.1 h)
    have hlpo : 0 < op.length:=List.length_pos_iff.2 hop
    have hixo : eChr (some (.sc (.string (ofN op)))) (some (.sc (.int .i64 (((ofN op).size : Int) - 1)))) = some [.sc (.int .u8 (op.getLastD 123 : Nat))]:=by
      rw [hol0,e_chr' (by omega) (by rw [hol0];omega),show ((op.length : Int) - 1).toNat = op.length - 1 by omega,ofN_last hop h256]
    by_cases hb3 : op.getLastD 123 = 123
    · have hok : okN op = true:=decide_eq_true hb3
      have hb3' : ((op.getLastD 123 : Nat) : Int) = 123:=by omega
      rw [hb3'] at hixo
      have hn : out ++ [semiT] = nlO out op:=by unfold nlO;rw [if_pos ⟨hok,hx⟩]
      have hf:=hfin2 hn
      repeat' (first | (with_reducible first | refine jn_in ?_ | refine cl_ok (by assumption) rfl ?_ | refine cl_okP (by assumption) rfl ?_ | refine br_x (fun hbr=>?_) fun hbr=>?_) | simp (disch:=first | omega | (simp only [lnA];omega) | simp only [lnB,Nat.reduceAdd]) only [go_sem,↓reduceIte,Nat.reduceAdd,reduceNeg,Int.reduceAdd,reduceSub,reduceMul,reduceLT,reduceLE,reduceEq,reduceToNat,Nat.reduceBEq,nat1,h2',hixo,happ,fl1Tok,Int.toNat_natCast,u_spec_TokensOf_j3])
      all_goals first | omega | contradiction | exact hf | skip
    · have hok : okN op = false:=decide_eq_false hb3
      have hb3' : ¬ ((op.getLastD 123 : Nat) : Int) = 123:=by omega
      have hn : out = nlO out op:=by unfold nlO;rw [if_neg (fun h=>by rw [hok] at h;cases h.1)]
      have hf:=hfin out hn
      repeat' (first | (with_reducible first | refine jn_in ?_ | refine cl_ok (by assumption) rfl ?_ | refine cl_okP (by assumption) rfl ?_ | refine br_x (fun hbr=>?_) fun hbr=>?_) | simp (disch:=first | omega | (simp only [lnA];omega) | simp only [lnB,Nat.reduceAdd]) only [go_sem,↓reduceIte,Nat.reduceAdd,reduceNeg,Int.reduceAdd,reduceSub,reduceMul,reduceLT,reduceLE,reduceEq,reduceToNat,Nat.reduceBEq,nat1,h2',hixo,hb3',Int.toNat_natCast,u_spec_TokensOf_j3])
      all_goals first | omega | contradiction | exact hf | skip
  | bad h1 h2 h3 =>
    obtain ⟨n1,n2,n3,n4⟩:=h2
    have d1 : ¬ (byteAt s i : Int) = 32:=by omega
    have d2 : ¬ (byteAt s i : Int) = 9:=by omega
    have d3 : ¬ (byteAt s i : Int) = 35:=by omega
    have d4 : ¬ (byteAt s i : Int) = 10:=by omega
    have hn:=nextS_m s i h1 (by omega)
    rw [h3] at hn
    simp only [nxS,encTok] at hn
    repeat' (first | (with_reducible first | refine jn_in ?_ | refine cl_ok (by assumption) rfl ?_ | refine cl_okP (by assumption) rfl ?_ | refine br_x (fun hbr=>?_) fun hbr=>?_) | simp (disch:=first | omega | (simp only [lnA];omega) | simp only [lnB,Nat.reduceAdd]) only [go_sem,↓reduceIte,Nat.reduceAdd,reduceNeg,Int.reduceAdd,reduceSub,reduceMul,reduceLT,reduceLE,reduceEq,reduceToNat,Nat.reduceBEq,nat1,d1,d2,d3,d4,Int.toNat_natCast,u_spec_TokensOf_j3])
    all_goals first | omega | contradiction | rfl | skip
  | @tok _ _ _ k e _ h1 h2 h3 h4 =>
    obtain ⟨n1,n2,n3,n4⟩:=h2
    have d1 : ¬ (byteAt s i : Int) = 32:=by omega
    have d2 : ¬ (byteAt s i : Int) = 9:=by omega
    have d3 : ¬ (byteAt s i : Int) = 35:=by omega
    have d4 : ¬ (byteAt s i : Int) = 10:=by omega
    have hn:=nextS_m s i h1 (by omega)
    obtain ⟨g1,g2,g3⟩:=nxt_gt h1 (by omega) h3
    rw [h3] at hn
    have hol:=opN_len k op
    have h256':=opN_lt (k:=k) h256
    obtain ⟨kd,tx⟩:=k
    simp only at g3
    have hfin : ∀ p2 : List Nat,p2 = opN ⟨kd,tx⟩ op→∃ a' : Nat × List Tok × List Nat,[DV.sc (.int .i64 ((e : Nat) : Int)),.sc (.string (ofN (p2))),.sl 29 2 ((out ++ [(⟨kd,tx⟩ : Tok)]).map encTok),.sc (.int .i64 kd),.sc (.string tx)] = [DV.sc (.int .i64 ((a'.1 : Nat) : Int)),.sc (.string (ofN (a'.2.2))),.sl 29 2 ((a'.2.1).map encTok),.sc (.int .i64 (lastT (a'.2.1)).kind),.sc (.string (lastT (a'.2.1)).text)]∧(a'.1≤s.size∧Runs s a'.1 a'.2.1 a'.2.2 R∧a'.2.1.length≤a'.1∧a'.2.2.length≤a'.1∧∀ x ∈ a'.2.2,x < 256)∧s.size - a'.1 < s.size - i:=fun p2 e2=>⟨(e,out ++ [⟨kd,tx⟩],p2),by rw [lastT_app],⟨by simp only;omega,by rw [e2];exact h4,by simp only;rw [List.length_append,List.length_singleton];omega,by simp only;rw [e2];omega,by rw [e2];exact h256'⟩,by simp only;omega⟩
    have htok:=map_tok out kd tx
    have happ : eApp 29 2 24 (some (.sl 29 2 (out.map encTok))) (some (.sl 29 2 [[.sc (.int .i64 kd),.sc (.string tx)]])) = some [.sl 29 2 ((out ++ [(⟨kd,tx⟩ : Tok)]).map encTok)]:=by
      rw [e_app (by simp;omega) (by decide),htok]
    have hH1:=l1Has_m 9 [⟨#[40]⟩,⟨#[91]⟩,⟨#[123]⟩] tx (by decide)
    have hb1 : hasB [⟨#[40]⟩,⟨#[91]⟩,⟨#[123]⟩] tx = decide (tx = ⟨#[40]⟩ ∨ tx = ⟨#[91]⟩ ∨ tx = ⟨#[123]⟩):=by
      rw [Bool.eq_iff_iff,hasB_iff,decide_eq_true_eq];simp
    rw [hb1] at hH1
    have hH2:=l1Has_m 9 [⟨#[41]⟩,⟨#[93]⟩,⟨#[125]⟩] tx (by decide)
    have hb2 : hasB [⟨#[41]⟩,⟨#[93]⟩,⟨#[125]⟩] tx = decide (tx = ⟨#[41]⟩ ∨ tx = ⟨#[93]⟩ ∨ tx = ⟨#[125]⟩):=by
      rw [Bool.eq_iff_iff,hasB_iff,decide_eq_true_eq];simp
    rw [hb2] at hH2
    simp only [List.map_cons,List.map_nil,encS] at hH1 hH2
    have hnz : ¬ ((e : Int) - (i : Int) = 0):=by omega
    have hie : (i : Int) + ((e : Int) - (i : Int)) = (e : Int):=by omega
    simp only [nxS,encTok] at hn
    by_cases hk : kd = 5
    rotate_left
    · have hop : op = opN ⟨kd,tx⟩ op:=by unfold opN;rw [if_neg hk]
      have hf:=hfin op hop
      repeat' (first | (with_reducible first | refine jn_in ?_ | refine cl_ok (by assumption) rfl ?_ | refine cl_okP (by assumption) rfl ?_ | refine br_x (fun hbr=>?_) fun hbr=>?_) | simp (disch:=first | omega | (simp only [lnA];omega) | simp only [lnB,Nat.reduceAdd]) only [go_sem,↓reduceIte,Nat.reduceAdd,reduceNeg,Int.reduceAdd,reduceSub,reduceMul,reduceLT,reduceLE,reduceEq,reduceToNat,Nat.reduceBEq,nat1,d1,d2,d3,d4,hnz,hie,happ,fl1Tok,Int.toNat_natCast,u_spec_TokensOf_j1,u_spec_TokensOf_j2,u_spec_TokensOf_j3])
      all_goals first | omega | contradiction | exact hf | skip
    subst hk
    by_cases topen : tx = ⟨#[40]⟩ ∨ tx = ⟨#[91]⟩ ∨ tx = ⟨#[123]⟩
    · have hop : op ++ [byteAt tx 0] = opN ⟨5,tx⟩ op:=by unfold opN;rw [if_pos rfl,if_pos topen]
      have hf:=hfin _ hop
      have htx : tx = ofN [byteAt tx 0]:=by rcases topen with h | h | h <;> rw [h] <;> rfl
      have hcat : eBin .add false (some (.sc (.string (ofN op)))) (some (.sc (.string tx))) = some [.sc (.string (ofN (op ++ [byteAt tx 0])))]:=by
        have:=@e_catN false op tx (by omega)
        rw [this]
        congr 3
        conv=>lhs;rw [htx]
        exact congrArg Value.string (app_ofN op _)
      rw [decide_eq_true topen] at hH1
      repeat' (first | (with_reducible first | refine jn_in ?_ | refine cl_ok (by assumption) rfl ?_ | refine cl_okP (by assumption) rfl ?_ | refine br_x (fun hbr=>?_) fun hbr=>?_) | simp (disch:=first | omega | (simp only [lnA];omega) | simp only [lnB,Nat.reduceAdd]) only [go_sem,↓reduceIte,Nat.reduceAdd,reduceNeg,Int.reduceAdd,reduceSub,reduceMul,reduceLT,reduceLE,reduceEq,reduceToNat,Nat.reduceBEq,nat1,d1,d2,d3,d4,hnz,hie,happ,fl1Tok,hcat,Int.toNat_natCast,u_spec_TokensOf_j1,u_spec_TokensOf_j2,u_spec_TokensOf_j3])
      all_goals first | omega | contradiction | exact hf | skip
    rw [decide_eq_false topen] at hH1
    by_cases tc : tx = ⟨#[41]⟩ ∨ tx = ⟨#[93]⟩ ∨ tx = ⟨#[125]⟩
    · have hop : op.take (op.length - 1) = opN ⟨5,tx⟩ op:=by unfold opN;rw [if_pos rfl,if_neg topen,if_pos tc]
      rw [decide_eq_true tc] at hH2
      by_cases hpz : op = []
      · have hof : ofN op = ⟨#[]⟩:=ofN_emp.2 hpz
        have hop2 : op = opN ⟨5,tx⟩ op:=by rw [← hop,hpz];rfl
        have hf:=hfin _ hop2
        repeat' (first | (with_reducible first | refine jn_in ?_ | refine cl_ok (by assumption) rfl ?_ | refine cl_okP (by assumption) rfl ?_ | refine br_x (fun hbr=>?_) fun hbr=>?_) | simp (disch:=first | omega | (simp only [lnA];omega) | simp only [lnB,Nat.reduceAdd]) only [go_sem,↓reduceIte,Nat.reduceAdd,reduceNeg,Int.reduceAdd,reduceSub,reduceMul,reduceLT,reduceLE,reduceEq,reduceToNat,Nat.reduceBEq,nat1,d1,d2,d3,d4,hnz,hie,happ,fl1Tok,Int.toNat_natCast,u_spec_TokensOf_j1,u_spec_TokensOf_j2,u_spec_TokensOf_j3])
        all_goals first | omega | contradiction | exact hf | skip
      · have hof : ¬ ofN op = ⟨#[]⟩:=fun h=>hpz (ofN_emp.1 h)
        have hpl : 0 < op.length:=List.length_pos_iff.2 hpz
        have hf:=hfin _ hop
        have hcut : eCutS (some (.sc (.string (ofN op)))) (some none) (some (some (((ofN op).size : Int) - 1))) = some [.sc (.string (ofN (op.take (op.length - 1))))]:=by
          rw [hol0,e_cS2 (by omega) (by rw [hol0];omega),show ((op.length : Int) - 1).toNat = op.length - 1 by omega,ofN_take]
        repeat' (first | (with_reducible first | refine jn_in ?_ | refine cl_ok (by assumption) rfl ?_ | refine cl_okP (by assumption) rfl ?_ | refine br_x (fun hbr=>?_) fun hbr=>?_) | simp (disch:=first | omega | (simp only [lnA];omega) | simp only [lnB,Nat.reduceAdd]) only [go_sem,↓reduceIte,Nat.reduceAdd,reduceNeg,Int.reduceAdd,reduceSub,reduceMul,reduceLT,reduceLE,reduceEq,reduceToNat,Nat.reduceBEq,nat1,d1,d2,d3,d4,hnz,hie,happ,fl1Tok,hcut,Int.toNat_natCast,u_spec_TokensOf_j1,u_spec_TokensOf_j2,u_spec_TokensOf_j3])
        all_goals first | omega | contradiction | exact hf | skip
    · have hop : op = opN ⟨5,tx⟩ op:=by unfold opN;rw [if_pos rfl,if_neg topen,if_neg tc]
      rw [decide_eq_false tc] at hH2
      have hf:=hfin _ hop
      repeat' (first | (with_reducible first | refine jn_in ?_ | refine cl_ok (by assumption) rfl ?_ | refine cl_okP (by assumption) rfl ?_ | refine br_x (fun hbr=>?_) fun hbr=>?_) | simp (disch:=first | omega | (simp only [lnA];omega) | simp only [lnB,Nat.reduceAdd]) only [go_sem,↓reduceIte,Nat.reduceAdd,reduceNeg,Int.reduceAdd,reduceSub,reduceMul,reduceLT,reduceLE,reduceEq,reduceToNat,Nat.reduceBEq,nat1,d1,d2,d3,d4,hnz,hie,happ,fl1Tok,Int.toNat_natCast,u_spec_TokensOf_j1,u_spec_TokensOf_j2,u_spec_TokensOf_j3])
      all_goals first | omega | contradiction | exact hf | skip
def u_spec_DrawTokensOf_h : List Hint:=[]
def u_spec_DrawTokensOf_d : List (Nat × Nat × Bool × List Nat):=[]
def u_spec_DrawTokensOf_u : UP:=.po (.k (.string ⟨#[]⟩)) <| .cl 3000011 [(false,[1])] [(false,[some (48,0)],true)] <| .cl 2000012 [(false,[0])] [(false,[none],true),(false,[some (48,0)],true)] <| .po (.k (.int .i64 5)) <| .cl 2000013 [(false,[1]),(false,[0])] [(false,[none],true),(false,[some (48,0)],true)] <| .ite 1 (.sel [0,4] <| .cl 2000014 [(false,[0]),(false,[1])] [(false,[none],true),(false,[some (48,0)],true)] <| .po (.sc 1) <| .ret [(false,[1])]) <| .po (.sc 4) <| .ret [(false,[4])]
theorem u_spec_DrawTokensOf_g : toUPf Try.prog 5 Try.f5 owA u_spec_DrawTokensOf_h u_spec_DrawTokensOf_d = some ([(false,1)],u_spec_DrawTokensOf_u):=by kernel_rfl
def u_spec_l15Source_h : List Hint:=[⟨3000003,3,⟨[(4,.p false [.d 8]),(3,.p false [.d 9]),(2,.p false [.d 1]),(0,.p false [.own 0 0])],[(0,.cur 0 true 48 10)],1,1,11,[]⟩,[]⟩]
def u_spec_l15Source_d : List (Nat × Nat × Bool × List Nat):=[]
def u_spec_l15Source_l0 : UP:=.po (.k (.int .i64 0)) <| .po (.bin .gtr false 3 0) <| .ite 0 (.po (.k (.string ⟨#[120]⟩)) <| .po (.k (.string ⟨#[60,45]⟩)) <| .po (.k (.string ⟨#[32]⟩)) <| .po (.k (.string ⟨#[10]⟩)) <| .po (.k (.string ⟨#[49]⟩)) <| .po (.k (.string ⟨#[43]⟩)) <| .po (.k (.string ⟨#[40]⟩)) <| .po (.k (.string ⟨#[41]⟩)) <| .po (.k (.string ⟨#[123]⟩)) <| .po (.k (.string ⟨#[125]⟩)) <| .po (.k (.string ⟨#[91]⟩)) <| .po (.k (.string ⟨#[93]⟩)) <| .po (.k (.string ⟨#[59]⟩)) <| .po (.k (.string ⟨#[101,108,115,101]⟩)) <| .po (.k (.string ⟨#[102]⟩)) <| .po (.k (.string ⟨#[34,97,34]⟩)) <| .po (.k (.string ⟨#[35,32,97,10]⟩)) <| .po (.k (.string ⟨#[37,37]⟩)) <| .po (.k (.string ⟨#[48,48,55]⟩)) <| .po (.k (.string ⟨#[46,53]⟩)) <| .po (.k (.string ⟨#[96,102,60,45,96]⟩)) <| .po (.k (.string ⟨#[46,46,46]⟩)) <| .po (.k (.string ⟨#[60,60,45]⟩)) <| .po (.k (.string ⟨#[78,65]⟩)) <| .po (.k (.string ⟨#[44]⟩)) <| .po (.sc 24) <| .po (.sc 23) <| .po (.sc 22) <| .po (.sc 21) <| .po (.sc 20) <| .po (.sc 19) <| .po (.sc 18) <| .po (.sc 17) <| .po (.sc 16) <| .po (.sc 15) <| .po (.sc 14) <| .po (.sc 13) <| .po (.sc 12) <| .po (.sc 11) <| .po (.sc 10) <| .po (.sc 9) <| .po (.sc 8) <| .po (.sc 7) <| .po (.sc 6) <| .po (.sc 5) <| .po (.sc 4) <| .po (.sc 3) <| .po (.sc 2) <| .po (.sc 1) <| .po (.sc 0) <| .po (.mk 9 1 [[24],[23],[22],[21],[20],[19],[18],[17],[16],[15],[14],[13],[12],[11],[10],[9],[8],[7],[6],[5],[4],[3],[2],[1],[0]]) <| .sel [0,28,29,30] <| .cl 2000030 [(false,[1]),(false,[0])] [(false,[none],true),(false,[some (48,0)],true)] <| .po (.bin .add false 4 1) <| .po (.k (.int .i64 1)) <| .po (.bin .sub false 7 0) <| .jump 0 [0,2,3]) <| .po (.sc 3) <| .ret [(false,[2]),(false,[3])]
def u_spec_l15Source_u : UP:=.po (.k (.string ⟨#[]⟩)) <| .po (.k (.string ⟨#[]⟩)) <| .po (.k (.int .i64 8)) <| .cl 2000029 [(false,[3]),(false,[0])] [(false,[none],true),(false,[some (48,0)],true)] <| .po (.k (.int .i64 1)) <| .po (.bin .add false 0 2) <| .sel [0,2,5] <| .loop [0,2,1] u_spec_l15Source_l0
theorem u_spec_l15Source_g : toUPcf Try.prog 12 Try.f12 owA u_spec_l15Source_h u_spec_l15Source_d 48 = some ([],u_spec_l15Source_u):=by kernel_rfl
def u_spec_l1Spoil_h : List Hint:=[]
def u_spec_l1Spoil_d : List (Nat × Nat × Bool × List Nat):=[(9,9,false,[]),(8,9,false,[]),(6,9,false,[1000000,0,1,2,3,4,7,8,9,10,5,6,11,12,1000000,0,1,2,5,6,7,8])]
def u_spec_l1Spoil_u : UP:=.po (.k (.string ⟨#[]⟩)) <| .po (.k (.string ⟨#[]⟩)) <| .po (.bin .eql false 2 0) <| .ite 0 (.po (.k (.string ⟨#[120]⟩)) <| .po (.sc 0) <| .ret [(false,[5]),(false,[0])]) <| .po (.lenS 3) <| .cl 2000029 [(false,[5]),(false,[0])] [(false,[none],true),(false,[some (48,0)],true)] <| .po (.k (.int .i64 3)) <| .sel [0,1,2,7] <| .cl 2000029 [(false,[1]),(false,[0])] [(false,[none],true),(false,[some (48,0)],true)] <| .po (.k (.int .i64 0)) <| .po (.bin .eql false 2 0) <| .ite 0 (.po (.cutS 7 none (some 6)) <| .po (.sc 0) <| .po (.k (.string ⟨#[32]⟩)) <| .po (.k (.string ⟨#[40]⟩)) <| .po (.k (.string ⟨#[48]⟩)) <| .po (.k (.string ⟨#[34]⟩)) <| .po (.k (.string ⟨#[120]⟩)) <| .po (.k (.string ⟨#[10]⟩)) <| .po (.k (.string ⟨#[44]⟩)) <| .po (.k (.string ⟨#[45]⟩)) <| .po (.k (.string ⟨#[58]⟩)) <| .po (.k (.string ⟨#[255]⟩)) <| .po (.k (.string ⟨#[32]⟩)) <| .po (.k (.string ⟨#[40]⟩)) <| .po (.k (.string ⟨#[48]⟩)) <| .po (.k (.string ⟨#[34]⟩)) <| .po (.k (.string ⟨#[120]⟩)) <| .po (.k (.string ⟨#[10]⟩)) <| .po (.k (.string ⟨#[44]⟩)) <| .po (.k (.string ⟨#[45]⟩)) <| .po (.k (.string ⟨#[58]⟩)) <| .po (.k (.string ⟨#[255]⟩)) <| .po (.mk 9 1 [[19],[18],[17],[16],[15],[14],[13],[12],[11],[10]]) <| .po (.k (.int .i64 1)) <| .po (.bin .add false 29 0) <| .po (.sc 0) <| .po (.cutS 31 (some 0) none) <| .po (.sc 0) <| .po (.sc 13) <| .po (.sc 12) <| .po (.sc 11) <| .po (.sc 10) <| .po (.sc 9) <| .po (.sc 8) <| .po (.sc 7) <| .po (.sc 6) <| .po (.sc 5) <| .po (.sc 4) <| .po (.mk 9 1 [[13],[12],[11],[10],[9],[8],[7],[6],[5],[4]]) <| .sel [0,1,25,28] <| .cl 2000030 [(false,[3]),(false,[0])] [(false,[none],true),(false,[some (48,0)],true)] <| .po (.bin .add false 4 1) <| .po (.bin .add false 0 4) <| .po (.sc 0) <| .ret [(false,[2]),(false,[0])]) <| .po (.k (.int .i64 1)) <| .po (.bin .eql false 4 0) <| .ite 0 (.po (.cutS 9 none (some 8)) <| .po (.sc 0) <| .po (.k (.int .i64 1)) <| .po (.bin .add false 10 0) <| .po (.sc 0) <| .po (.cutS 12 (some 0) none) <| .po (.sc 0) <| .po (.bin .add false 3 0) <| .po (.sc 0) <| .po (.sc 0) <| .po (.sc 0) <| .ret [(false,[9]),(false,[0])]) <| .po (.k (.int .i64 1)) <| .po (.bin .add false 9 0) <| .po (.sc 0) <| .po (.cutS 11 none (some 0)) <| .po (.sc 0) <| .po (.cutS 12 (some 11) none) <| .po (.sc 0) <| .po (.bin .add false 1 0) <| .po (.sc 0) <| .po (.sc 0) <| .po (.sc 0) <| .ret [(false,[9]),(false,[0])]
theorem u_spec_l1Spoil_g : toUPcf Try.prog 14 Try.f14 owA u_spec_l1Spoil_h u_spec_l1Spoil_d 48 = some ([(false,1)],u_spec_l1Spoil_u):=by kernel_rfl
def u_spec_l1Below_h : List Hint:=[]
def u_spec_l1Below_d : List (Nat × Nat × Bool × List Nat):=[]
def u_spec_l1Below_u : UP:=.po (.k (.int .i64 0)) <| .po (.k (.int .i64 0)) <| .po (.bin .leq false 2 0) <| .ite 0 (.po (.k (.int .i64 0)) <| .po (.sc 0) <| .ret [(false,[5]),(false,[0])]) <| .po (.k (.int .i64 256)) <| .po (.bin .leq false 4 0) <| .ite 0 (.sel [5,6] <| .cl 2000054 [(false,[1])] [(false,[none],true),(false,[some (48,0)],true)] <| .po (.bin .rem false 1 2) <| .po (.sc 0) <| .ret [(false,[1]),(false,[0])]) <| .sel [5,6] <| .cl 2000054 [(false,[1])] [(false,[none],true),(false,[some (48,0)],true)] <| .cl 2000054 [(false,[0])] [(false,[none],true),(false,[some (48,0)],true)] <| .cl 2000054 [(false,[0])] [(false,[none],true),(false,[some (48,0)],true)] <| .cl 2000054 [(false,[0])] [(false,[none],true),(false,[some (48,0)],true)] <| .po (.k (.int .i64 16777216)) <| .po (.bin .mul false 8 0) <| .po (.k (.int .i64 65536)) <| .po (.bin .mul false 8 0) <| .po (.bin .add false 2 0) <| .po (.k (.int .i64 256)) <| .po (.bin .mul false 9 0) <| .po (.bin .add false 2 0) <| .po (.bin .add false 0 9) <| .po (.bin .rem false 0 17) <| .po (.sc 0) <| .ret [(false,[10]),(false,[0])]
theorem u_spec_l1Below_g : toUPcf Try.prog 29 Try.f29 owA u_spec_l1Below_h u_spec_l1Below_d 48 = some ([(false,1)],u_spec_l1Below_u):=by kernel_rfl
def u_spec_l1Byte_h : List Hint:=[]
def u_spec_l1Byte_d : List (Nat × Nat × Bool × List Nat):=[(4,14,false,[]),(3,10,false,[]),(2,13,false,[])]
def u_spec_l1Byte_u : UP:=.po (.k (.int .i64 0)) <| .po (.unc 1 3) <| .po (.k (.int .i64 6364136223846793005)) <| .po (.bin .mul false 1 0) <| .po (.k (.int .i64 1442695040888963407)) <| .po (.bin .add false 1 0) <| .po (.cuS 8 2 0) <| .po (.unc 0 3) <| .po (.sc 0) <| .po (.k (.int .u64 33)) <| .po (.bin .shr false 1 0) <| .po (.sc 0) <| .po (.unc 5 3) <| .po (.sc 0) <| .po (.k (.int .u64 45)) <| .po (.bin .shr false 1 0) <| .po (.sc 0) <| .po (.bin .xor false 5 0) <| .po (.sc 0) <| .po (.k (.int .i64 255)) <| .po (.bin .and false 1 0) <| .po (.sc 0) <| .po (.sc 0) <| .po (.unc 13 3) <| .po (.sc 1) <| .po (.unc 16 3) <| .po (.lenL 2) <| .po (.sc 0) <| .po (.bin .lss false 5 0) <| .po (.sc 0) <| .ite 0 (.po (.unc 21 3) <| .po (.unc 24 3) <| .po (.sc 1) <| .po (.isI 1) <| .po (.idx 1 5 1) <| .po (.sc 0) <| .po (.cvI .i64 0) <| .po (.sc 0) <| .po (.bin .add false 16 0) <| .po (.sc 0) <| .po (.k (.int .i64 255)) <| .po (.bin .and false 1 0) <| .po (.sc 0) <| .po (.unc 32 3) <| .po (.k (.int .i64 1)) <| .po (.bin .add false 2 0) <| .po (.cuS 37 1 0) <| .po (.sc 6) <| .ret [(false,[0]),(false,[6])]) <| .po (.sc 8) <| .ret [(false,[21]),(false,[8])]
theorem u_spec_l1Byte_g : toUPcf Try.prog 54 Try.f54 owA u_spec_l1Byte_h u_spec_l1Byte_d 48 = some ([],u_spec_l1Byte_u):=by kernel_rfl
def u_spec_l1New_h : List Hint:=[⟨3000003,2,⟨[(4,.p false [.d 5]),(3,.p false [.d 6]),(0,.p false [.d 0])],[],0,0,7,[]⟩,[]⟩]
def u_spec_l1New_d : List (Nat × Nat × Bool × List Nat):=[]
def u_spec_l1New_l0 : UP:=.po (.lenL 6) <| .po (.bin .lss false 2 0) <| .ite 0 (.po (.k (.int .i64 4000)) <| .po (.bin .lss false 4 0) <| .ite 0 (.po (.k (.int .i64 131)) <| .po (.bin .mul false 5 0) <| .po (.isI 7) <| .po (.idx 1 12 7) <| .po (.cvI .i64 0) <| .po (.bin .add false 2 0) <| .po (.k (.int .i64 7)) <| .po (.bin .add false 1 0) <| .po (.k (.int .i64 1073741823)) <| .po (.bin .and false 1 0) <| .po (.k (.int .i64 1)) <| .po (.bin .add false 15 0) <| .jump 0 [0,2]) <| .po (.k (.int .i64 0)) <| .po (.k (.int .i64 0)) <| .ret [(false,[12,1,6])]) <| .po (.k (.bool false)) <| .po (.k (.int .i64 0)) <| .po (.k (.int .i64 0)) <| .ret [(false,[11,1,5])]
def u_spec_l1New_u : UP:=.po (.lenL 0) <| .po (.k (.int .i64 10101)) <| .po (.bin .add false 0 1) <| .po (.k (.int .i64 0)) <| .loop [0,1] u_spec_l1New_l0
theorem u_spec_l1New_g : toUPnf Try.prog 11 Try.f11 owA u_spec_l1New_h u_spec_l1New_d 48 = some ([(false,1)],u_spec_l1New_u):=by kernel_rfl
def u_spec_l1Once_h : List Hint:=[]
def u_spec_l1Once_d : List (Nat × Nat × Bool × List Nat):=[]
def u_spec_l1Once_u : UP:=.po (.k (.bool false)) <| .cl 2000029 [(false,[2]),(false,[1])] [(false,[none],true),(false,[some (48,0)],true)] <| .po (.k (.int .i64 0)) <| .po (.bin .eql false 2 0) <| .po (.sc 0) <| .ret [(false,[2]),(false,[0])]
theorem u_spec_l1Once_g : toUPcf Try.prog 13 Try.f13 owA u_spec_l1Once_h u_spec_l1Once_d 48 = some ([(false,1)],u_spec_l1Once_u):=by kernel_rfl
def u_spec_l1Pick_h : List Hint:=[]
def u_spec_l1Pick_d : List (Nat × Nat × Bool × List Nat):=[]
def u_spec_l1Pick_u : UP:=.po (.k (.string ⟨#[]⟩)) <| .po (.lenL 1) <| .cl 2000029 [(false,[3]),(false,[0])] [(false,[none],true),(false,[some (48,0)],true)] <| .po (.isI 1) <| .po (.idx 1 4 1) <| .po (.sc 0) <| .ret [(false,[1]),(false,[0])]
theorem u_spec_l1Pick_g : toUPcf Try.prog 30 Try.f30 owA u_spec_l1Pick_h u_spec_l1Pick_d 48 = some ([(false,1)],u_spec_l1Pick_u):=by kernel_rfl
def encU8 (n : Int) : List DV:=[.sc (.int .u8 n)]
def encU8s (l : List Int) : DV:=.sl 5 1 (l.map encU8)
theorem ix_u8 {t : Nat} {l : List Int} {kd : IntKind} {z : Int} (h : 0≤z) (h1 : z < l.length) : eIdx 1 (some (.sl t 1 (l.map encU8))) (some (.sc (.int kd z))) = some [.sc (.int .u8 (l.getD z.toNat default))]:=e_idx_map (fun _=>rfl) h h1
theorem getD_memC {α : Type} [Inhabited α] {l : List α} {i : Nat} (h : i < l.length) : l.getD i default ∈ l:=by
  rw [List.getD_eq_getElem?_getD,List.getElem?_eq_getElem h];exact List.getElem_mem h
structure Cu where
  i : Int
  h : Int
def Cu.cs (c : Cu) : List DV:=[.sc (.int .i64 c.i),.sc (.int .i64 c.h)]
theorem flat_cs (c : Cu) : Flat c.cs:=by intro x hx;simp only [Cu.cs,List.mem_cons,List.not_mem_nil,or_false] at hx;rcases hx with rfl | rfl <;> exact ⟨_,rfl⟩
def xorI (a b : Int) : Int:=IntKind.i64.wrap ((BitVec.ofInt 64 a ^^^ BitVec.ofInt 64 b).toNat : Nat)
def andI (a b : Int) : Int:=IntKind.i64.wrap ((BitVec.ofInt 64 a &&& BitVec.ofInt 64 b).toNat : Nat)
theorem e_xor {c : Bool} {a b : Int} : eBin .xor c (some (.sc (.int .i64 a))) (some (.sc (.int .i64 b))) = some [.sc (.int .i64 (xorI a b))]:=by simp only [eBin,binG,intF,if_true,sc1,xorI];rfl
theorem e_andX {c : Bool} {a b : Int} : eBin .and c (some (.sc (.int .i64 a))) (some (.sc (.int .i64 b))) = some [.sc (.int .i64 (andI a b))]:=by simp only [eBin,binG,intF,if_true,sc1,andI];rfl
theorem e_shrX {c : Bool} {k : IntKind} {a : Int} {b : Nat} (hb : b≤64) : eBin .shr c (some (.sc (.int .i64 a))) (some (.sc (.int k (b : Int)))) = some [.sc (.int .i64 (a.fdiv (2 ^ b)))]:=by
  have h1 : ¬ (b : Int) < 0:=by omega
  simp only [eBin,binG,intF,if_neg h1,sc1,IntKind.bits,Int.toNat_natCast,Nat.min_eq_left hb]
theorem andI_rng (a : Int) : 0≤andI a 255∧andI a 255≤255:=by
  unfold andI
  have h : (BitVec.ofInt 64 a &&& BitVec.ofInt 64 255).toNat≤255:=by
    rw [BitVec.toNat_and]
    exact Nat.and_le_right
  generalize (BitVec.ofInt 64 a &&& BitVec.ofInt 64 255).toNat = n at h
  simp only [IntKind.wrap,IntKind.bits,IntKind.signed]
  simp
  omega
def hashF (h : Int) : Int:=IntKind.i64.wrap (IntKind.i64.wrap (h * 6364136223846793005) + 1442695040888963407)
def mixF (h : Int) : Int:=andI (xorI (h.fdiv (2 ^ 33)) (h.fdiv (2 ^ 45))) 255
def byteV (l : List Int) (c : Cu) : Int:=if c.i < l.length then andI (IntKind.i64.wrap (mixF (hashF c.h) + IntKind.i64.wrap (l.getD c.i.toNat default))) 255 else mixF (hashF c.h)
def byteC (l : List Int) (c : Cu) : Cu:=⟨if c.i < l.length then c.i + 1 else c.i,hashF c.h⟩
theorem byteV_rng (l : List Int) (c : Cu) : 0≤byteV l c∧byteV l c≤255:=by
  unfold byteV
  split
  · exact andI_rng _
  · exact andI_rng _
theorem byteC_pos {l : List Int} {c : Cu} (h : 0≤c.i) : 0≤(byteC l c).i:=by
  unfold byteC;simp only;split <;> omega
theorem e_unc3 {ty : Nat} {x a b : DV} : eUnc 3 (some (cvD ty x [a,b])) = some [x,a,b]:=rfl
theorem e_cuS2 {ty : Nat} {x a b : DV} {kd : IntKind} {n : Int} : eCuS 2 (some (cvD ty x [a,b])) (some (.sc (.int kd n))) = some [cvD ty x [a,.sc (.int kd n)]]:=e_cuS (off:=1) rfl (by simp)
theorem e_cuS1 {ty : Nat} {x a b : DV} {kd : IntKind} {n : Int} : eCuS 1 (some (cvD ty x [a,b])) (some (.sc (.int kd n))) = some [cvD ty x [.sc (.int kd n),b]]:=e_cuS (off:=0) rfl (by simp)
theorem byte_c (l : List Int) (c : Cu) (hc : 0≤c.i) (hl : l.length≤4611686018427387904) : MeetsC Try.prog 54 48 (encU8s l) c.cs [] [(false,[.sc (.int .i64 (byteV l c))],true)] (byteC l c).cs:=by
  obtain ⟨i,h⟩:=c
  simp only at hc
  have s33:=fun a : Int=>@e_shrX false .u64 a 33 (by decide)
  have s45:=fun a : Int=>@e_shrX false .u64 a 45 (by decide)
  have k1 : ∀ n : Int,isSc (.int .i64 n) = true:=fun _=>rfl
  refine meets_upcf Try.func54 u_spec_l1Byte_g rfl (by simp) ?_;simp only [u_spec_l1Byte_u]
  simp only [Cu.cs,encU8s]
  by_cases hi : i < l.length
  · have hbv : byteV l ⟨i,h⟩ = andI (IntKind.i64.wrap (mixF (hashF h) + IntKind.i64.wrap (l.getD i.toNat default))) 255:=by unfold byteV;rw [if_pos hi]
    have hbc : (byteC l ⟨i,h⟩).i = i + 1:=by unfold byteC;rw [if_pos hi]
    have hbh : (byteC l ⟨i,h⟩).h = hashF h:=rfl
    rw [hbv,hbc,hbh]
    unfold mixF hashF
    simp (disch:=first | omega) only [go_sem,↓reduceIte,Nat.reduceAdd,reduceNeg,Int.reduceAdd,reduceSub,reduceMul,reduceLT,reduceLE,reduceEq,reduceToNat,Nat.reduceBEq,e_unc3,e_cuS2,e_cuS1,s33,s45,e_xor,e_andX,ix_u8]
    refine br_if (fun hbr=>?_) (fun hbr=>absurd (by simpa only [List.length_map] using hi) hbr)
    simp (disch:=first | omega) only [go_sem,↓reduceIte,Nat.reduceAdd,reduceNeg,Int.reduceAdd,reduceSub,reduceMul,reduceLT,reduceLE,reduceEq,reduceToNat,Nat.reduceBEq,e_unc3,e_cuS2,e_cuS1,s33,s45,e_xor,e_andX,ix_u8]
    unfold andI xorI
    exact ⟨_,_,rfl,rfl⟩
  · have hbv : byteV l ⟨i,h⟩ = mixF (hashF h):=by unfold byteV;rw [if_neg hi]
    have hbc : (byteC l ⟨i,h⟩).i = i:=by unfold byteC;rw [if_neg hi]
    have hbh : (byteC l ⟨i,h⟩).h = hashF h:=rfl
    rw [hbv,hbc,hbh]
    unfold mixF hashF
    simp (disch:=first | omega) only [go_sem,↓reduceIte,Nat.reduceAdd,reduceNeg,Int.reduceAdd,reduceSub,reduceMul,reduceLT,reduceLE,reduceEq,reduceToNat,Nat.reduceBEq,e_unc3,e_cuS2,e_cuS1,s33,s45,e_xor,e_andX,ix_u8]
    refine br_if (fun hbr=>absurd (by simpa only [List.length_map] using hbr) hi) (fun hbr=>?_)
    simp (disch:=first | omega) only [go_sem,↓reduceIte,Nat.reduceAdd,reduceNeg,Int.reduceAdd,reduceSub,reduceMul,reduceLT,reduceLE,reduceEq,reduceToNat,Nat.reduceBEq,e_unc3,e_cuS2,e_cuS1,s33,s45,e_xor,e_andX,ix_u8]
    unfold andI xorI
    exact ⟨_,_,rfl,rfl⟩
def newH (l : List Int) : Nat→Int
  | 0=>10101 + l.length
  | i + 1=>andI (IntKind.i64.wrap (IntKind.i64.wrap (IntKind.i64.wrap (newH l i * 131) + IntKind.i64.wrap (l.getD i default)) + 7)) 1073741823
def newC (l : List Int) : Cu:=⟨0,newH l (min l.length 4000)⟩
theorem new_m (l : List Int) (hl : l.length≤4611686018427387904) : MeetsN Try.prog 11 [(false,[encU8s l])] 48 (encU8s l) (newC l).cs:=by
  refine meets_upnf Try.func11 u_spec_l1New_g rfl (flat_cs _) ?_;simp only [u_spec_l1New_u]
  simp only [encU8s,newC,Cu.cs]
  simp (disch:=first | omega | (simp only [lnA];omega) | simp only [lnB,Nat.reduceAdd]) only [go_sem,↓reduceIte,Nat.reduceAdd,reduceNeg,Int.reduceAdd,reduceSub,reduceMul,reduceLT,reduceLE,reduceEq,reduceToNat,Nat.reduceBEq,true_and]
  refine lp_n (min l.length 4000) (fun i=>[.sc (.int .i64 i),.sc (.int .i64 (newH l i))]) rfl fun i hi=>?_
  simp only [u_spec_l1New_l0]
  repeat' (first | (with_reducible first | refine jn_in ?_ | refine cl_ok (by assumption) rfl ?_ | refine cl_okP (by assumption) rfl ?_ | refine br_x (fun hbr=>?_) fun hbr=>?_) | simp (disch:=first | omega | (simp only [lnA];omega) | simp only [lnB,Nat.reduceAdd]) only [go_sem,↓reduceIte,Nat.reduceAdd,reduceNeg,Int.reduceAdd,reduceSub,reduceMul,reduceLT,reduceLE,reduceEq,reduceToNat,Nat.reduceBEq,ix_u8,nat1,e_andX])
  · exact ⟨rfl,by omega⟩
  · obtain rfl : i = min l.length 4000:=by omega
    rfl
  · obtain rfl : i = min l.length 4000:=by omega
    rfl
def belowV (l : List Int) (c : Cu) (n : Int) : Int :=
  if n≤0 then 0 else if n≤256 then (byteV l c).tmod n else
  let c1:=byteC l c
  let c2:=byteC l c1
  let c3:=byteC l c2
  (IntKind.i64.wrap (IntKind.i64.wrap (IntKind.i64.wrap (IntKind.i64.wrap (byteV l c * 16777216) + IntKind.i64.wrap (byteV l c1 * 65536)) + IntKind.i64.wrap (byteV l c2 * 256)) + byteV l c3)).tmod n
def belowC (l : List Int) (c : Cu) (n : Int) : Cu:=if n≤0 then c else if n≤256 then byteC l c else byteC l (byteC l (byteC l (byteC l c)))
theorem below_m (l : List Int) (c : Cu) (n : Int) (hc : 0≤c.i) (hl : l.length≤4611686018427387904) (hn : n≤4611686018427387904) : MeetsC Try.prog 29 48 (encU8s l) c.cs [(false,[.sc (.int .i64 n)])] [(false,[.sc (.int .i64 (belowV l c n))],true)] (belowC l c n).cs:=by
  have b1:=byte_c l c hc hl
  have b2:=byte_c l (byteC l c) (byteC_pos hc) hl
  have b3:=byte_c l (byteC l (byteC l c)) (byteC_pos (byteC_pos hc)) hl
  have b4:=byte_c l (byteC l (byteC l (byteC l c))) (byteC_pos (byteC_pos (byteC_pos hc))) hl
  refine meets_upcf Try.func29 u_spec_l1Below_g rfl (by simp) ?_;simp only [u_spec_l1Below_u]
  simp (disch:=first | omega | (simp only [lnA];omega) | simp only [lnB,Nat.reduceAdd]) only [go_sem,↓reduceIte,Nat.reduceAdd,reduceNeg,Int.reduceAdd,reduceSub,reduceMul,reduceLT,reduceLE,reduceEq,reduceToNat,Nat.reduceBEq,true_and]
  refine br_if (fun hbr=>?_) (fun hbr=>?_)
  · simp (disch:=first | omega | (simp only [lnA];omega) | simp only [lnB,Nat.reduceAdd]) only [go_sem,↓reduceIte,Nat.reduceAdd,reduceNeg,Int.reduceAdd,reduceSub,reduceMul,reduceLT,reduceLE,reduceEq,reduceToNat,Nat.reduceBEq,true_and]
    rw [belowV,belowC,if_pos hbr,if_pos hbr]
    exact ⟨_,_,rfl,rfl⟩
  · simp (disch:=first | omega | (simp only [lnA];omega) | simp only [lnB,Nat.reduceAdd]) only [go_sem,↓reduceIte,Nat.reduceAdd,reduceNeg,Int.reduceAdd,reduceSub,reduceMul,reduceLT,reduceLE,reduceEq,reduceToNat,Nat.reduceBEq,true_and]
    rw [belowV,belowC,if_neg hbr,if_neg hbr]
    refine br_if (fun hb2=>?_) (fun hb2=>?_)
    · rw [if_pos hb2,if_pos hb2]
      simp (disch:=first | omega | (simp only [lnA];omega) | simp only [lnB,Nat.reduceAdd]) only [go_sem,↓reduceIte,Nat.reduceAdd,reduceNeg,Int.reduceAdd,reduceSub,reduceMul,reduceLT,reduceLE,reduceEq,reduceToNat,Nat.reduceBEq,true_and]
      refine cl_okC b1 rfl ?_
      simp (disch:=first | omega | (simp only [lnA];omega) | simp only [lnB,Nat.reduceAdd]) only [go_sem,↓reduceIte,Nat.reduceAdd,reduceNeg,Int.reduceAdd,reduceSub,reduceMul,reduceLT,reduceLE,reduceEq,reduceToNat,Nat.reduceBEq,true_and]
      exact ⟨_,_,rfl,rfl⟩
    · rw [if_neg hb2,if_neg hb2]
      simp (disch:=first | omega | (simp only [lnA];omega) | simp only [lnB,Nat.reduceAdd]) only [go_sem,↓reduceIte,Nat.reduceAdd,reduceNeg,Int.reduceAdd,reduceSub,reduceMul,reduceLT,reduceLE,reduceEq,reduceToNat,Nat.reduceBEq,true_and]
      refine cl_okC b1 rfl ?_
      simp (disch:=first | omega | (simp only [lnA];omega) | simp only [lnB,Nat.reduceAdd]) only [go_sem,↓reduceIte,Nat.reduceAdd,reduceNeg,Int.reduceAdd,reduceSub,reduceMul,reduceLT,reduceLE,reduceEq,reduceToNat,Nat.reduceBEq,true_and]
      refine cl_okC b2 rfl ?_
      simp (disch:=first | omega | (simp only [lnA];omega) | simp only [lnB,Nat.reduceAdd]) only [go_sem,↓reduceIte,Nat.reduceAdd,reduceNeg,Int.reduceAdd,reduceSub,reduceMul,reduceLT,reduceLE,reduceEq,reduceToNat,Nat.reduceBEq,true_and]
      refine cl_okC b3 rfl ?_
      simp (disch:=first | omega | (simp only [lnA];omega) | simp only [lnB,Nat.reduceAdd]) only [go_sem,↓reduceIte,Nat.reduceAdd,reduceNeg,Int.reduceAdd,reduceSub,reduceMul,reduceLT,reduceLE,reduceEq,reduceToNat,Nat.reduceBEq,true_and]
      refine cl_okC b4 rfl ?_
      simp (disch:=first | omega | (simp only [lnA];omega) | simp only [lnB,Nat.reduceAdd]) only [go_sem,↓reduceIte,Nat.reduceAdd,reduceNeg,Int.reduceAdd,reduceSub,reduceMul,reduceLT,reduceLE,reduceEq,reduceToNat,Nat.reduceBEq,true_and]
      exact ⟨_,_,rfl,rfl⟩
theorem belowV_rng (l : List Int) (c : Cu) {n : Int} (hn : 0 < n) : 0≤belowV l c n∧belowV l c n < n:=by
  have b1:=byteV_rng l c
  have b2:=byteV_rng l (byteC l c)
  have b3:=byteV_rng l (byteC l (byteC l c))
  have b4:=byteV_rng l (byteC l (byteC l (byteC l c)))
  have key : ∀ x : Int,0≤x→0≤x.tmod n∧x.tmod n < n:=fun x hx=>⟨Int.tmod_nonneg n hx,Int.tmod_lt_of_pos x hn⟩
  unfold belowV
  rw [if_neg (by omega)]
  split
  · exact key _ b1.1
  · refine key _ ?_
    rw [wrap_id (z:=byteV l c * 16777216) (by omega) (by omega),wrap_id (z:=byteV l (byteC l c) * 65536) (by omega) (by omega),wrap_id (z:=byteV l (byteC l (byteC l c)) * 256) (by omega) (by omega),wrap_id (z:=_ + byteV l (byteC l c) * 65536) (by omega) (by omega),wrap_id (z:=_ + byteV l (byteC l (byteC l c)) * 256) (by omega) (by omega)]
    first | omega | (rw [wrap_id (by omega) (by omega)];omega)
theorem belowC_pos {l : List Int} {c : Cu} {n : Int} (h : 0≤c.i) : 0≤(belowC l c n).i:=by
  unfold belowC
  split
  · exact h
  · split
    · exact byteC_pos h
    · exact byteC_pos (byteC_pos (byteC_pos (byteC_pos h)))
theorem once_m (l : List Int) (c : Cu) (n : Int) (hc : 0≤c.i) (hl : l.length≤4611686018427387904) (hn : n≤4611686018427387904) : MeetsC Try.prog 13 48 (encU8s l) c.cs [(false,[.sc (.int .i64 n)])] [(false,[.sc (.bool (decide (belowV l c n = 0)))],true)] (belowC l c n).cs:=by
  have b1:=below_m l c n hc hl hn
  refine meets_upcf Try.func13 u_spec_l1Once_g rfl (by simp) ?_;simp only [u_spec_l1Once_u]
  simp (disch:=first | omega | (simp only [lnA];omega) | simp only [lnB,Nat.reduceAdd]) only [go_sem,↓reduceIte,Nat.reduceAdd,reduceNeg,Int.reduceAdd,reduceSub,reduceMul,reduceLT,reduceLE,reduceEq,reduceToNat,Nat.reduceBEq,true_and]
  refine cl_okC b1 rfl ?_
  simp (disch:=first | omega | (simp only [lnA];omega) | simp only [lnB,Nat.reduceAdd]) only [go_sem,↓reduceIte,Nat.reduceAdd,reduceNeg,Int.reduceAdd,reduceSub,reduceMul,reduceLT,reduceLE,reduceEq,reduceToNat,Nat.reduceBEq,true_and]
  exact ⟨_,_,rfl,rfl⟩
theorem pick_m (t : Nat) (l : List Int) (c : Cu) (p : List ByteArray) (hc : 0≤c.i) (hl : l.length≤4611686018427387904) (h0 : p ≠ []) (hp : p.length≤1000000) : MeetsC Try.prog 30 48 (encU8s l) c.cs [(false,[.sl t 1 (p.map encS)])] [(false,[.sc (.string (p.getD (belowV l c p.length).toNat default))],true)] (belowC l c p.length).cs:=by
  have b1:=below_m l c p.length hc hl (by omega)
  have hr:=belowV_rng l c (n:=p.length) (by have:=List.length_pos_iff.2 h0;omega)
  refine meets_upcf Try.func30 u_spec_l1Pick_g rfl (by simp) ?_;simp only [u_spec_l1Pick_u]
  simp (disch:=first | omega | (simp only [lnA];omega) | simp only [lnB,Nat.reduceAdd]) only [go_sem,↓reduceIte,Nat.reduceAdd,reduceNeg,Int.reduceAdd,reduceSub,reduceMul,reduceLT,reduceLE,reduceEq,reduceToNat,Nat.reduceBEq,true_and]
  refine cl_okC b1 rfl ?_
  simp (disch:=first | omega | (simp only [lnA];omega) | simp only [lnB,Nat.reduceAdd]) only [go_sem,↓reduceIte,Nat.reduceAdd,reduceNeg,Int.reduceAdd,reduceSub,reduceMul,reduceLT,reduceLE,reduceEq,reduceToNat,Nat.reduceBEq,ix_s]
  exact ⟨_,_,rfl,rfl⟩
theorem bel_e (l : List Int) (c : Cu) (n : Int) (hc : 0≤c.i) (hl : l.length≤1048576) (h0 : 0 < n) (hn : n≤4611686018427387904) : ∃ (v : Int) (c' : Cu),(0≤v∧v < n)∧0≤c'.i∧MeetsC Try.prog 29 48 (encU8s l) c.cs [(false,[.sc (.int .i64 n)])] [(false,[.sc (.int .i64 v)],true)] c'.cs :=
  ⟨_,_,belowV_rng l c h0,belowC_pos hc,below_m l c n hc (by omega) hn⟩
theorem new_e (l : List Int) (hl : l.length≤1048576) : ∃ c' : Cu,0≤c'.i∧MeetsN Try.prog 11 [(false,[encU8s l])] 48 (encU8s l) c'.cs:=⟨newC l,Int.le_refl 0,new_m l (by omega)⟩
theorem onc_e (l : List Int) (c : Cu) (n : Int) (hc : 0≤c.i) (hl : l.length≤1048576) (hn : n≤4611686018427387904) : ∃ (b : Bool) (c' : Cu),0≤c'.i∧MeetsC Try.prog 13 48 (encU8s l) c.cs [(false,[.sc (.int .i64 n)])] [(false,[.sc (.bool b)],true)] c'.cs :=
  ⟨_,_,belowC_pos hc,once_m l c n hc (by omega) hn⟩
theorem pks_e (t : Nat) (l : List Int) (c : Cu) (p : List ByteArray) (hc : 0≤c.i) (hl : l.length≤1048576) (h0 : p ≠ []) (hp : p.length≤1000000) : ∃ (v : ByteArray) (c' : Cu),v ∈ p∧0≤c'.i∧MeetsC Try.prog 30 48 (encU8s l) c.cs [(false,[.sl t 1 (p.map encS)])] [(false,[.sc (.string v)],true)] c'.cs :=
  ⟨_,_,getD_memC (by have hr:=belowV_rng l c (n:=p.length) (by have:=List.length_pos_iff.2 h0;omega);omega),belowC_pos hc,pick_m t l c p hc (by omega) h0 hp⟩
def wfU : UP→List Nat→Bool
  | .po _ k,A=>wfU k A
  | .cl _ _ _ k,A=>wfU k A
  | .mk _ _ _ _ k,A=>wfU k A
  | .ite _ a b,A=>wfU a A && wfU b A
  | .jump l xs,A=>decide (A[l]? = some xs.length)
  | .join n rest k,A=>wfU rest A && wfU k (A ++ [n])
  | .loop xs body,A=>wfU body (A ++ [xs.length])
  | .ret _,A=>true
  | .sel _ k,A=>wfU k A
section
variable {P : Program}
abbrev OutU:=Sum (List (Bool × List DV)) (Nat × List DV)
def lbU (o : OutU) (n : Nat) : Lbl:=(List.range n).map fun l vs=>o = .inr (l,vs)
theorem lbU_succ {o : OutU} {n : Nat} : lbU o (n + 1) = lbU o n ++ [fun vs=>o = .inr (n,vs)]:=by unfold lbU;rw [List.range_succ,List.map_append];rfl
theorem lbU_get {o : OutU} {n l : Nat} (h : l < n) : (lbU o n)[l]? = some fun vs=>o = .inr (l,vs):=by unfold lbU;rw [List.getElem?_map,List.getElem?_range h];rfl
theorem lbU_len {o : OutU} {n : Nat} : (lbU o n).length = n:=by simp [lbU]
theorem lbU_last {o : OutU} {n : Nat} {J : List DV→Prop} : (lbU o n ++ [J])[n]? = some J:=by have:=List.getElem?_concat_length (l:=lbU o n) (a:=J);rwa [lbU_len] at this
theorem v_monoR : ∀ (up : UP) {R R' : List (Bool × List DV)→Prop} {L L' : Lbl} {ρ : List DV},(∀ r,R r→R' r)→LLe L L'→L.length = L'.length→V P R up L ρ→V P R' up L' ρ:=by
  intro up
  induction up with
  | po o k ih=>intro R R' L L' ρ hR h hl hv;rw [v_po] at hv ⊢;cases he : evalP ρ o with
    | none=>rw [he] at hv;exact hv
    | some out=>rw [he] at hv;exact ih hR h hl hv
  | cl f ar sh k ih=>intro R R' L L' ρ hR h hl hv;obtain ⟨ys,res,h1,h2,h3,h4⟩:=hv;exact ⟨ys,res,h1,h2,h3,ih hR h hl h4⟩
  | mk f b xs j k ih=>intro R R' L L' ρ hR h hl hv;obtain ⟨ds,ds',n,n',h1,h2,h3,h4,h5⟩:=hv;exact ⟨ds,ds',n,n',h1,h2,h3,h4,ih hR h hl h5⟩
  | ite x a b iha ihb =>
    intro R R' L L' ρ hR h hl hv
    simp only [V] at hv ⊢
    split at hv
    · rename_i c hc
      cases c with
      | true=>exact iha hR h hl hv
      | false=>exact ihb hR h hl hv
    · exact hv.elim
  | jump l xs=>intro R R' L L' ρ hR h hl hv;obtain ⟨J,vs,h1,h2,h3⟩:=hv;obtain ⟨J',h4,h5⟩:=h l J h1;exact ⟨J',vs,h4,h2,h5 vs h3⟩
  | join n rest k ihr ihk=>intro R R' L L' ρ hR h hl hv;obtain ⟨J,h1,h2⟩:=hv;exact ⟨J,fun vs a b=>ihr hR h hl (h1 vs a b),ihk hR (h.snoc hl fun _ h=>h) (by simp [hl]) h2⟩
  | loop xs body ih=>intro R R' L L' ρ hR h hl hv;obtain ⟨I,m,vs,h1,h2,h3⟩:=hv;exact ⟨I,m,vs,h1,h2,fun vs m a b=>ih hR (h.snoc hl fun _ h=>h) (by simp [hl]) (h3 vs m a b)⟩
  | ret xs=>intro R R' L L' ρ hR h hl hv;obtain ⟨vs,h1,h2⟩:=hv;exact ⟨vs,h1,hR _ h2⟩
  | sel xs k ih=>intro R R' L L' ρ hR h hl hv;rw [v_sel] at hv ⊢;cases he : gL ρ xs with
    | none=>rw [he] at hv;exact hv
    | some out=>rw [he] at hv;exact ih hR h hl hv
theorem lbU_le {o : OutU} {n : Nat} {L : Lbl} (hl : L.length = n) (h : ∀ l vs,o = .inr (l,vs)→l < n→∃ J,L[l]? = some J∧J vs) : LLe (lbU o n) L:=by
  intro l J hJ
  have hlt : l < n:=by have:=(List.getElem?_eq_some_iff.1 hJ).1;rw [lbU_len] at this;exact this
  rw [lbU_get hlt] at hJ
  injection hJ with hJ
  subst hJ
  cases hL : L[l]? with
  | none=>rw [List.getElem?_eq_none_iff] at hL;omega
  | some J'=>exact ⟨J',rfl,fun vs ho=>by obtain ⟨J2,h1,h2⟩:=h l vs ho hlt;rw [hL] at h1;injection h1 with h1;exact h1 ▸ h2⟩
def okO (R : List (Bool × List DV)→Prop) (L : Lbl) (A : List Nat) : OutU→Prop
  | .inl r=>R r
  | .inr (l,vs)=>A[l]? = some vs.length∧∃ J,L[l]? = some J∧J vs
theorem gL_len : ∀ {ρ : List DV} {xs : List Nat} {vs : List DV},gL ρ xs = some vs→vs.length = xs.length
  | ρ,[],vs,h=>by simp only [gL] at h;injection h with h;subst h;rfl
  | ρ,x :: xs,vs,h=>by
    simp only [gL] at h
    split at h
    · rename_i a b h1 h2
      injection h with h;subst h
      simp only [List.length_cons,gL_len h2]
    · cases h
theorem v_det : ∀ (up : UP) {R : List (Bool × List DV)→Prop} {L : Lbl} {A : List Nat} {ρ : List DV},wfU up A = true→A.length = L.length→V P R up L ρ→∃ o,okO R L A o∧V P (fun r=>o = .inl r) up (lbU o L.length) ρ:=by
  intro up
  induction up with
  | po o k ih =>
    intro R L A ρ hw hA hv
    rw [v_po] at hv
    cases he : evalP ρ o with
    | none=>rw [he] at hv;exact hv.elim
    | some out =>
      rw [he] at hv
      obtain ⟨q,h1,h2⟩:=ih hw hA hv
      exact ⟨q,h1,by rw [v_po,he];exact h2⟩
  | cl f ar sh k ih =>
    intro R L A ρ hw hA hv
    obtain ⟨ys,res,h1,h2,h3,h4⟩:=hv
    obtain ⟨q,g1,g2⟩:=ih hw hA h4
    exact ⟨q,g1,ys,res,h1,h2,h3,g2⟩
  | mk f b xs j k ih =>
    intro R L A ρ hw hA hv
    obtain ⟨ds,ds',n,n',h1,h2,h3,h4,h5⟩:=hv
    obtain ⟨q,g1,g2⟩:=ih hw hA h5
    exact ⟨q,g1,ds,ds',n,n',h1,h2,h3,h4,g2⟩
  | ite x a b iha ihb =>
    intro R L A ρ hw hA hv
    simp only [wfU,Bool.and_eq_true] at hw
    simp only [V] at hv ⊢
    split at hv
    · rename_i c hc
      cases c with
      | true=>exact iha hw.1 hA hv
      | false=>exact ihb hw.2 hA hv
    · exact hv.elim
  | jump l xs =>
    intro R L A ρ hw hA hv
    obtain ⟨J,vs,h1,h2,h3⟩:=hv
    simp only [wfU,decide_eq_true_eq] at hw
    exact ⟨.inr (l,vs),⟨by rw [hw,gL_len h2],J,h1,h3⟩,_,vs,lbU_get (List.getElem?_eq_some_iff.1 h1).1,h2,rfl⟩
  | join n rest k ihr ihk =>
    intro R L A ρ hw hA hv
    simp only [wfU,Bool.and_eq_true] at hw
    obtain ⟨J,h1,h2⟩:=hv
    obtain ⟨o1,g1,g2⟩:=ihk hw.2 (by simp [hA]) h2
    simp only [List.length_append,List.length_singleton] at g2
    have other : (∀ vs,o1 ≠ .inr (L.length,vs))→okO R L A o1→∃ o,okO R L A o∧V P (fun r=>o = .inl r) (.join n rest k) (lbU o L.length) ρ:=fun hne hok =>
      ⟨o1,hok,fun vs=>o1 = .inr (L.length,vs),fun vs _ he=>absurd he (hne vs),by rw [← lbU_succ];exact g2⟩
    cases o1 with
    | inl r=>exact other (fun vs h=>by cases h) g1
    | inr p =>
      obtain ⟨l,vs⟩:=p
      obtain ⟨q1,J',q2,q3⟩:=g1
      have hl : l < L.length + 1:=by have:=(List.getElem?_eq_some_iff.1 q2).1;simpa using this
      rcases Nat.lt_or_ge l L.length with hlt | hge
      · rw [List.getElem?_append_left (by omega)] at q1
        rw [List.getElem?_append_left hlt] at q2
        exact other (fun vs' h=>by injection h with h;injection h with h _;omega) ⟨q1,J',q2,q3⟩
      · obtain rfl : l = L.length:=by omega
        rw [← hA,List.getElem?_concat_length] at q1
        injection q1 with q1
        rw [List.getElem?_concat_length] at q2
        injection q2 with q2
        subst q2
        obtain ⟨o2,p1,p2⟩:=ihr hw.1 hA (h1 vs q1.symm q3)
        refine ⟨o2,p1,(· = vs),fun vs' _ he=>he ▸ p2,v_monoR k (fun r h=>by cases h) (lbU_le (by simp [lbU_len]) fun l' vs' h hlt=>?_) (by simp [lbU_len]) g2⟩
        injection h with h;injection h with h h'
        subst h h'
        exact ⟨_,lbU_last,rfl⟩
  | loop xs body ih =>
    intro R L A ρ hw hA hv
    simp only [wfU] at hw
    obtain ⟨I,m,vs,h1,h2,h3⟩:=hv
    have key : ∀ m vs,vs.length = xs.length→I vs m→∃ o,okO R L A o∧∃ I' : List DV→Nat→Prop,I' vs m∧∀ vs' m',vs'.length = xs.length→I' vs' m'→V P (fun r=>o = .inl r) body (lbU o L.length ++ [fun v=>∃ m'',m'' < m'∧I' v m'']) (psh vs' ρ):=by
      intro m
      induction m using Nat.strongRecOn with
      | ind m ihm =>
        intro vs hlen hI
        obtain ⟨o1,g1,g2⟩:=ih hw (by simp [hA]) (h3 vs m hlen hI)
        simp only [List.length_append,List.length_singleton] at g2
        have other : (∀ vs,o1 ≠ .inr (L.length,vs))→okO R L A o1→∃ o,okO R L A o∧∃ I' : List DV→Nat→Prop,I' vs m∧∀ vs' m',vs'.length = xs.length→I' vs' m'→V P (fun r=>o = .inl r) body (lbU o L.length ++ [fun v=>∃ m'',m'' < m'∧I' v m'']) (psh vs' ρ):=fun hne hok=>by
          refine ⟨o1,hok,fun v k=>v = vs∧k = m,⟨rfl,rfl⟩,?_⟩
          rintro _ _ _ ⟨rfl,rfl⟩
          refine v_monoR body (fun r h=>h) ?_ (by simp [lbU_len]) g2
          rw [lbU_succ]
          exact LLe.snoc (fun l J h=>⟨J,h,fun _ h=>h⟩) rfl (fun v he=>absurd he (hne v))
        cases o1 with
        | inl r=>exact other (fun vs h=>by cases h) g1
        | inr p =>
          obtain ⟨l,vs1⟩:=p
          obtain ⟨q1,J',q2,q3⟩:=g1
          have hl : l < L.length + 1:=by have:=(List.getElem?_eq_some_iff.1 q2).1;simpa using this
          rcases Nat.lt_or_ge l L.length with hlt | hge
          · rw [List.getElem?_append_left (by omega)] at q1
            rw [List.getElem?_append_left hlt] at q2
            exact other (fun vs' h=>by injection h with h;injection h with h _;omega) ⟨q1,J',q2,q3⟩
          · obtain rfl : l = L.length:=by omega
            rw [← hA,List.getElem?_concat_length] at q1
            injection q1 with q1
            rw [List.getElem?_concat_length] at q2
            injection q2 with q2
            subst q2
            obtain ⟨m1,k1,k2⟩:=q3
            obtain ⟨o,r1,I1,r2,r3⟩:=ihm m1 k1 vs1 q1.symm k2
            refine ⟨o,r1,fun v k=>(v = vs∧k = m) ∨ (k < m∧I1 v k),.inl ⟨rfl,rfl⟩,?_⟩
            rintro v k hv (⟨rfl,rfl⟩ | ⟨hk,hI1⟩)
            · refine v_monoR body (fun r h=>by cases h) (lbU_le (by simp [lbU_len]) fun l' vs' h hlt=>?_) (by simp [lbU_len]) g2
              injection h with h;injection h with h h'
              subst h h'
              exact ⟨_,lbU_last,m1,k1,.inr ⟨k1,r2⟩⟩
            · refine v_monoR body (fun r h=>h) (LLe.snoc (fun l J h=>⟨J,h,fun _ h=>h⟩) rfl ?_) (by simp) (r3 v k hv hI1)
              rintro w ⟨m'',x1,x2⟩
              exact ⟨m'',x1,.inr ⟨by omega,x2⟩⟩
    obtain ⟨o,r1,I',r2,r3⟩:=key m vs (gL_len h1) h2
    exact ⟨o,r1,I',m,vs,h1,r2,r3⟩
  | ret xs =>
    intro R L A ρ hw hA hv
    obtain ⟨vs,h1,h2⟩:=hv
    exact ⟨.inl vs,h2,vs,h1,rfl⟩
  | sel xs k ih =>
    intro R L A ρ hw hA hv
    rw [v_sel] at hv
    cases he : gL ρ xs with
    | none=>rw [he] at hv;exact hv.elim
    | some out =>
      rw [he] at hv
      obtain ⟨q,h1,h2⟩:=ih hw hA hv
      exact ⟨q,h1,by rw [v_sel,he];exact h2⟩
theorem v_one {α : Type} {up : UP} {ρ : List DV} {R : α→List (Bool × List DV)→Prop} {Q : α→Prop} (hw : wfU up [] = true) (h : V P (fun vs=>∃ a,Q a∧R a vs) up [] ρ) : ∃ a,Q a∧V P (R a) up [] ρ:=by
  obtain ⟨o,h1,h2⟩:=v_det up hw rfl h
  cases o with
  | inl r =>
    obtain ⟨a,q1,q2⟩:=h1
    exact ⟨a,q1,v_monoR up (fun r' he=>by injection he with he;exact he ▸ q2) (fun l J h=>by simp [lbU] at h) rfl h2⟩
  | inr p=>obtain ⟨_,J,hJ,_⟩:=h1;simp at hJ
theorem meets_ex {α : Type} {ow : OwK} {hs : List Hint} {dn : List (Nat × Nat × Bool × List Nat)} {f : FuncId} {fn : Func} {args : List (Bool × List DV)} {res : α→List Rs} {Q : α→Prop} {sh : List (Bool × Nat)} {up : UP}
    (hf : P.funcs[f]? = some fn) (hg : toUPf P f fn ow hs dn = some (sh,up)) (hsh : shA args = sh) (hwf : wfU up [] = true) (hw : V P (fun vs=>∃ a,Q a∧isRes (res a) vs) up [] (psh (flatA args) [])) : ∃ a,Q a∧Meets P f args (res a):=by
  obtain ⟨a,h1,h2⟩:=v_one hwf hw
  exact ⟨a,h1,meets_upf hf hg hsh h2⟩
theorem meetsC_ex {α : Type} {ow : OwK} {hs : List Hint} {dn : List (Nat × Nat × Bool × List Nat)} {f : FuncId} {fn : Func} {t : Nat} {x : DV} {cs : List DV} {cs' : α→List DV} {rest : List (Bool × List DV)} {res : α→List Rs} {Q : α→Prop} {sh : List (Bool × Nat)} {up : UP}
    (hf : P.funcs[f]? = some fn) (hg : toUPcf P f fn ow hs dn t = some (sh,up)) (hsh : shA rest = sh) (hdp : ∀ a,∀ r ∈ res a,r.2.2 = true) (hwf : wfU up [] = true) (hw : V P (fun vs=>∃ a,Q a∧isC t (res a) (cs' a) vs) up [] (psh (flatA ((false,[cvD t x cs]) :: rest)) [])) : ∃ a,Q a∧MeetsC P f t x cs rest (res a) (cs' a):=by
  obtain ⟨a,h1,h2⟩:=v_one hwf hw
  exact ⟨a,h1,meets_upcf hf hg hsh (hdp a) h2⟩
end
end Go.Proofs.Ytkeoohonidpjeaa
namespace Go.Proofs.Ytkeoohonidpjeaa
open Int (reduceNeg reduceSub reduceMul reduceLT reduceLE reduceEq reduceToNat)
open Go.RowKit
set_option maxRecDepth 100000
def srcL : List ByteArray:=[⟨#[120]⟩,⟨#[60,45]⟩,⟨#[32]⟩,⟨#[10]⟩,⟨#[49]⟩,⟨#[43]⟩,⟨#[40]⟩,⟨#[41]⟩,⟨#[123]⟩,⟨#[125]⟩,⟨#[91]⟩,⟨#[93]⟩,⟨#[59]⟩,⟨#[101,108,115,101]⟩,⟨#[102]⟩,⟨#[34,97,34]⟩,⟨#[35,32,97,10]⟩,⟨#[37,37]⟩,⟨#[48,48,55]⟩,⟨#[46,53]⟩,⟨#[96,102,60,45,96]⟩,⟨#[46,46,46]⟩,⟨#[60,60,45]⟩,⟨#[78,65]⟩,⟨#[44]⟩]
theorem srcL_size : ∀ x ∈ srcL,x.size≤5:=by decide
def spoL : List ByteArray:=[⟨#[32]⟩,⟨#[40]⟩,⟨#[48]⟩,⟨#[34]⟩,⟨#[120]⟩,⟨#[10]⟩,⟨#[44]⟩,⟨#[45]⟩,⟨#[58]⟩,⟨#[255]⟩]
theorem spoL_size : ∀ x ∈ spoL,x.size≤5:=by decide
theorem e_cat' {b : Bool} {s t : ByteArray} (h : s.size + t.size≤1000000) : eBin .add b (some (.sc (.string s))) (some (.sc (.string t))) = some [.sc (.string (s ++ t))]:=e_cat (by unfold maxLen;omega)
set_option maxHeartbeats 4000000 in
theorem l15Src_e (l : List Int) (c : Cu) (hc : 0≤c.i) (hl : l.length≤1048576) : ∃ a : ByteArray × Cu,(a.1.size≤40∧0≤a.2.i)∧MeetsC Try.prog 12 48 (encU8s l) c.cs [] [(false,[.sc (.string a.1)],true)] a.2.cs:=by
  refine meetsC_ex Try.func12 u_spec_l15Source_g rfl (by intro a;simp) (by kernel_rfl) ?_;simp only [u_spec_l15Source_u]
  simp (disch:=first | omega | (simp only [lnA];omega) | simp only [lnB,Nat.reduceAdd]) only [go_sem,↓reduceIte,Nat.reduceAdd,reduceNeg,Int.reduceAdd,reduceSub,reduceMul,reduceLT,reduceLE,reduceEq,reduceToNat,Nat.reduceBEq,nat1,true_and]
  obtain ⟨n,c1,hn,h1,hcb⟩:=bel_e l c 8 (by first | assumption | omega) (by omega) (by omega) (by omega);refine cl_okC hcb rfl ?_;clear hcb;simp (disch:=first | omega | (simp only [lnA];omega) | simp only [lnB,Nat.reduceAdd]) only [go_sem,↓reduceIte,Nat.reduceAdd,reduceNeg,Int.reduceAdd,reduceSub,reduceMul,reduceLT,reduceLE,reduceEq,reduceToNat,Nat.reduceBEq,nat1,true_and]
  refine lp (fun s : Nat × Cu × ByteArray=>[.sc (.int .i64 s.1),.sc (.string s.2.2),cvD 48 (encU8s l) s.2.1.cs]) (fun s=>s.1≤8∧0≤s.2.1.i∧s.2.2.size + 5 * s.1≤40) (fun s=>s.1) ((n + 1).toNat,c1,⟨#[]⟩) (by simp only [Int.toNat_of_nonneg (show 0≤n + 1 by omega),Int.add_comm];rfl) ⟨by simp only;omega,h1,by simp only;show 0 + 5 * (n + 1).toNat≤40;omega⟩ ?_
  rintro ⟨k,c2,s⟩ ⟨g1,g2,g3⟩
  simp only at g1 g2 g3 ⊢
  simp only [u_spec_l15Source_l0]
  simp (disch:=first | omega | (simp only [lnA];omega) | simp only [lnB,Nat.reduceAdd]) only [go_sem,↓reduceIte,Nat.reduceAdd,reduceNeg,Int.reduceAdd,reduceSub,reduceMul,reduceLT,reduceLE,reduceEq,reduceToNat,Nat.reduceBEq,nat1,true_and]
  refine br_if (fun hbr=>?_) (fun hbr=>?_)
  · simp (disch:=first | omega | (simp only [lnA];omega) | simp only [lnB,Nat.reduceAdd]) only [go_sem,↓reduceIte,Nat.reduceAdd,reduceNeg,Int.reduceAdd,reduceSub,reduceMul,reduceLT,reduceLE,reduceEq,reduceToNat,Nat.reduceBEq,nat1,true_and]
    obtain ⟨x,c3,hx,h3,hcb⟩:=pks_e 9 l c2 srcL g2 hl (by decide) (by decide)
    have hsz:=srcL_size x hx
    refine cl_okC hcb rfl ?_
    clear hcb
    have hcat:=@e_cat' false s x (by omega)
    simp (disch:=first | omega | (simp only [lnA];omega) | simp only [lnB,Nat.reduceAdd]) only [go_sem,↓reduceIte,Nat.reduceAdd,reduceNeg,Int.reduceAdd,reduceSub,reduceMul,reduceLT,reduceLE,reduceEq,reduceToNat,Nat.reduceBEq,nat1,hcat]
    exact ⟨(k - 1,c3,s ++ x),by simp;omega,⟨by simp only;omega,h3,by simp only [ByteArray.size_append];omega⟩,by simp only;omega⟩
  · simp (disch:=first | omega | (simp only [lnA];omega) | simp only [lnB,Nat.reduceAdd]) only [go_sem,↓reduceIte,Nat.reduceAdd,reduceNeg,Int.reduceAdd,reduceSub,reduceMul,reduceLT,reduceLE,reduceEq,reduceToNat,Nat.reduceBEq,nat1,true_and]
    exact ⟨(s,c2),⟨by simp only;omega,g2⟩,_,_,rfl,rfl⟩
theorem ext_sz (s : ByteArray) (a b : Nat) : (s.extract a b).size≤s.size:=by rw [ByteArray.size_extract];omega
set_option maxHeartbeats 4000000 in
theorem l1Spoil_e (l : List Int) (c : Cu) (s : ByteArray) (hs : s.size≤1000) (hc : 0≤c.i) (hl : l.length≤1048576) : ∃ a : ByteArray × Cu,(a.1.size≤2 * s.size + 10∧0≤a.2.i)∧MeetsC Try.prog 14 48 (encU8s l) c.cs [(false,[.sc (.string s)])] [(false,[.sc (.string a.1)],true)] a.2.cs:=by
  refine meetsC_ex Try.func14 u_spec_l1Spoil_g rfl (by intro a;simp) (by kernel_rfl) ?_;simp only [u_spec_l1Spoil_u]
  simp (disch:=first | omega | (simp only [lnA];omega) | simp only [lnB,Nat.reduceAdd]) only [go_sem,↓reduceIte,Nat.reduceAdd,reduceNeg,Int.reduceAdd,reduceSub,reduceMul,reduceLT,reduceLE,reduceEq,reduceToNat,Nat.reduceBEq,nat1,true_and]
  refine br_if (fun hbr=>?_) (fun hbr=>?_)
  · simp (disch:=first | omega | (simp only [lnA];omega) | simp only [lnB,Nat.reduceAdd]) only [go_sem,↓reduceIte,Nat.reduceAdd,reduceNeg,Int.reduceAdd,reduceSub,reduceMul,reduceLT,reduceLE,reduceEq,reduceToNat,Nat.reduceBEq,nat1,true_and]
    exact ⟨(⟨#[120]⟩,c),⟨by simp only;show 1≤_;omega,hc⟩,_,_,rfl,rfl⟩
  have hpos : 0 < s.size:=by
    rcases Nat.eq_zero_or_pos s.size with e | e
    · exfalso;apply hbr
      have:=ByteArray.size_eq_zero_iff.1 e
      rw [this];rfl
    · exact e
  simp (disch:=first | omega | (simp only [lnA];omega) | simp only [lnB,Nat.reduceAdd]) only [go_sem,↓reduceIte,Nat.reduceAdd,reduceNeg,Int.reduceAdd,reduceSub,reduceMul,reduceLT,reduceLE,reduceEq,reduceToNat,Nat.reduceBEq,nat1,true_and]
  obtain ⟨i,c1,hi,h1,hcb⟩:=bel_e l c s.size (by first | assumption | omega) (by omega) (by omega) (by omega);refine cl_okC hcb rfl ?_;clear hcb;simp (disch:=first | omega | (simp only [lnA];omega) | simp only [lnB,Nat.reduceAdd]) only [go_sem,↓reduceIte,Nat.reduceAdd,reduceNeg,Int.reduceAdd,reduceSub,reduceMul,reduceLT,reduceLE,reduceEq,reduceToNat,Nat.reduceBEq,nat1,true_and]
  obtain ⟨k,c2,hk,h2,hcb⟩:=bel_e l c1 3 (by first | assumption | omega) (by omega) (by omega) (by omega);refine cl_okC hcb rfl ?_;clear hcb;simp (disch:=first | omega | (simp only [lnA];omega) | simp only [lnB,Nat.reduceAdd]) only [go_sem,↓reduceIte,Nat.reduceAdd,reduceNeg,Int.reduceAdd,reduceSub,reduceMul,reduceLT,reduceLE,reduceEq,reduceToNat,Nat.reduceBEq,nat1,true_and]
  obtain ⟨i,rfl⟩:=Int.eq_ofNat_of_zero_le hi.1
  have z1:=ext_sz s 0 i
  have z2:=ext_sz s (i + 1) s.size
  have z3:=ext_sz s 0 (i + 1)
  have z4:=ext_sz s i s.size
  refine br_if (fun hbr2=>?_) (fun hbr2=>?_)
  · simp (disch:=first | omega | (simp only [lnA];omega) | simp only [lnB,Nat.reduceAdd]) only [go_sem,↓reduceIte,Nat.reduceAdd,reduceNeg,Int.reduceAdd,reduceSub,reduceMul,reduceLT,reduceLE,reduceEq,reduceToNat,Nat.reduceBEq,nat1,true_and]
    obtain ⟨x,c3,hx,h3,hcb⟩:=pks_e 9 l c2 spoL h2 hl (by decide) (by decide)
    have hsz:=spoL_size x hx
    refine cl_okC hcb rfl ?_
    clear hcb
    have hcat:=@e_cat' false (s.extract 0 i) x (by omega)
    have hcat2:=@e_cat' false (s.extract 0 i ++ x) (s.extract (i + 1) s.size) (by rw [ByteArray.size_append];omega)
    simp (disch:=first | omega | (simp only [lnA];omega) | simp only [lnB,Nat.reduceAdd]) only [go_sem,↓reduceIte,Nat.reduceAdd,reduceNeg,Int.reduceAdd,reduceSub,reduceMul,reduceLT,reduceLE,reduceEq,reduceToNat,Nat.reduceBEq,nat1,hcat,hcat2]
    exact ⟨(_,c3),⟨by simp only [ByteArray.size_append];omega,h3⟩,_,_,rfl,rfl⟩
  simp (disch:=first | omega | (simp only [lnA];omega) | simp only [lnB,Nat.reduceAdd]) only [go_sem,↓reduceIte,Nat.reduceAdd,reduceNeg,Int.reduceAdd,reduceSub,reduceMul,reduceLT,reduceLE,reduceEq,reduceToNat,Nat.reduceBEq,nat1,true_and]
  refine br_if (fun hbr3=>?_) (fun hbr3=>?_)
  · have hcat:=@e_cat' false (s.extract 0 i) (s.extract (i + 1) s.size) (by omega)
    simp (disch:=first | omega | (simp only [lnA];omega) | simp only [lnB,Nat.reduceAdd]) only [go_sem,↓reduceIte,Nat.reduceAdd,reduceNeg,Int.reduceAdd,reduceSub,reduceMul,reduceLT,reduceLE,reduceEq,reduceToNat,Nat.reduceBEq,nat1,hcat]
    exact ⟨(_,c2),⟨by simp only [ByteArray.size_append];omega,h2⟩,_,_,rfl,rfl⟩
  · have hcat:=@e_cat' false (s.extract 0 (i + 1)) (s.extract i s.size) (by omega)
    simp (disch:=first | omega | (simp only [lnA];omega) | simp only [lnB,Nat.reduceAdd]) only [go_sem,↓reduceIte,Nat.reduceAdd,reduceNeg,Int.reduceAdd,reduceSub,reduceMul,reduceLT,reduceLE,reduceEq,reduceToNat,Nat.reduceBEq,nat1,hcat]
    exact ⟨(_,c2),⟨by simp only [ByteArray.size_append];omega,h2⟩,_,_,rfl,rfl⟩
theorem drawTks_e (l : List Int) (hl : l.length≤1048576) : ∃ s : ByteArray,s.size≤100∧Meets Try.prog 5 [(false,[encU8s l])] [(false,[.sc (.string s)],true)]:=by
  refine meets_ex Try.func5 u_spec_DrawTokensOf_g rfl (by kernel_rfl) ?_;simp only [u_spec_DrawTokensOf_u]
  simp (disch:=first | omega | (simp only [lnA];omega) | simp only [lnB,Nat.reduceAdd]) only [go_sem,↓reduceIte,Nat.reduceAdd,reduceNeg,Int.reduceAdd,reduceSub,reduceMul,reduceLT,reduceLE,reduceEq,reduceToNat,Nat.reduceBEq,nat1,true_and]
  obtain ⟨c,hc,hcb⟩:=new_e l hl
  refine cl_okN hcb rfl ?_
  clear hcb
  simp (disch:=first | omega | (simp only [lnA];omega) | simp only [lnB,Nat.reduceAdd]) only [go_sem,↓reduceIte,Nat.reduceAdd,reduceNeg,Int.reduceAdd,reduceSub,reduceMul,reduceLT,reduceLE,reduceEq,reduceToNat,Nat.reduceBEq,nat1,true_and]
  obtain ⟨⟨s,c1⟩,⟨h1,h2⟩,hcb⟩:=l15Src_e l c hc hl
  simp only at h1 h2 hcb
  refine cl_okC hcb rfl ?_
  clear hcb
  simp (disch:=first | omega | (simp only [lnA];omega) | simp only [lnB,Nat.reduceAdd]) only [go_sem,↓reduceIte,Nat.reduceAdd,reduceNeg,Int.reduceAdd,reduceSub,reduceMul,reduceLT,reduceLE,reduceEq,reduceToNat,Nat.reduceBEq,nat1,true_and]
  obtain ⟨b,c2,h3,hcb⟩:=onc_e l c1 5 (by first | assumption | omega) (by omega) (by omega);refine cl_okC hcb rfl ?_;clear hcb;simp (disch:=first | omega | (simp only [lnA];omega) | simp only [lnB,Nat.reduceAdd]) only [go_sem,↓reduceIte,Nat.reduceAdd,reduceNeg,Int.reduceAdd,reduceSub,reduceMul,reduceLT,reduceLE,reduceEq,reduceToNat,Nat.reduceBEq,nat1,true_and]
  cases b
  · simp (disch:=first | omega | (simp only [lnA];omega) | simp only [lnB,Nat.reduceAdd]) only [go_sem,↓reduceIte,Nat.reduceAdd,reduceNeg,Int.reduceAdd,reduceSub,reduceMul,reduceLT,reduceLE,reduceEq,reduceToNat,Nat.reduceBEq,nat1,true_and]
    exact ⟨s,by omega,rfl⟩
  · simp (disch:=first | omega | (simp only [lnA];omega) | simp only [lnB,Nat.reduceAdd]) only [go_sem,↓reduceIte,Nat.reduceAdd,reduceNeg,Int.reduceAdd,reduceSub,reduceMul,reduceLT,reduceLE,reduceEq,reduceToNat,Nat.reduceBEq,nat1,true_and]
    obtain ⟨⟨s2,c3⟩,⟨h4,h5⟩,hcb⟩:=l1Spoil_e l c2 s (by omega) h3 hl
    simp only at h4 h5 hcb
    refine cl_okC hcb rfl ?_
    simp (disch:=first | omega | (simp only [lnA];omega) | simp only [lnB,Nat.reduceAdd]) only [go_sem,↓reduceIte,Nat.reduceAdd,reduceNeg,Int.reduceAdd,reduceSub,reduceMul,reduceLT,reduceLE,reduceEq,reduceToNat,Nat.reduceBEq,nat1,true_and]
    exact ⟨s2,by omega,rfl⟩
theorem opD_U8s : OpD (fun l=>[encU8s l]) (fun l=>l.length≤9223372036854775807∧∀ n ∈ l,0≤n∧n < 256) Try.prog 22:=opD_slice (e:=encU8) 5 Try.underlying22 (by kernel_rfl) (by decide) (fun _=>rfl) (opD_u8 Try.underlying5)
theorem big_m (l : List Int) (hl : l.length≤9223372036854775807) : Meets Try.prog 4 [(false,[encU8s l])] [(false,[.sc (.bool (decide (1048576 < l.length)))],true)]:=by
  refine meets_upf Try.func4 u_laws_big_g rfl ?_;simp only [u_laws_big_u]
  simp only [encU8s]
  simp (disch:=first | omega | (simp only [lnA];omega) | simp only [lnB,Nat.reduceAdd]) only [go_sem,↓reduceIte,Nat.reduceAdd,reduceNeg,Int.reduceAdd,reduceSub,reduceMul,reduceLT,reduceLE,reduceEq,reduceToNat,Nat.reduceBEq,nat1,true_and]
  exact ret_b (by rw [decide_eq_decide];omega)
theorem runs_bd {s : ByteArray} (hs : s.size≤1000000) {i : Nat} {out : List Tok} {op : List Nat} {R : List Tok × Int} (h : Runs s i out op R) : i≤s.size→out.length≤i→(∀ x ∈ out,x.text.size≤s.size)→R.1.length≤s.size∧(∀ x ∈ R.1,x.text.size≤s.size)∧(R.2 = -1 ∨ R.1 = []):=by
  induction h with
  | done h=>intro h1 h2 h3;exact ⟨by simp only;omega,h3,.inl rfl⟩
  | sp h1 h2 h3 ih=>intro a b c;exact ih (by omega) (by omega) c
  | @com i out op R h1 h2 h3 ih =>
    intro a b c
    have q1:=endP_t (p:=pC s) (n:=s.size) h1 (by unfold pC;rw [h2];rfl)
    have q2:=endP_le (p:=pC s) (n:=s.size) (i:=i + 1) (by omega)
    exact ih (by omega) (by omega) c
  | @nl i out op R h1 h2 h3 ih =>
    intro a b c
    have:=nlO_len out op
    refine ih (by omega) (by omega) fun x hx=>?_
    unfold nlO at hx
    split at hx
    · rcases List.mem_append.1 hx with hx | hx
      · exact c x hx
      · rw [List.mem_singleton.1 hx];show 1≤s.size;omega
    · exact c x hx
  | bad h1 h2 h3=>intro a b c;exact ⟨Nat.zero_le _,by simp,.inr rfl⟩
  | @tok i out op k e R h1 h2 h3 h4 ih =>
    intro a b c
    obtain ⟨q1,q2,q3⟩:=nxt_gt h1 hs h3
    refine ih q2 (by rw [List.length_append,List.length_singleton];omega) fun x hx=>?_
    rcases List.mem_append.1 hx with hx | hx
    · exact c x hx
    · rw [List.mem_singleton.1 hx];exact q3
set_option maxHeartbeats 4000000 in
theorem lawTokens_m (a0 : List Int) (h0 : a0.length≤9223372036854775807) : Meets Try.prog 3 [(false,[encU8s a0])] [(false,[.sc (.bool true)],true)]:=by
  have hb:=big_m a0 h0
  by_cases hbig : 1048576 < a0.length
  · rw [decide_eq_true hbig] at hb
    refine meets_upf Try.func3 u_laws_FnTokens_g rfl ?_;simp only [u_laws_FnTokens_u]
    simp only [encU8s] at hb ⊢
    repeat' (first | (with_reducible first | refine jn_in ?_ | refine cl_ok (by assumption) rfl ?_ | refine cl_okP (by assumption) rfl ?_ | refine br_x (fun hbr=>?_) fun hbr=>?_) | simp (disch:=first | omega | (simp only [lnA];omega) | simp only [lnB,Nat.reduceAdd]) only [go_sem,↓reduceIte,Nat.reduceAdd,reduceNeg,Int.reduceAdd,reduceSub,reduceMul,reduceLT,reduceLE,reduceEq,reduceToNat,Nat.reduceBEq,nat1,true_and])
    all_goals rfl
  rw [decide_eq_false hbig] at hb
  obtain ⟨s,hs,hd⟩:=drawTks_e a0 (by omega)
  obtain ⟨R,hR⟩:=runs_ex (s:=s) (by omega) s.size 0 [] [] (by omega)
  have hi:=implTks_m s (by omega) R hR
  have hsp:=specTks_m s (by omega) R hR
  obtain ⟨b1,b2,b3⟩:=runs_bd (by omega) hR (by omega) (by simp) (by simp)
  have hv:=runs_ok (by omega) hR (by simp)
  obtain ⟨T,z⟩:=R
  simp only at hi hsp b1 b2 b3 hv
  have hw : wtToks T≤1048576:=by
    have : sumOf wtTok T≤T.length * 100:=by
      clear hv hi hsp hR b3 b1
      induction T with
      | nil=>exact Nat.zero_le _
      | cons x T ih =>
        have h1:=b2 x (List.mem_cons_self ..)
        have h2:=ih fun y hy=>b2 y (List.mem_cons_of_mem _ hy)
        have h3 : wtTok x = x.text.size:=rfl
        rw [List.length_cons,Nat.succ_mul]
        simp only [sumOf];omega
    unfold wtToks;omega
  have hf1:=implTs_m T hw
  have hf2:=specTs_m T hw
  have htok : ∀ i,i < T.length→Meets Try.prog 8 [(true,encTok (T.getD i default))] [(false,[.sc (.bool true)],true)]:=fun i hi=>by
    have:=implTok_m (T.getD i default) (by have:=b2 _ (getD_mem hi);omega)
    rwa [hv _ (getD_mem hi)] at this
  have hall : allB (allTok T) T.length = true:=allB_iff.2 fun i hi=>hv _ (getD_mem hi)
  have hfm : fmtTs T = joinB (T.map tokT) ⟨#[32]⟩:=by unfold fmtTs;rw [if_pos hall]
  have hagain : ∀ h : (fmtTs T).size≤600,Meets Try.prog 6 [(false,[.sc (.string (fmtTs T))])] [(false,[encToks T],true),(false,[.sc (.int .i64 (-1))],true)]:=fun h=>by
    have:=runs_again hfm hv (fun k hk _=>unqR_q (by have:=quoteB_size k.text;have:=b2 k hk;omega)) T.length 0 [] (by omega)
    exact implTks_m (fmtTs T) h (T,-1) this
  have hfl : (fmtTs T).size≤1000000:=by
    rw [hfm]
    have:=joinP_size (sep:=⟨#[32]⟩) (m:=2000) (l:=T.map tokT) (fun x hx=>by
      obtain ⟨k,hk,rfl⟩:=List.mem_map.1 hx
      have h1:=b2 k hk
      unfold tokT
      split
      · have:=quoteB_size k.text;omega
      · split
        · have:=fmtName_size k.text;omega
        · omega) (T.map tokT).length
    have h1 : (⟨#[32]⟩ : ByteArray).size = 1:=rfl
    rw [h1,List.length_map] at this
    have h2 : T.length * (2000 + 1)≤100 * (2000 + 1):=Nat.mul_le_mul (by omega) (Nat.le_refl _)
    unfold joinB
    rw [List.length_map]
    omega
  have hixT:=fun i (hi : i < T.length)=>ix_Tok (t:=29) (l:=T) (kd:=.i64) (z:=(i : Int)) (by omega) (by omega)
  clear hfm hall hR b2 hv hw
  generalize fmtTs T = W at *
  refine meets_upf Try.func3 u_laws_FnTokens_g rfl ?_;simp only [u_laws_FnTokens_u]
  simp only [encU8s,encToks] at hb hd hi hsp hf1 hf2 hagain ⊢
  repeat' (first | (with_reducible first | refine jn_in ?_ | refine cl_ok (by assumption) rfl ?_ | refine cl_okP (by assumption) rfl ?_ | refine br_x (fun hbr=>?_) fun hbr=>?_) | simp (disch:=first | omega | (simp only [lnA];omega) | simp only [lnB,Nat.reduceAdd]) only [go_sem,↓reduceIte,Nat.reduceAdd,reduceNeg,Int.reduceAdd,reduceSub,reduceMul,reduceLT,reduceLE,reduceEq,reduceToNat,Nat.reduceBEq,nat1,eq_self])
  all_goals first | omega | skip
  refine lp (fun i : Nat=>[.sc (.int .i64 i)]) (fun i=>i≤T.length) (fun i=>T.length - i) 0 rfl (Nat.zero_le _) ?_
  intro i hi2
  simp only [u_laws_FnTokens_l2]
  by_cases hlt : i < T.length
  · have hx:=hixT i hlt
    have ht:=htok i hlt
    rw [Int.toNat_natCast] at hx
    generalize T.getD i default = x at *
    obtain ⟨kd,tx⟩:=x
    simp only [encTok] at hx ht
    have hq : eEqS true [.i,.s] (some [.sc (.int .i64 kd),.sc (.string tx)]) (some [.sc (.int .i64 kd),.sc (.string tx)]) = some [.sc (.bool false)]:=by simp [eEqS,eqKD,eqK]
    repeat' (first | (with_reducible first | refine jn_in ?_ | refine cl_ok (by assumption) rfl ?_ | refine cl_okP (by assumption) rfl ?_ | refine br_x (fun hbr=>?_) fun hbr=>?_) | simp (disch:=first | omega | (simp only [lnA];omega) | simp only [lnB,Nat.reduceAdd]) only [go_sem,↓reduceIte,Nat.reduceAdd,reduceNeg,Int.reduceAdd,reduceSub,reduceMul,reduceLT,reduceLE,reduceEq,reduceToNat,Nat.reduceBEq,nat1,hx,hq,u_laws_FnTokens_j0])
    all_goals first | omega | exact ⟨i + 1,rfl,by omega,by omega⟩ | skip
  obtain rfl : i = T.length:=by omega
  by_cases h6 : W.size≤600
  rotate_left
  · repeat' (first | (with_reducible first | refine jn_in ?_ | refine cl_ok (by assumption) rfl ?_ | refine cl_okP (by assumption) rfl ?_ | refine br_x (fun hbr=>?_) fun hbr=>?_) | simp (disch:=first | omega | (simp only [lnA];omega) | simp only [lnB,Nat.reduceAdd]) only [go_sem,↓reduceIte,Nat.reduceAdd,reduceNeg,Int.reduceAdd,reduceSub,reduceMul,reduceLT,reduceLE,reduceEq,reduceToNat,Nat.reduceBEq,nat1,eq_self])
    all_goals first | omega | rfl | skip
  have hag:=hagain h6
  repeat' (first | (with_reducible first | refine jn_in ?_ | refine cl_ok (by assumption) rfl ?_ | refine cl_okP (by assumption) rfl ?_ | refine br_x (fun hbr=>?_) fun hbr=>?_) | simp (disch:=first | omega | (simp only [lnA];omega) | simp only [lnB,Nat.reduceAdd]) only [go_sem,↓reduceIte,Nat.reduceAdd,reduceNeg,Int.reduceAdd,reduceSub,reduceMul,reduceLT,reduceLE,reduceEq,reduceToNat,Nat.reduceBEq,nat1,eq_self])
  all_goals first | omega | rfl | skip
  refine lp (fun i : Nat=>[.sc (.int .i64 i)]) (fun i=>i≤T.length) (fun i=>T.length - i) 0 rfl (Nat.zero_le _) ?_
  intro i hi2
  simp only [u_laws_FnTokens_l1]
  by_cases hlt : i < T.length
  · have hx:=hixT i hlt
    rw [Int.toNat_natCast] at hx
    generalize T.getD i default = x at *
    obtain ⟨kd,tx⟩:=x
    simp only [encTok] at hx
    have hq : eEqS true [.i,.s] (some [.sc (.int .i64 kd),.sc (.string tx)]) (some [.sc (.int .i64 kd),.sc (.string tx)]) = some [.sc (.bool false)]:=by simp [eEqS,eqKD,eqK]
    repeat' (first | (with_reducible first | refine jn_in ?_ | refine cl_ok (by assumption) rfl ?_ | refine cl_okP (by assumption) rfl ?_ | refine br_x (fun hbr=>?_) fun hbr=>?_) | simp (disch:=first | omega | (simp only [lnA];omega) | simp only [lnB,Nat.reduceAdd]) only [go_sem,↓reduceIte,Nat.reduceAdd,reduceNeg,Int.reduceAdd,reduceSub,reduceMul,reduceLT,reduceLE,reduceEq,reduceToNat,Nat.reduceBEq,nat1,hx,hq])
    all_goals first | omega | exact ⟨i + 1,rfl,by omega,by omega⟩ | skip
  · obtain rfl : i = T.length:=by omega
    repeat' (first | (with_reducible first | refine jn_in ?_ | refine cl_ok (by assumption) rfl ?_ | refine cl_okP (by assumption) rfl ?_ | refine br_x (fun hbr=>?_) fun hbr=>?_) | simp (disch:=first | omega | (simp only [lnA];omega) | simp only [lnB,Nat.reduceAdd]) only [go_sem,↓reduceIte,Nat.reduceAdd,reduceNeg,Int.reduceAdd,reduceSub,reduceMul,reduceLT,reduceLE,reduceEq,reduceToNat,Nat.reduceBEq,nat1,eq_self])
    all_goals first | omega | rfl | skip
end Go.Proofs.Ytkeoohonidpjeaa
namespace Go.Proofs.Ytkeoohonidpjeaa.fnTokens
open Go.ChangeShapes Go.WideShapes Go.ChangeAt Go.RowKit
open Go.ChangeMaps (open_string shut_string)
theorem own : ownKnob Try.prog.godebug = none:=by kernel_rfl
theorem laidOut : laidOutB Try.prog = true:=by kernel_rfl
set_option maxRecDepth 100000 in
set_option maxHeartbeats 2000000 in
theorem walk {H : Type} (enc : TypeId × Value→H) (v0 : Value) (d0 : DataW H) (p0 : List MemPlace) (base : Nat) (w : World)
    (ok0 : Value.okWide Try.prog w .any base 22 v0) (h0 : DataW.Trod enc Try.prog w 0 (fun _=>true) true 22 v0 d0 p0)
    (sz : (DataW.weightsEach Try.prog [22] [d0]).all (·≤reachBytes) = true) :
    Calls Try.prog 3 #[v0] w fun e w'=>e = .returned (.bool true)∧Below w.heap.size w w':=by
  obtain ⟨a0,r0,i0⟩:=argD_sl (base:=base) opD_U8s Try.underlying22 h0 ok0
  exact run_law (lawTokens_m a0 i0.1) (ArgsR.cons r0 ArgsR.nil)
set_option maxRecDepth 100000 in
theorem lifted (os : Os) (started : os.Started) (H : Type) (enc : TypeId × Value→H) :
    ReturnsInHanded {} Try.checked os 3 .any (Rows.fnTokensSpec.pre6 enc Try.prog Try.f3 Rows.fnTokensRow.domain false) (Rows.fnTokensSpec.post enc Try.prog Try.f3 false true false false):=by
  refine returnsInHanded_of_change_sized (C:=Try.checked) own started (by kernel_rfl) Try.func3
    (ChangeSpec.witness6 (enc:=enc) (C:=Try.checked) false ⟨#[],#[.slice none 0 0],[]⟩ 8 (by kernel_rfl) (by kernel_rfl) (by kernel_rfl) (by kernel_rfl)) ?_
  intro W base args ds gs before hval0 hW hcnd0 hsz0 hholds
  have hval : ∀ (j : Nat) t v,Try.f3.params[j]? = some t→args[j]? = some v→Value.okWide Try.prog W .any base t v:=hval0
  have hsz : (DataW.weightsEach Try.prog (Try.f3.params.toList ++ Rows.fnTokensSpec.plain.varTypes Try.prog) (ds ++ gs)).all (·≤reachBytes) = true:=hsz0
  have hW':=hW
  obtain ⟨p,q,hA0,hV,rfl,hfz,hnd⟩:=hW
  have hA : DataW.TrodAll enc Try.prog W 0 (fun _=>true) true Try.f3.params.toList args.toList ds p:=hA0
  rw [Try.params3] at hA hval hsz
  obtain ⟨v0,vs0,d0,ds0,p0,q0,hargs,rfl,rfl,h0,r0⟩:=trodAll_cons hA
  obtain ⟨rfl,rfl,rfl⟩:=trodAll_nil r0
  obtain rfl : args = #[v0]:=by cases args;simp_all
  obtain ⟨rfl,rfl⟩:=trodVars_none hV
  have lt0 : ∀ x ∈ p0,x.block < W.heap.size:=by obtain ⟨m,hm⟩:=h0;exact DataW.trod_lt m _ _ _ hm
  refine (walk enc v0 d0 p0 base W (hval 0 22 v0 rfl rfl) h0 hsz).mono fun e W' ⟨he,bel⟩=>?_
  subst he
  exact ⟨_,rfl,_,_,_,[],_,[],hW',trodAll_mk1 (shut_bool Try.underlying4 _),(trodAll_cons_mk (Below.trod laidOut (by kernel_rfl) (of_decide_eq_true (by kernel_rfl)) h0 bel lt0) trodAll_mk0),rfl,bel.frame _,fun h=>by cases h⟩
theorem over : Rows.fnTokensRow.holds Try.pinned (OpenSpec.ofChange Rows.fnTokensSpec) :=
  OpenClaim.holds_of_wide 3 Try.f3 rfl rfl rfl rfl rfl rfl rfl ⟨rfl,rfl,rfl,rfl,rfl⟩ rfl rfl rfl rfl rfl (by kernel_rfl) Try.func3 (by kernel_rfl)
    (of_decide_eq_true (by kernel_rfl)) (by unfold Func.isWrapper;first | (rw [if_pos (by decide +kernel)];kernel_rfl) | (rw [if_neg (by decide +kernel)];exact ⟨rfl,rfl⟩))
    (fun os started H enc _=>lifted os started H enc)
theorem proved : Rows.FnTokensSaid:=over
end Go.Proofs.Ytkeoohonidpjeaa.fnTokens

