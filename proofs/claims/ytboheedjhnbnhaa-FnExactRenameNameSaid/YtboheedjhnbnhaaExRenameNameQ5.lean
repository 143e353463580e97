/- Proved: for every input the law 'FnExactRenameName' returns true and its arguments read behind the call as before: part 5 of its proof. No condition. -/
import Derived.WalkKit
import Derived.Lib.Hide
import Derived.WalkSpells
import Derived.Laws.OwnMore
import Derived.Deep.AppendLies
import Derived.Deep.Draws
import Derived.Maps.AppendAt
import Derived.RegionTactic
import Derived.OwnWalk
import Derived.Below
import Derived.Laws.AppendOwnNone
import Derived.Deep.QuietTactic
import Derived.BigQuiet
import Derived.StillTailTactics
import Derived.Laws.Cells
import Derived.Laws.IdiomCopy
import Derived.ChangeKeysEq
import Derived.Laws.BytesArg
import Derived.Laws.StructEq
import Derived.Laws.Tables
import Derived.Great.BuildSlice
import Derived.StillTail
import Derived.OrdersHeld
import Derived.Test.YtboheedjhnbnhaaProg
import Derived.Deep.Slices
import Derived.Deep.Fields
import Derived.ChangeSame
import Derived.OpenShut
import Derived.Laws.IdiomStrings
import Derived.Test.YtboheedjhnbnhaaRows
import Derived.ProofKit
import Derived.ShutString
import Derived.ChangeOld
import Derived.SizedLaws
import Derived.Test.YtboheedjhnbnhaaExRenameNameQ4
set_option linter.unusedVariables false
set_option linter.unusedSimpArgs false
namespace Go.Proofs.Ytboheedjhnbnhaa
open Int (reduceNeg reduceSub reduceMul reduceLT reduceLE reduceEq reduceToNat)
open Go.RowKit
set_option maxRecDepth 100000
def markT (k : Nat) : ByteArray:=ofN (109 :: dgs k)
theorem markText_m (k : Nat) (h0 : 0 < k) (h1 : k≤4611686018427387904) : Meets Try.prog 24 [(false,[.sc (.int .i64 k)])] [(false,[.sc (.string (markT k))],true)]:=by
  have hlen:=dgs_len19 (m:=k) (by omega)
  refine meets_upf Try.func24 u_laws_markText_g rfl ?_;simp only [u_laws_markText_u]
  simp (disch:=first | omega | (simp only [lnA];omega) | simp only [lnB,Nat.reduceAdd]) only [go_sem,↓reduceIte,Nat.reduceAdd,reduceNeg,Int.reduceAdd,reduceSub,reduceMul,reduceLT,reduceLE,reduceEq,reduceToNat,Nat.reduceBEq,nat1,true_and]
  refine br_if (fun h=>absurd h (by omega)) (fun h=>?_)
  simp (disch:=first | omega | (simp only [lnA];omega) | simp only [lnB,Nat.reduceAdd]) only [go_sem,↓reduceIte,Nat.reduceAdd,reduceNeg,Int.reduceAdd,reduceSub,reduceMul,reduceLT,reduceLE,reduceEq,reduceToNat,Nat.reduceBEq,nat1,true_and]
  refine lp (fun s : Nat × List Nat=>[.sc (.string (ofN s.2)),.sc (.int .i64 (s.1 : Nat))]) (fun s=>s.1≤k∧dgs s.1 ++ s.2 = dgs k) (fun s=>s.1) (k,[]) rfl ⟨Nat.le_refl _,by simp⟩ ?_
  rintro ⟨x,acc⟩ ⟨g1,g2⟩
  simp only at g1 g2 ⊢
  simp only [u_laws_markText_l0]
  have hal : acc.length≤19:=by have:=congrArg List.length g2;rw [List.length_append] at this;omega
  by_cases hx : x = 0
  · subst hx
    rw [dgs_zero,List.nil_append] at g2
    have e1 : (⟨#[109]⟩ : ByteArray).size + (ofN acc).size≤maxLen:=by
      have e : (⟨#[109]⟩ : ByteArray).size = 1:=rfl
      rw [ofN_size];unfold maxLen;omega
    repeat' (first | (with_reducible first | refine jn_in ?_ | refine cl_ok (by assumption) rfl ?_ | refine cl_okP (by assumption) rfl ?_ | refine br_x (fun hbr=>?_) fun hbr=>?_) | simp (disch:=first | omega | (simp only [lnA];omega) | simp only [lnB,Nat.reduceAdd]) only [go_sem,↓reduceIte,Nat.reduceAdd,reduceNeg,Int.reduceAdd,reduceSub,reduceMul,reduceLT,reduceLE,reduceEq,reduceToNat,Nat.reduceBEq,nat1,e_cat e1])
    refine ret_s ?_
    unfold markT;rw [g2];exact ofN_app [109] _
  · have hd:=dgs_pos hx
    have d1 : (x : Int).tmod 10 = ((x % 10 : Nat) : Int):=rfl
    have d2 : (x : Int).tdiv 10 = ((x / 10 : Nat) : Int):=rfl
    have d3 : (48 : Int) + ((x % 10 : Nat) : Int) = ((48 + x % 10 : Nat) : Int):=rfl
    have d4 : IntKind.u8.wrap ((48 + x % 10 : Nat) : Int) = ((48 + x % 10 : Nat) : Int):=wrap8 (by omega) (by omega)
    have d5 : eCvB (some (.sl 5 1 [[.sc (.int .u8 ((48 + x % 10 : Nat) : Int))]])) = some [.sc (.string (ofN [48 + x % 10]))]:=cvB_u (l:=[48 + x % 10])
    have e1 : (ofN [48 + x % 10]).size + (ofN acc).size≤maxLen:=by rw [ofN_size,ofN_size];unfold maxLen;simp;omega
    have happ : ofN [48 + x % 10] ++ ofN acc = ofN ((48 + x % 10) :: acc):=(ofN_app [48 + x % 10] acc).symm
    repeat' (first | (with_reducible first | refine jn_in ?_ | refine cl_ok (by assumption) rfl ?_ | refine cl_okP (by assumption) rfl ?_ | refine br_x (fun hbr=>?_) fun hbr=>?_) | simp (disch:=first | omega | (simp only [lnA];omega) | simp only [lnB,Nat.reduceAdd]) only [go_sem,↓reduceIte,Nat.reduceAdd,reduceNeg,Int.reduceAdd,reduceSub,reduceMul,reduceLT,reduceLE,reduceEq,reduceToNat,Nat.reduceBEq,nat1,d1,d2,d3,d4,d5,e_cat e1,happ])
    all_goals first | omega | exact ⟨(x / 10,(48 + x % 10) :: acc),rfl,⟨by simp only;omega,by rw [← g2,hd];simp⟩,by simp only;omega⟩
theorem argR_i {w : World} {B : Nat→Prop} {k : Int} : ArgR w B (.int .i64 k) (false,[.sc (.int .i64 k)]):=.sc trivial .nil
theorem markText_x (x : Int) (K : Nat) (w : World) (hx : x = K) (h0 : 0 < K) (h1 : K≤4611686018427387904) :
    Calls Try.prog 24 #[.int .i64 x] w fun e w'=>e = .returned (.string (markT K))∧Below w.heap.size w w':=by
  subst hx
  exact run_law (markText_m K h0 h1) (ArgsR.cons argR_i ArgsR.nil)
theorem own_flat_nil {w : World} {base : Nat} {vals : List Value} {ds : List DV} {g : List Nat} (h : OwnL w base vals ds g) (hf : Flat ds) : g = []:=by
  induction h with
  | nil=>rfl
  | sc _ _ ih=>exact ih (fun d hd=>hf d (List.mem_cons_of_mem _ hd))
  | sl=>obtain ⟨v,hv⟩:=hf _ (List.mem_cons_self ..);cases hv
theorem wrote_grown {w w' : World} {v : Value} (h : w.grownBy w' v.ownBlock) : Wrote w w' ([v.ownBlock.toList] : List (List Nat)).flatten :=
  ⟨h.os,h.tape,h.output,h.size,fun b hb hn=>h.block b hb (fun e=>hn (by simp [← e]))⟩
def cellsS (l : List ByteArray) : List Value:=l.map Value.string
def marksS (k n : Nat) : List ByteArray:=(List.range n).map fun i=>markT (k + i)
theorem marksS_len (k n : Nat) : (marksS k n).length = n:=by simp [marksS]
theorem marks_step {α β : Type} (f : α→β) (g : Nat→α) (l : List α) (k : Nat) (h : k < l.length) : (((List.range k).map g ++ l.drop k).map f).set k (f (g k)) = ((List.range (k + 1)).map g ++ l.drop (k + 1)).map f:=by
  rw [List.map_append,List.set_append_right _ _ (by simp),List.length_map,List.length_map,List.length_range,Nat.sub_self,List.drop_eq_getElem_cons h,List.map_cons,List.set_cons_zero,List.range_succ]
  simp
def MRel (n : Nat) (w : World) (base : Nat) (t : TypeId) (A : Option Addr) (c k0 : Nat) (cells : Nat→List Value) (v1 v5 : Value) (wr : World) : Prop :=
  ∃ k : Nat,k≤n∧v5 = .int .i64 k∧v1 = .int .i64 ((k0 + k : Nat) : Int)∧wr.ownsRow base t 1 (.slice A n c) n (cells k)∧w.grownBy wr (Value.slice A n c).ownBlock
theorem markStringS_any (A : Option Addr) (n c base k0 : Nat) (l : List ByteArray) (w : World) (ha : w.ownsRow base 9 1 (.slice A n c) n (cellsS l)) (hl : l.length = n) (h0 : 0 < k0) (h1 : k0 + n≤4611686018427387904) :
    Calls Try.prog 25 #[.slice A n c,.int .i64 k0] w fun e w'=>e = .returned (.int .i64 ((k0 + n : Nat) : Int))∧w'.ownsRow base 9 1 (.slice A n c) n (cellsS (marksS k0 n))∧w.grownBy w' (Value.slice A n c).ownBlock:=by
  have HL:=Lib.hid hl;clear hl
  go_enter Try.func25,Try.ntmps25
  go_wp2
  go_loopw [1,5] (MRel n w base 9 A c k0 (fun k=>cellsS (marksS k0 k ++ l.drop k))) (fun _ i _=>n - (intOf i).toNat)
  case atStart=>exact ⟨0,Nat.zero_le _,rfl,rfl,by simpa [marksS] using ha,World.grownBy.refl w _⟩
  case round =>
    obtain ⟨k,hk,rfl,rfl,hown,hg⟩:=hrel
    by_cases hlt : k < n
    · obtain ⟨g,cap,hv,-,-⟩:=hown.form (by omega)
      injection hv with e1 e2 e3
      subst e1 e3
      have hown : wr.ownsRow base 9 1 (.slice (some ⟨g,0,none⟩) n c) n (cellsS (marksS k0 k ++ l.drop k)):=hown
      have hgl:=(own_blk hown rfl).2
      have HO:=Lib.hid hown
      have HG:=Lib.hid hg
      clear hown hg ha
      go_wp2_with fail
      refine (markText_x _ (k0 + k) _ (by omega) (by omega) (by omega)).mono ?_
      rintro e w2 ⟨rfl,hb⟩
      have hown2:=own_below HO.out hb (Nat.le_refl _)
      have hst:=hown2.stored k (.string (markT (k0 + k)))
      have hfl : (cellsS (marksS k0 k ++ l.drop k)).length = n:=by have:=HL.out;simp [cellsS,marksS_len];omega
      obtain ⟨z0,c0⟩ : ∃ z,w2.cell? ⟨g,k,none⟩ = some z:=⟨_,(hown2.cellAt k (by omega)).trans (List.getElem?_eq_getElem (by omega))⟩
      have f0:=hown2.frozenAt k
      have hgb : wr.grownBy w2 (some g):=⟨hb.os,hb.tape,hb.output,hb.size,fun i hi _=>hb.block i hi⟩
      have HS:=Lib.hid hst
      have HB:=Lib.hid hgb
      clear hown2 hst hb hfl hgb
      go_wp2
      refine ⟨⟨k + 1,hlt,rfl,rfl,?_,(HG.out.trans HB.out).trans HS.out.2⟩,by simp [intOf];omega⟩
      have hsp:=marks_step Value.string (fun i=>markT (k0 + i)) l k (by rw [HL.out];omega)
      have:=HS.out.1
      unfold cellsS marksS at this
      rw [hsp] at this
      exact this
    · go_wp2
      go_ret
      obtain rfl : k = n:=by omega
      have hown : wr.ownsRow base 9 1 (.slice A k c) k (cellsS (marksS k0 k ++ l.drop k)):=hown
      rw [List.drop_of_length_le (by rw [HL.out];omega),List.append_nil] at hown
      exact ⟨ret_i rfl,hown,hg⟩
theorem own_row {w : World} {base t k : Nat} {es : List (List DV)} {cells : List Value} {v : Value} {f : List Nat} (hf : es.flatten = cells.map .sc) (h : OwnL w base [v] [.sl t k es] f) : w.ownsRow base t k v es.length cells∧f = v.ownBlock.toList:=by
  cases h with
  | @sl _ _ _ _ cs g vs ds f' h1 h2 h3 h4 h5 h6 =>
    cases h5
    have hfl : Flat es.flatten:=by rw [hf];intro d hd;obtain ⟨x,_,rfl⟩:=List.mem_map.1 hd;exact ⟨x,rfl⟩
    have hg:=own_flat_nil h4 hfl
    subst hg
    have hc:=h4.rep
    rw [hf] at hc
    have : cs = cells:=by
      have key : ∀ {A : Nat→Prop} {a b : List Value},RepL w A a (b.map .sc)→a = b:=by
        intro A a b
        induction b generalizing a with
        | nil=>intro h;cases h;rfl
        | cons x b ih=>intro h;cases h with | sc _ h2=>rw [ih h2]
      exact key hc
    subst this
    exact ⟨h1,by simp⟩
theorem row_own {w : World} {base t k : Nat} {es : List (List DV)} {cells : List Value} {v : Value} (hf : es.flatten = cells.map .sc) (hs : ∀ u ∈ cells,Sc u) (hk : 0 < k) (he : ∀ e ∈ es,e.length = k) (h : w.ownsRow base t k v es.length cells) : OwnL w base [v] [.sl t k es] v.ownBlock.toList:=by
  have hf2 : OwnL w base cells es.flatten []:=by
    rw [hf]
    clear h hf
    induction cells with
    | nil=>exact .nil
    | cons x b ih=>exact .sc (hs x (List.mem_cons_self ..)) (ih fun v hv=>hs v (List.mem_cons_of_mem _ hv))
  have:=OwnL.sl (t:=t) (k:=k) (es:=es) (vs:=[]) (ds:=[]) (f:=[]) h hk he hf2 .nil (by cases v.ownBlock <;> simp)
  simpa using this
theorem flatS (l : List ByteArray) : (l.map encS).flatten = (cellsS l).map .sc:=by
  induction l with
  | nil=>rfl
  | cons x l ih=>rw [List.map_cons,List.flatten_cons,ih];rfl
theorem markStringS_k (l : List ByteArray) (k0 : Nat) (h0 : 0 < k0) (h1 : k0 + l.length≤4611686018427387904) : Marks Try.prog 25 false [encSs l] k0 [encSs (marksS k0 l.length)] ((k0 + l.length : Nat) : Int):=by
  refine ⟨by kernel_rfl,fun w base v vals fs hv ho hnd=>?_⟩
  have hv : vals = [v]:=hv
  subst hv
  obtain ⟨_,_,f,_,e,rfl,o0,ho⟩:=ownP_cons ho
  injection e with e1 e2
  subst e1 e2
  obtain ⟨-,rfl⟩:=ownP_nil ho
  obtain ⟨h2,rfl⟩:=own_row (flatS l) o0
  rw [List.length_map] at h2
  obtain ⟨A,c,rfl,-,-⟩:=own_shape h2
  refine (markStringS_any A l.length c base k0 l w h2 rfl h0 h1).mono ?_
  rintro e w' ⟨rfl,h3,h4⟩
  exact ⟨rfl,⟨row_own (flatS _) (by intro u hu;obtain ⟨x,_,rfl⟩:=List.mem_map.1 hu;trivial) (by decide) (by simp [encS]) (by rw [List.length_map,marksS_len];exact h3),trivial⟩,wrote_grown h4⟩
theorem marksS_get {k n i : Nat} (h : i < n) : (marksS k n).getD i default = markT (k + i):=by
  rw [List.getD_eq_getElem?_getD];simp [marksS,h]
theorem heldStringS_m (k0 n : Nat) (h0 : 0 < k0) (h1 : k0 + n≤4611686018427387904) : Meets Try.prog 26 [(false,[encSs (marksS k0 n)]),(false,[.sc (.int .i64 k0)])] [(false,[.sc (.int .i64 ((k0 + n : Nat) : Int))],true)]:=by
  have hl:=marksS_len k0 n
  refine meets_upf Try.func26 u_laws_heldStringS_g rfl ?_;simp only [u_laws_heldStringS_u]
  simp only [encSs]
  simp (disch:=first | omega | (simp only [lnA];omega) | simp only [lnB,Nat.reduceAdd]) only [go_sem,↓reduceIte,Nat.reduceAdd,Int.reduceNeg,Int.reduceAdd,Int.reduceSub,Int.reduceMul,Int.reduceLT,Int.reduceLE,Int.reduceEq,Int.reduceToNat,Nat.reduceBEq,nat1,true_and]
  refine lp_n n (fun i=>[.sc (.int .i64 i),.sc (.int .i64 ((k0 + i : Nat) : Int))]) rfl fun i hi=>?_
  simp only [u_laws_heldStringS_l0]
  by_cases hlt : i < n
  · have hg:=marksS_get (k:=k0) hlt
    have hm:=markText_m (k0 + i) (by omega) (by omega)
    have hk : ((k0 + i : Nat) : Int) + 1 = ((k0 + (i + 1) : Nat) : Int):=by omega
    repeat' (first | (with_reducible first | refine jn_in ?_ | refine cl_ok (by assumption) rfl ?_ | refine cl_okP (by assumption) rfl ?_ | refine br_x (fun hbr=>?_) fun hbr=>?_) | simp (disch:=first | omega | (simp only [lnA];omega) | simp only [lnB,Nat.reduceAdd]) only [go_sem,↓reduceIte,Nat.reduceAdd,Int.reduceNeg,Int.reduceAdd,Int.reduceSub,Int.reduceMul,Int.reduceLT,Int.reduceLE,Int.reduceEq,Int.reduceToNat,Nat.reduceBEq,nat1,hl,hg,eq_self,hk])
    all_goals first | omega | exact ⟨rfl,hlt⟩
  · obtain rfl : i = n:=by omega
    repeat' (first | (with_reducible first | refine jn_in ?_ | refine cl_ok (by assumption) rfl ?_ | refine cl_okP (by assumption) rfl ?_ | refine br_x (fun hbr=>?_) fun hbr=>?_) | simp (disch:=first | omega | (simp only [lnA];omega) | simp only [lnB,Nat.reduceAdd]) only [go_sem,↓reduceIte,Nat.reduceAdd,Int.reduceNeg,Int.reduceAdd,Int.reduceSub,Int.reduceMul,Int.reduceLT,Int.reduceLE,Int.reduceEq,Int.reduceToNat,Nat.reduceBEq,nat1,hl])
    all_goals first | omega | rfl
section
variable {w w' : World} {base : Nat} {vs : List Value} {ds : List DV} {f : List Nat}
theorem OwnL.setSc (h : OwnL w base vs ds f) : ∀ {p : Nat} {x u : Value},ds[p]? = some (.sc x)→Sc u→OwnL w base (vs.set p u) (ds.set p (.sc u)) f:=by
  induction h with
  | nil=>intro p x u hp;simp at hp
  | @sc v vs ds f h1 h2 ih =>
    intro p x u hp hu
    cases p with
    | zero=>exact .sc hu h2
    | succ p=>exact .sc h1 (ih (by simpa using hp) hu)
  | sl h1 h2 h3 h4 h5 h6 _ ih =>
    intro p x u hp hu
    cases p with
    | zero=>simp at hp
    | succ p=>exact .sl h1 h2 h3 h4 (ih (by simpa using hp) hu) h6
theorem OwnL.one_at (h : OwnL w base vs ds f) : ∀ {p : Nat} {d : DV},ds[p]? = some d→∃ u f2,vs[p]? = some u∧OwnL w base [u] [d] f2∧(∀ b ∈ f2,b ∈ f) ∧
    ∀ (w' : World) (d' : DV),(∀ b ∈ f,b ∉ f2→w'.heap[b]? = w.heap[b]?)→OwnL w' base [u] [d'] f2→OwnL w' base vs (ds.set p d') f:=by
  induction h with
  | nil=>intro p d hp;simp at hp
  | @sc v vs ds f h1 h2 ih =>
    intro p d hp
    cases p with
    | zero =>
      simp at hp;subst hp
      refine ⟨v,[],rfl,.sc h1 .nil,by simp,fun w' d' hk ho=>?_⟩
      have:=ho.app (h2.keep fun b hb=>hk b hb (by simp)) (by simp)
      simpa using this
    | succ p =>
      obtain ⟨u,f2,a1,a2,a3,a4⟩:=ih (by simpa using hp)
      exact ⟨u,f2,by simpa using a1,a2,a3,fun w' d' hk ho=>.sc h1 (a4 w' d' hk ho)⟩
  | @sl v t k es cells g vs ds f h1 h2 h3 h4 h5 h6 ih1 ih2 =>
    intro p d hp
    rw [← List.append_assoc] at h6
    obtain ⟨n1,n2,n3⟩:=List.nodup_append.1 h6
    cases p with
    | zero =>
      simp at hp;subst hp
      refine ⟨v,v.ownBlock.toList ++ g,rfl,?_,fun b hb=>?_,fun w' d' hk ho=>?_⟩
      · have:=OwnL.sl (vs:=[]) (ds:=[]) (f:=[]) h1 h2 h3 h4 .nil (by simpa using n1)
        simpa using this
      · rw [← List.append_assoc];exact List.mem_append_left _ hb
      · have hk2 : OwnL w' base vs ds f:=h5.keep fun b hb=>hk b (by rw [← List.append_assoc];exact List.mem_append_right _ hb) (fun hc=>n3 b hc b hb rfl)
        have:=ho.app hk2 (fun b hb hc=>n3 b hb b hc rfl)
        simpa using this
    | succ p =>
      obtain ⟨u,f2,a1,a2,a3,a4⟩:=ih2 (by simpa using hp)
      refine ⟨u,f2,by simpa using a1,a2,fun b hb=>by rw [← List.append_assoc];exact List.mem_append_right _ (a3 b hb),fun w' d' hk ho=>?_⟩
      have hx : ∀ b,b ∈ v.ownBlock.toList ++ g→w'.heap[b]? = w.heap[b]?:=fun b hb=>hk b (by rw [← List.append_assoc];exact List.mem_append_left _ hb) (fun hc=>n3 b hb b (a3 b hc) rfl)
      refine .sl (own_keep h1 fun b hb=>hx b (by simp [hb])) h2 h3 (h4.keep fun b hb=>hx b (by simp [hb])) (a4 w' d' (fun b hb hn=>hk b (by rw [← List.append_assoc];exact List.mem_append_right _ hb) hn) ho) (by rw [← List.append_assoc];exact h6)
theorem flat_set1 {α : Type} {k : Nat} {d : α} : ∀ {es : List (List α)} {j off : Nat} {e : List α},(∀ e ∈ es,e.length = k)→es[j]? = some e→off < k→(es.set j (e.set off d)).flatten = es.flatten.set (j * k + off) d
  | [],j,off,e,_,h,_=>by simp at h
  | a :: es,0,off,e,hk,h,ho=>by
    simp at h;subst h
    have:=hk a (List.mem_cons_self ..)
    simp only [List.set_cons_zero,List.flatten_cons,Nat.zero_mul,Nat.zero_add]
    rw [List.set_append_left _ _ (by omega)]
  | a :: es,j + 1,off,e,hk,h,ho=>by
    have ha:=hk a (List.mem_cons_self ..)
    have ih:=flat_set1 (d:=d) (es:=es) (j:=j) (off:=off) (e:=e) (fun e he=>hk e (List.mem_cons_of_mem _ he)) (by simpa using h) ho
    simp only [List.set_cons_succ,List.flatten_cons,ih]
    rw [List.set_append_right _ _ (by rw [Nat.succ_mul];omega)]
    congr 2
    rw [Nat.succ_mul];omega
theorem flat_get1 {α : Type} {k : Nat} {es : List (List α)} {j off : Nat} {e : List α} {d : α} (hk : ∀ e ∈ es,e.length = k) (h : es[j]? = some e) (ho : e[off]? = some d) : es.flatten[j * k + off]? = some d:=by
  have h1:=flat_at hk h
  have hlt : off < e.length:=(List.getElem?_eq_some_iff.1 ho).1
  have : ((es.flatten.drop (j * k)).take k)[off]? = some d:=by rw [h1];exact ho
  rw [List.getElem?_take,if_pos (by rw [← hk e (List.mem_of_getElem? h)];exact hlt),List.getElem?_drop] at this
  exact this
variable {t k : Nat} {es : List (List DV)} {g n c : Nat}
theorem own_lens (h : OwnL w base [.slice (some ⟨g,0,none⟩) n c] [.sl t k es] f) : n = es.length∧0 < k∧(∀ e ∈ es,e.length = k)∧g ∈ f∧base≤g∧g < w.heap.size:=by
  cases h with
  | sl h1 h2 h3 h4 h5 h6 =>
    obtain ⟨a,c',e,_⟩:=own_shape h1
    injection e with _ e _
    have:=own_blk h1 rfl
    exact ⟨e,h2,h3,by simp [Value.ownBlock],this.1,this.2⟩
theorem own_store (h : OwnL w base [.slice (some ⟨g,0,none⟩) n c] [.sl t k es] f) {j off : Nat} {e : List DV} {x u : Value} (he : es[j]? = some e) (ho : e[off]? = some (.sc x)) (hu : Sc u) :
    OwnL (w.setCell ⟨g,j * k + off,none⟩ u) base [.slice (some ⟨g,0,none⟩) n c] [.sl t k (es.set j (e.set off (.sc u)))] f∧(∃ z,w.cell? ⟨g,j * k + off,none⟩ = some z)∧w.frozen? ⟨g,j * k + off,none⟩ = false:=by
  cases h with
  | @sl v t k es cells f1 vs ds f2 h1 h2 h3 h4 h5 h6 =>
    cases h5
    obtain ⟨_,_,en,_⟩:=own_shape h1
    injection en with _ en _
    subst en
    have hcl : cells.length = es.length * k:=h1.1
    have hek : e.length = k:=h3 e (List.mem_of_getElem? he)
    have hlt : off < k:=by rw [← hek];exact (List.getElem?_eq_some_iff.1 ho).1
    have hp:=flat_get1 h3 he ho
    have hlen : (es.set j (e.set off (.sc u))).length = es.length:=by simp
    have hst:=h1.stored (j * k + off) u
    have hset:=h4.setSc hp hu
    rw [← flat_set1 h3 he hlt] at hset
    have hnd : ∀ b ∈ f1,b ≠ g:=by
      intro b hb e
      subst e
      have:=(List.nodup_append.1 h6).2.2 b (by simp [Value.ownBlock]) b (by simp [hb])
      exact this rfl
    have hpc : j * k + off < cells.length:=by rw [h4.rep.len];exact (List.getElem?_eq_some_iff.1 hp).1
    refine ⟨?_,⟨_,(h1.cellAt (j * k + off) (by omega)).trans (List.getElem?_eq_getElem hpc)⟩,h1.frozenAt _⟩
    · refine .sl (by rw [hlen];exact hst.1) h2 (fun e' he'=>?_) (hset.keep fun b hb=>?_) .nil h6
      · rcases List.mem_or_eq_of_mem_set he' with h | h
        · exact h3 e' h
        · subst h;simpa using hek
      · exact Below.heap_setCell w ⟨g,j * k + off,none⟩ u b (fun e=>hnd b hb e)
theorem own_sub (h : OwnL w base [.slice (some ⟨g,0,none⟩) n c] [.sl t k es] f) {j off : Nat} {e : List DV} {d : DV} (he : es[j]? = some e) (ho : e[off]? = some d) :
    ∃ u f2,w.cell? ⟨g,j * k + off,none⟩ = some u∧OwnL w base [u] [d] f2∧(∀ b ∈ f2,b ∈ f∧b ≠ g) ∧
      ∀ (w' : World) (d' : DV),(∀ b ∈ f,b ∉ f2→w'.heap[b]? = w.heap[b]?)→OwnL w' base [u] [d'] f2→OwnL w' base [.slice (some ⟨g,0,none⟩) n c] [.sl t k (es.set j (e.set off d'))] f:=by
  cases h with
  | @sl v t k es cells f1 vs ds f2 h1 h2 h3 h4 h5 h6 =>
    cases h5
    obtain ⟨_,_,en,_⟩:=own_shape h1
    injection en with _ en _
    subst en
    have hcl : cells.length = es.length * k:=h1.1
    have hek : e.length = k:=h3 e (List.mem_of_getElem? he)
    have hlt : off < k:=by rw [← hek];exact (List.getElem?_eq_some_iff.1 ho).1
    have hp:=flat_get1 h3 he ho
    have hnd : ∀ b ∈ f1,b ≠ g:=by
      intro b hb e
      subst e
      exact (List.nodup_append.1 h6).2.2 b (by simp [Value.ownBlock]) b (by simp [hb]) rfl
    obtain ⟨u,f3,a1,a2,a3,a4⟩:=h4.one_at hp
    refine ⟨u,f3,(h1.cellAt (j * k + off) (by rw [← hcl];exact (List.getElem?_eq_some_iff.1 a1).1)).trans a1,a2,fun b hb=>⟨by simp [a3 b hb],hnd b (a3 b hb)⟩,fun w' d' hk ho'=>?_⟩
    have hc:=a4 w' d' (fun b hb hn=>hk b (by simp [hb]) hn) ho'
    rw [← flat_set1 h3 he hlt] at hc
    have hkg : w'.heap[g]? = w.heap[g]?:=hk g (by simp [Value.ownBlock]) (fun hx=>hnd _ (a3 _ hx) rfl)
    have ho1 : w'.ownsRow base t k (Value.slice (some ⟨g,0,none⟩) es.length c) es.length cells:=own_keep h1 fun b hb=>by
      injection hb with hb
      subst hb
      exact hkg
    refine .sl (by rw [List.length_set];exact ho1) h2 (fun e' he'=>?_) hc .nil h6
    rcases List.mem_or_eq_of_mem_set he' with h | h
    · exact h3 e' h
    · subst h;simpa using hek
end
end Go.Proofs.Ytboheedjhnbnhaa
namespace Go.Proofs.Ytboheedjhnbnhaa
open Go.RowKit
section
variable {w w1 w2 w3 : World} {f f2 : List Nat}
theorem Wrote.refl (w : World) (f : List Nat) : Wrote w w f:=⟨rfl,rfl,rfl,Nat.le_refl _,fun _ _ _=>rfl⟩
theorem Wrote.trans (h : Wrote w w1 f) (k : Wrote w1 w2 f) : Wrote w w2 f :=
  ⟨k.os.trans h.os,k.tape.trans h.tape,k.output.trans h.output,Nat.le_trans h.size k.size,fun b hb hn=>(k.block b (Nat.lt_of_lt_of_le hb h.size) hn).trans (h.block b hb hn)⟩
theorem Wrote.mono (h : Wrote w w1 f2) (hs : ∀ b ∈ f2,b ∈ f) : Wrote w w1 f:=⟨h.os,h.tape,h.output,h.size,fun b hb hn=>h.block b hb fun hx=>hn (hs b hx)⟩
theorem Wrote.below (h : Below w.heap.size w w1) : Wrote w w1 f:=⟨h.os,h.tape,h.output,h.size,fun b hb _=>h.block b hb⟩
theorem Wrote.cell (w : World) {g o : Nat} {u : Value} (h : g ∈ f) (hg : g < w.heap.size) : Wrote w (w.setCell ⟨g,o,none⟩ u) f:=by
  have hb:=Below.setCell (Below.refl 0 w) (p:=⟨g,o,none⟩) (Nat.zero_le _) u
  refine ⟨hb.os,hb.tape,hb.output,hb.size,fun b hb hn=>?_⟩
  exact Below.heap_setCell w ⟨g,o,none⟩ u b (fun e=>hn (e ▸ h))
end
section
variable {wr : World} {base n c t k g : Nat} {es : List (List DV)} {f : List Nat} {d0 d1 d2 d4 u0 u1 u2 u4 : Value} {d3 : DV}
theorem nod_cells (h : OwnL wr base [.slice (some ⟨g,0,none⟩) n c] [.sl t 5 es] f) (he : es[k]? = some [.sc d0,.sc d1,.sc d2,d3,.sc d4]) :
    (∃ z,wr.cell? ⟨g,k * 5,none⟩ = some z)∧(∃ z,wr.cell? ⟨g,k * 5 + 1,none⟩ = some z)∧(∃ z,wr.cell? ⟨g,k * 5 + 2,none⟩ = some z)∧(∃ z,wr.cell? ⟨g,k * 5 + 4,none⟩ = some z) ∧
    wr.frozen? ⟨g,k * 5,none⟩ = false∧wr.frozen? ⟨g,k * 5 + 1,none⟩ = false∧wr.frozen? ⟨g,k * 5 + 2,none⟩ = false∧wr.frozen? ⟨g,k * 5 + 4,none⟩ = false ∧
    ∃ u,wr.cell? ⟨g,k * 5 + 3,none⟩ = some u:=by
  obtain ⟨-,a1,a2⟩:=own_store h (off:=0) (u:=.bool true) he rfl trivial
  obtain ⟨-,b1,b2⟩:=own_store h (off:=1) (u:=.bool true) he rfl trivial
  obtain ⟨-,c1,c2⟩:=own_store h (off:=2) (u:=.bool true) he rfl trivial
  obtain ⟨-,e1,e2⟩:=own_store h (off:=4) (u:=.bool true) he rfl trivial
  obtain ⟨u,-,hu,-⟩:=own_sub h (off:=3) he rfl
  exact ⟨a1,b1,c1,e1,a2,b2,c2,e2,u,hu⟩
theorem adr_ne {g o o' : Nat} (h : o ≠ o') : (⟨g,o,none⟩ : Addr) ≠ ⟨g,o',none⟩:=fun e=>h (by injection e)
theorem nod_step (h : OwnL wr base [.slice (some ⟨g,0,none⟩) n c] [.sl t 5 es] f) (he : es[k]? = some [.sc d0,.sc d1,.sc d2,d3,.sc d4]) (s0 : Sc u0) (s1 : Sc u1) (s2 : Sc u2) (s4 : Sc u4) {u : Value} (hu : wr.cell? ⟨g,k * 5 + 3,none⟩ = some u)
    {w2 : World} (hb : Below ((wr.setCell ⟨g,k * 5,none⟩ u0).setCell ⟨g,k * 5 + 1,none⟩ u1).heap.size ((wr.setCell ⟨g,k * 5,none⟩ u0).setCell ⟨g,k * 5 + 1,none⟩ u1) w2) :
    ∃ f2,OwnL (w2.setCell ⟨g,k * 5 + 2,none⟩ u2) base [u] [d3] f2∧∀ (w4 : World) (d3' : DV),OwnL w4 base [u] [d3'] f2→Wrote (w2.setCell ⟨g,k * 5 + 2,none⟩ u2) w4 f2 →
      (∃ z,w4.cell? ⟨g,k * 5 + 4,none⟩ = some z)∧w4.frozen? ⟨g,k * 5 + 4,none⟩ = false ∧
      OwnL (w4.setCell ⟨g,k * 5 + 4,none⟩ u4) base [.slice (some ⟨g,0,none⟩) n c] [.sl t 5 (es.set k [.sc u0,.sc u1,.sc u2,d3',.sc u4])] f∧Wrote wr (w4.setCell ⟨g,k * 5 + 4,none⟩ u4) f:=by
  have hk : k < es.length:=(List.getElem?_eq_some_iff.1 he).1
  have hg:=own_lens h
  obtain ⟨-,-,-,gf,-,gs⟩:=hg
  have a1:=(own_store h (off:=0) (u:=u0) he rfl s0).1
  have e1 : (es.set k ([.sc d0,.sc d1,.sc d2,d3,.sc d4].set 0 (.sc u0)))[k]? = some [.sc u0,.sc d1,.sc d2,d3,.sc d4]:=by rw [List.getElem?_set,if_pos rfl,if_pos hk];rfl
  have a2:=(own_store a1 (off:=1) (u:=u1) e1 rfl s1).1
  have e2 : ((es.set k ([.sc d0,.sc d1,.sc d2,d3,.sc d4].set 0 (.sc u0))).set k ([.sc u0,.sc d1,.sc d2,d3,.sc d4].set 1 (.sc u1)))[k]? = some [.sc u0,.sc u1,.sc d2,d3,.sc d4]:=by rw [List.getElem?_set,if_pos rfl,if_pos (by simpa using hk)];rfl
  have wA : Wrote wr ((wr.setCell ⟨g,k * 5,none⟩ u0).setCell ⟨g,k * 5 + 1,none⟩ u1) f:=(Wrote.cell wr gf gs).trans (Wrote.cell _ gf (by simpa using gs))
  generalize hW : (wr.setCell ⟨g,k * 5,none⟩ u0).setCell ⟨g,k * 5 + 1,none⟩ u1 = W at *
  have a2 : OwnL W base [.slice (some ⟨g,0,none⟩) n c] [.sl t 5 ((es.set k ([.sc d0,.sc d1,.sc d2,d3,.sc d4].set 0 (.sc u0))).set k ([.sc u0,.sc d1,.sc d2,d3,.sc d4].set 1 (.sc u1)))] f:=a2
  have a3:=a2.keep fun b hbf=>hb.block b (a2.blocks b hbf).2
  have gs2:=(own_lens a3).2.2.2.2.2
  have wB : Wrote wr w2 f:=wA.trans (Wrote.below hb)
  have a4:=(own_store a3 (off:=2) (u:=u2) e2 rfl s2).1
  have e4 : (((es.set k ([.sc d0,.sc d1,.sc d2,d3,.sc d4].set 0 (.sc u0))).set k ([.sc u0,.sc d1,.sc d2,d3,.sc d4].set 1 (.sc u1))).set k ([.sc u0,.sc u1,.sc d2,d3,.sc d4].set 2 (.sc u2)))[k]? = some [.sc u0,.sc u1,.sc u2,d3,.sc d4]:=by rw [List.getElem?_set,if_pos rfl,if_pos (by simpa using hk)];rfl
  have wC : Wrote wr (w2.setCell ⟨g,k * 5 + 2,none⟩ u2) f:=wB.trans (Wrote.cell _ gf gs2)
  obtain ⟨u',f2,b1,b2,b3,b4⟩:=own_sub a4 (off:=3) e4 rfl
  have hu' : u' = u:=by
    rw [World.cell?_setCell_other (h:=adr_ne (by omega))] at b1
    have hgW : g < W.heap.size:=(own_lens a2).2.2.2.2.2
    have : w2.cell? ⟨g,k * 5 + 3,none⟩ = W.cell? ⟨g,k * 5 + 3,none⟩:=(bcell hb).1 g _ hgW
    rw [this,← hW,World.cell?_setCell_other (h:=adr_ne (by omega)),World.cell?_setCell_other (h:=adr_ne (by omega)),hu] at b1
    injection b1 with b1;exact b1.symm
  subst hu'
  refine ⟨f2,b2,fun w4 d3' ho hw=>?_⟩
  have a5:=b4 w4 d3' (fun b hbf hn=>hw.block b (a4.blocks b hbf).2 hn) ho
  have e5 : ((((es.set k ([.sc d0,.sc d1,.sc d2,d3,.sc d4].set 0 (.sc u0))).set k ([.sc u0,.sc d1,.sc d2,d3,.sc d4].set 1 (.sc u1))).set k ([.sc u0,.sc u1,.sc d2,d3,.sc d4].set 2 (.sc u2))).set k ([.sc u0,.sc u1,.sc u2,d3,.sc d4].set 3 d3'))[k]? = some [.sc u0,.sc u1,.sc u2,d3',.sc d4]:=by rw [List.getElem?_set,if_pos rfl,if_pos (by simpa using hk)];rfl
  obtain ⟨a6,z6,f6⟩:=own_store a5 (off:=4) (u:=u4) e5 rfl s4
  refine ⟨z6,f6,?_,(wC.trans (hw.mono fun b hb=>(b3 b hb).1)).trans (Wrote.cell _ gf (own_lens a5).2.2.2.2.2)⟩
  simpa using a6
end
def wNd (x : Nod) : Nat:=4 + x.labels.length
def mkNd (o : Nat) (x : Nod) : Nod:=⟨(o : Nat),(o + 1 : Nat),markT (o + 2),marksS (o + 3) x.labels.length,(o + 3 + x.labels.length : Nat)⟩
def offN (l : List Nod) (i : Nat) : Nat:=sumOf wNd (l.take i)
def mixN (k0 : Nat) (l : List Nod) (i : Nat) : List Nod:=((List.range i).map fun j=>mkNd (k0 + offN l j) (l.getD j default)) ++ l.drop i
def marksN (k0 : Nat) (l : List Nod) : List Nod:=(List.range l.length).map fun j=>mkNd (k0 + offN l j) (l.getD j default)
theorem offN_succ {l : List Nod} {i : Nat} (h : i < l.length) : offN l (i + 1) = offN l i + (4 + (l.getD i default).labels.length):=sumOf_take wNd h
theorem offN_le (l : List Nod) (i : Nat) : offN l i≤sumOf wNd l:=sumOf_le wNd l i
theorem mixN_0 (k0 : Nat) (l : List Nod) : mixN k0 l 0 = l:=by simp [mixN]
theorem mixN_end (k0 : Nat) (l : List Nod) : mixN k0 l l.length = marksN k0 l:=by simp [mixN,marksN]
theorem mixN_len {k0 : Nat} {l : List Nod} {i : Nat} (h : i≤l.length) : (mixN k0 l i).length = l.length:=by simp [mixN];omega
theorem mixN_get {k0 : Nat} {l : List Nod} {i : Nat} (h : i < l.length) : ((mixN k0 l i).map encNod)[i]? = some (encNod (l.getD i default)):=by
  unfold mixN
  rw [List.getElem?_map,List.getElem?_append_right (by simp),List.length_map,List.length_range,Nat.sub_self,List.getElem?_drop,Nat.add_zero,List.getD_eq_getElem?_getD,List.getElem?_eq_getElem h];rfl
theorem own_some {w : World} {base n c t k : Nat} {A : Option Addr} {es : List (List DV)} {f : List Nat} (h : OwnL w base [.slice A n c] [.sl t k es] f) (hn : 0 < es.length) : ∃ g,A = some ⟨g,0,none⟩:=by
  cases h with
  | sl h1 h2 h3 h4 h5 h6 =>
    obtain ⟨g,cap,hv,-,-⟩:=h1.form hn
    injection hv with e1 e2 e3
    exact ⟨g,e1⟩
theorem mixN_set {k0 : Nat} {l : List Nod} {i : Nat} (h : i < l.length) : ((mixN k0 l i).map encNod).set i (encNod (mkNd (k0 + offN l i) (l.getD i default))) = (mixN k0 l (i + 1)).map encNod:=marks_step encNod (fun j=>mkNd (k0 + offN l j) (l.getD j default)) l i h
theorem own_cap {w : World} {base n c t k : Nat} {A : Option Addr} {es : List (List DV)} {f : List Nat} (h : OwnL w base [.slice A n c] [.sl t k es] f) : n≤9223372036854775807:=by
  cases h with
  | sl h1 h2 h3 h4 h5 h6 =>
    obtain ⟨A,c',e,e1,e2⟩:=own_shape h1
    injection e with _ e _
    unfold maxLen at e2
    omega
theorem marks_x {P : Program} {fn : FuncId} {d d' : DV} {k k' : Int} (h : Marks P fn false [d] k [d'] k') {w : World} {base : Nat} {u : Value} {f2 : List Nat} (ho : OwnL w base [u] [d] f2) {x : Int} (hx : x = k) :
    Calls P fn #[u,.int .i64 x] w fun e w'=>e = .returned (.int .i64 k')∧OwnL w' base [u] [d'] f2∧Wrote w w' f2:=by
  subst hx
  refine (h.2 w base u [u] [f2] rfl ⟨ho,trivial⟩ (by simpa using ho.nodup)).mono ?_
  rintro e w' ⟨h1,⟨h2,-⟩,h3⟩
  exact ⟨h1,h2,by simpa using h3⟩
def NRel (k0 n : Nat) (w : World) (base : Nat) (A : Option Addr) (c : Nat) (l : List Nod) (f : List Nat) (v1 v5 : Value) (wr : World) : Prop :=
  ∃ k : Nat,k≤n∧v5 = .int .i64 k∧v1 = .int .i64 ((k0 + offN l k : Nat) : Int)∧OwnL wr base [.slice A n c] [.sl 40 5 ((mixN k0 l k).map encNod)] f∧Wrote w wr f
set_option maxRecDepth 100000 in
theorem markNodeS_any (A : Option Addr) (n c base k0 : Nat) (l : List Nod) (f : List Nat) (w : World) (ha : OwnL w base [.slice A n c] [.sl 40 5 (l.map encNod)] f) (hl : l.length = n) (h0 : 0 < k0) (h1 : k0 + sumOf wNd l≤4611686018427387904) :
    Calls Try.prog 9 #[.slice A n c,.int .i64 k0] w fun e w'=>e = .returned (.int .i64 ((k0 + sumOf wNd l : Nat) : Int))∧OwnL w' base [.slice A n c] [.sl 40 5 ((marksN k0 l).map encNod)] f∧Wrote w w' f:=by
  have HL:=Lib.hid hl;clear hl
  go_enter Try.func9,Try.ntmps9
  go_wp2
  go_loopw [1,5] (NRel k0 n w base A c l f) (fun _ i _=>n - (intOf i).toNat)
  case atStart=>exact ⟨0,Nat.zero_le _,rfl,by simp [offN,sumOf],by rw [mixN_0];exact ha,Wrote.refl _ _⟩
  case round =>
    obtain ⟨k,hk,rfl,rfl,hown,hg⟩:=hrel
    by_cases hlt : k < n
    · have hkl : k < l.length:=by have:=HL.out;omega
      have he:=mixN_get (k0:=k0) hkl
      obtain ⟨g,rfl⟩:=own_some hown (by rw [List.length_map,mixN_len (by omega)];omega)
      obtain ⟨-,-,-,gf,-,gs⟩:=own_lens hown
      have hcp:=own_cap hown
      have hof:=offN_succ hkl
      have hol:=offN_le l (k + 1)
      have hms:=mixN_set (k0:=k0) hkl
      generalize l.getD k default = x at *
      generalize hes : (mixN k0 l k).map encNod = es at *
      obtain ⟨⟨z0,c0⟩,⟨z1,c1⟩,⟨z2,c2⟩,⟨z4,c4⟩,q0,q1,q2,q4,u,c3⟩:=nod_cells hown he
      generalize hK : k0 + offN l k = K at *
      have hKb : K + 4 + x.labels.length≤4611686018427387904:=by omega
      have NS:=fun (w2 : World) hb=>nod_step (u0:=.int .i64 K) (u1:=.int .i64 ((K : Int) + 1)) (u2:=.string (markT (K + 2))) (u4:=.int .i64 ((K + 3 + x.labels.length : Nat) : Int)) hown he trivial trivial trivial trivial c3 (w2:=w2) hb
      have HR:=Lib.hid NS
      have HG:=Lib.hid hg
      have HE:=Lib.hid hes
      have HK:=Lib.hid hK
      have HM:=Lib.hid hms
      have HF:=Lib.hid hof
      clear hown hg ha he NS hes hK hms hof hol
      go_wp2_with fail
      refine (markText_x _ (K + 2) _ (by omega) (by omega) (by omega)).mono ?_
      rintro e w2 ⟨rfl,hb⟩
      obtain ⟨f2,o3,HN⟩:=HR.out w2 hb
      obtain ⟨hc,hf⟩:=bcell hb
      have hz : g < w2.heap.size:=by have:=hb.size;simp at this;omega
      have HN:=Lib.hid HN
      have HO:=Lib.hid o3
      clear hb HR o3
      go_wp2_with fail
      refine (marks_x (markStringS_k x.labels (K + 3) (by omega) (by omega)) HO.out (by omega)).mono ?_
      rintro e w4 ⟨rfl,o4,wr4⟩
      obtain ⟨⟨z5,c5⟩,q5,o5,wr5⟩:=HN.out w4 _ o4 wr4
      have HW:=Lib.hid wr5
      have HP:=Lib.hid o5
      clear o4 wr4 o5 wr5 HN HO hc hf c0 c1 c2 c3 c4 q0 q1 q2 q4
      go_wp2
      go_roundw
      case rel =>
        refine ⟨k + 1,hlt,rfl,?_,?_,HG.out.trans HW.out⟩
        · congr 1;have:=HF.out;have:=HK.out;omega
        · rw [← HM.out]
          have:=HP.out
          unfold mkNd encNod encSs
          exact this
      case measure=>simp [intOf];omega
    · go_wp2
      go_ret
      obtain rfl : k = n:=by omega
      obtain rfl : l.length = k:=HL.out
      have he : offN l l.length = sumOf wNd l:=by unfold offN;rw [List.take_length]
      rw [mixN_end] at hown
      exact ⟨ret_i (by rw [he]),hown,hg⟩
theorem markNodeS_k (l : List Nod) (k0 : Nat) (h0 : 0 < k0) (h1 : k0 + sumOf wNd l≤4611686018427387904) : Marks Try.prog 9 false [encNods l] k0 [encNods (marksN k0 l)] ((k0 + sumOf wNd l : Nat) : Int):=by
  refine ⟨by kernel_rfl,fun w base v vals fs hv ho hnd=>?_⟩
  have hv : vals = [v]:=hv
  subst hv
  obtain ⟨_,_,f,_,e,rfl,o0,ho⟩:=ownP_cons ho
  injection e with e1 e2
  subst e1 e2
  obtain ⟨-,rfl⟩:=ownP_nil ho
  obtain ⟨A,n,c,rfl,hn⟩ : ∃ A n c,v = .slice A n c∧n = l.length:=by
    unfold encNods at o0
    cases o0 with
    | sl h1 h2 h3 h4 h5 h6 =>
      obtain ⟨A,c,e,-,-⟩:=own_shape h1
      exact ⟨A,_,c,e,by rw [List.length_map]⟩
  refine (markNodeS_any A n c base k0 l f w o0 hn.symm h0 h1).mono ?_
  rintro e w' ⟨rfl,h3,h4⟩
  exact ⟨rfl,⟨h3,trivial⟩,by simpa using h4⟩
theorem marksN_len (k0 : Nat) (l : List Nod) : (marksN k0 l).length = l.length:=by simp [marksN]
theorem marksN_get {k0 i : Nat} {l : List Nod} (h : i < l.length) : (marksN k0 l).getD i default = mkNd (k0 + offN l i) (l.getD i default):=by
  unfold marksN
  rw [List.getD_eq_getElem?_getD,List.getElem?_map,List.getElem?_range h];rfl
set_option maxRecDepth 100000 in
set_option maxHeartbeats 1000000 in
theorem heldNodeS_m (k0 : Nat) (l : List Nod) (h0 : 0 < k0) (h1 : k0 + sumOf wNd l≤4611686018427387904) (hl : l.length≤4611686018427387904) : Meets Try.prog 10 [(false,[encNods (marksN k0 l)]),(false,[.sc (.int .i64 k0)])] [(false,[.sc (.int .i64 ((k0 + sumOf wNd l : Nat) : Int))],true)]:=by
  have hml:=marksN_len k0 l
  refine meets_upf Try.func10 u_laws_heldNodeS_g rfl ?_;simp only [u_laws_heldNodeS_u]
  simp only [encNods]
  simp (disch:=first | omega | (simp only [lnA];omega) | simp only [lnB,Nat.reduceAdd]) only [go_sem,↓reduceIte,Nat.reduceAdd,Int.reduceNeg,Int.reduceAdd,Int.reduceSub,Int.reduceMul,Int.reduceLT,Int.reduceLE,Int.reduceEq,Int.reduceToNat,Nat.reduceBEq,nat1,true_and]
  refine lp_n l.length (fun i=>[.sc (.int .i64 i),.sc (.int .i64 ((k0 + offN l i : Nat) : Int))]) rfl fun i hi=>?_
  simp only [u_laws_heldNodeS_l0]
  by_cases hlt : i < l.length
  · have hg:=marksN_get (k0:=k0) hlt
    have hof:=offN_succ hlt
    have hol:=offN_le l (i + 1)
    generalize l.getD i default = x at *
    generalize offN l i = o at *
    rw [hof]
    have hm:=markText_m (k0 + o + 2) (by omega) (by omega)
    have hh:=heldStringS_m (k0 + o + 3) x.labels.length (by omega) (by omega)
    unfold mkNd at hg
    have e1 : ((k0 + o : Nat) : Int) + 1 = ((k0 + o + 1 : Nat) : Int):=by omega
    have e2 : ((k0 + o + 1 : Nat) : Int) + 1 = ((k0 + o + 2 : Nat) : Int):=by omega
    have e3 : ((k0 + o + 2 : Nat) : Int) + 1 = ((k0 + o + 3 : Nat) : Int):=by omega
    simp only [encSs] at hh
    repeat' (first | (with_reducible first | refine jn_in ?_ | refine cl_ok (by assumption) rfl ?_ | refine cl_okP (by assumption) rfl ?_ | refine br_x (fun hbr=>?_) fun hbr=>?_) | simp (disch:=first | omega | (simp only [lnA];omega) | simp only [lnB,Nat.reduceAdd]) only [go_sem,↓reduceIte,Nat.reduceAdd,Int.reduceNeg,Int.reduceAdd,Int.reduceSub,Int.reduceMul,Int.reduceLT,Int.reduceLE,Int.reduceEq,Int.reduceToNat,Nat.reduceBEq,nat1,ix_Nod,encNod,encSs,hml,hg,eq_self,e1,e2,e3])
    all_goals first | omega | (rw [show k0 + (o + (4 + x.labels.length)) = k0 + o + 3 + x.labels.length + 1 by omega];exact ⟨rfl,hlt⟩)
  · obtain rfl : i = l.length:=by omega
    have he : offN l l.length = sumOf wNd l:=by unfold offN;rw [List.take_length]
    repeat' (first | (with_reducible first | refine jn_in ?_ | refine cl_ok (by assumption) rfl ?_ | refine cl_okP (by assumption) rfl ?_ | refine br_x (fun hbr=>?_) fun hbr=>?_) | simp (disch:=first | omega | (simp only [lnA];omega) | simp only [lnB,Nat.reduceAdd]) only [go_sem,↓reduceIte,Nat.reduceAdd,Int.reduceNeg,Int.reduceAdd,Int.reduceSub,Int.reduceMul,Int.reduceLT,Int.reduceLE,Int.reduceEq,Int.reduceToNat,Nat.reduceBEq,nat1,hml])
    all_goals first | omega | (rw [← he];rfl) | skip
end Go.Proofs.Ytboheedjhnbnhaa
namespace Go.Proofs.Ytboheedjhnbnhaa
open Go.RowKit
theorem sumOf_wNd : ∀ (l : List Nod),sumOf wNd l≤4 * wtNods l
  | []=>by simp [sumOf]
  | x :: l=>by
    have ih:=sumOf_wNd l
    have h1 : x.labels.length≤wtSs x.labels:=wtSs_len (Nat.le_refl _)
    have h2 : wtNod x = x.text.size + wtSs x.labels:=rfl
    have h3 : wNd x = 4 + x.labels.length:=rfl
    simp only [sumOf,wtNods,List.length_cons] at ih ⊢
    omega
open Int (reduceNeg reduceSub reduceMul reduceLT reduceLE reduceEq reduceToNat)
set_option maxRecDepth 100000
set_option maxHeartbeats 8000000 in
theorem lawRenameName_m (a0 : List Nod) (ok0 : OkNods a0) (a1 : ByteArray) (ok1 : a1.size≤9223372036854775807) (a2 : ByteArray) (ok2 : a2.size≤9223372036854775807) :
    Meets Try.prog 3 [(false,[encNodsL a0]),(false,[.sc (.string a1)]),(false,[.sc (.string a2)])] [(false,[.sc (.bool true)],true)]:=by
  by_cases hs1 : a1.size≤1048576
  rotate_left
  · skip
    refine meets_upf Try.func3 u_laws_FnExactRenameName_g rfl ?_;simp only [u_laws_FnExactRenameName_u]
    simp only [encNods,encNodsL,encSs,encZs]
    repeat' (first | (with_reducible first | refine jn_in ?_ | refine cl_ok (by assumption) rfl ?_ | refine cl_okP (by assumption) rfl ?_ | refine br_x (fun hbr=>?_) fun hbr=>?_) | simp (disch:=first | omega | (simp only [lnA];omega) | simp only [lnB,Nat.reduceAdd]) only [go_sem,↓reduceIte,Nat.reduceAdd,reduceNeg,Int.reduceAdd,reduceSub,reduceMul,reduceLT,reduceLE,reduceEq,reduceToNat,Nat.reduceBEq,eq_self])
    all_goals first | rfl | omega
  by_cases hs2 : a2.size≤1048576
  rotate_left
  · skip
    refine meets_upf Try.func3 u_laws_FnExactRenameName_g rfl ?_;simp only [u_laws_FnExactRenameName_u]
    simp only [encNods,encNodsL,encSs,encZs]
    repeat' (first | (with_reducible first | refine jn_in ?_ | refine cl_ok (by assumption) rfl ?_ | refine cl_okP (by assumption) rfl ?_ | refine br_x (fun hbr=>?_) fun hbr=>?_) | simp (disch:=first | omega | (simp only [lnA];omega) | simp only [lnB,Nat.reduceAdd]) only [go_sem,↓reduceIte,Nat.reduceAdd,reduceNeg,Int.reduceAdd,reduceSub,reduceMul,reduceLT,reduceLE,reduceEq,reduceToNat,Nat.reduceBEq,eq_self])
    all_goals first | rfl | omega
  have hz0:=szNods_m a0 ((1048576 : Int)) ok0 (by omega) (by omega)
  by_cases hc0 : ((wtNods a0 : Nat) : Int)≤(1048576 : Int)
  rotate_left
  · rw [szF_gt (by omega)] at hz0
    refine meets_upf Try.func3 u_laws_FnExactRenameName_g rfl ?_;simp only [u_laws_FnExactRenameName_u]
    simp only [encNods,encNodsL,encSs,encZs] at hz0 ⊢
    repeat' (first | (with_reducible first | refine jn_in ?_ | refine cl_ok (by assumption) rfl ?_ | refine cl_okP (by assumption) rfl ?_ | refine br_x (fun hbr=>?_) fun hbr=>?_) | simp (disch:=first | omega | (simp only [lnA];omega) | simp only [lnB,Nat.reduceAdd]) only [go_sem,↓reduceIte,Nat.reduceAdd,reduceNeg,Int.reduceAdd,reduceSub,reduceMul,reduceLT,reduceLE,reduceEq,reduceToNat,Nat.reduceBEq,eq_self])
    all_goals first | rfl | omega
  rw [szF_le hc0] at hz0
  have hd0 : decide ((1048576 : Int) - ((wtNods a0 : Nat) : Int) < 0) = false:=decide_eq_false (by omega)
  have wa0 : wtNods a0≤1048576:=by omega
  have ht0:=toNods_m a0 (wa0)
  have hq0:=eqNods_m a0 (by omega)
  have hw0:=sumOf_wNd a0
  have hl0 : a0.length≤1048576:=(wtNods_ok wa0).1
  have h1:=specRen_m a0 a1 a2 wa0 hs1 hs2
  have h2:=implRen_m a0 a1 a2 wa0 hs1 hs2
  have hbd0:=renOf_wt (f:=a1) (g:=a2) wa0
  generalize renOf a0 a1 a2 = R at *
  obtain ⟨R0,R1⟩:=R
  simp only at h1 h2 hbd0
  have hv0:=sumOf_wNd R0
  have hn0 : R0.length≤wtNods R0:=by unfold wtNods;omega
  have hr0:=eqNods_m R0 (by omega)
  have hmx0 : Marks Try.prog 9 false [encNods a0] 1 [encNods (marksN (1) a0)] ((1 + sumOf wNd a0 : Nat) : Int):=markNodeS_k a0 (1) (by omega) (by omega)
  have hkx : decide (((1 + sumOf wNd a0 : Nat) : Int) < 0) = false:=decide_eq_false (by omega)
  have hmg0 : Marks Try.prog 9 false [encNods R0] 1 [encNods (marksN (1) R0)] ((1 + sumOf wNd R0 : Nat) : Int):=markNodeS_k R0 (1) (by omega) (by omega)
  have hhg0 : Meets Try.prog 10 [(false,[encNods (marksN (1) R0)]),(false,[.sc (.int .i64 1)])] [(false,[.sc (.int .i64 ((1 + sumOf wNd R0 : Nat) : Int))],true)]:=heldNodeS_m (1) R0 (by omega) (by omega) (by omega)
  have hkg0 : decide (((1 + sumOf wNd R0 : Nat) : Int) < 0) = false:=decide_eq_false (by omega)
  refine meets_upf Try.func3 u_laws_FnExactRenameName_g rfl ?_;simp only [u_laws_FnExactRenameName_u]
  simp only [encNods,encNodsL,encSs,encZs] at hz0 ht0 hq0 h1 h2 hr0 hmx0 hmg0 hhg0 ⊢
  have hx1 : decide (((a1.size : Nat) : Int) > 1048576) = false:=decide_eq_false (by omega)
  have hx2 : decide (((a2.size : Nat) : Int) > 1048576) = false:=decide_eq_false (by omega)
  repeat' (first | (with_reducible refine cl_ok (by assumption) rfl ?_) | (with_reducible refine cl_okP (by assumption) rfl ?_) | (refine mk_ok (by assumption) ?_ ?_;(· first | exact ⟨⟨_,rfl,rfl⟩,⟨_,rfl,rfl⟩,trivial⟩ | exact ⟨⟨_,rfl,rfl⟩,⟨_,rfl,rfl⟩,⟨_,rfl,rfl⟩,trivial⟩ | exact trivial | exact ⟨⟨_,rfl,rfl⟩,trivial⟩)) | simp (disch:=first | omega | (simp only [lnA];omega) | simp only [lnB,Nat.reduceAdd]) only [go_sem,↓reduceIte,Nat.reduceAdd,reduceNeg,Int.reduceAdd,reduceSub,reduceMul,reduceLT,reduceLE,reduceEq,reduceToNat,Nat.reduceBEq,hd0,hkx,hkg0,hx1,hx2])
  all_goals first | rfl | omega
end Go.Proofs.Ytboheedjhnbnhaa
namespace Go.Proofs.Ytboheedjhnbnhaa.fnExactRenameName
open Go.ChangeShapes Go.WideShapes Go.ChangeAt Go.RowKit
open Go.ChangeMaps (open_string shut_string)
theorem own : ownKnob Try.prog.godebug = none:=by kernel_rfl
theorem laidOut : laidOutB Try.prog = true:=by kernel_rfl
set_option maxRecDepth 100000 in
set_option maxHeartbeats 2000000 in
theorem walk {H : Type} (enc : TypeId × Value→H) (v0 v1 v2 : Value) (d0 d1 d2 : DataW H) (p0 p1 p2 : List MemPlace) (base : Nat) (w : World)
    (ok0 : Value.okWide Try.prog w .any base 22 v0) (h0 : DataW.Trod enc Try.prog w 0 (fun _=>true) true 22 v0 d0 p0)
    (ok1 : Value.okWide Try.prog w .any base 9 v1) (h1 : DataW.Trod enc Try.prog w 0 (fun _=>true) true 9 v1 d1 p1)
    (ok2 : Value.okWide Try.prog w .any base 9 v2) (h2 : DataW.Trod enc Try.prog w 0 (fun _=>true) true 9 v2 d2 p2)
    (sz : (DataW.weightsEach Try.prog [22,9,9] [d0,d1,d2]).all (·≤reachBytes) = true) :
    Calls Try.prog 3 #[v0,v1,v2] w fun e w'=>e = .returned (.bool true)∧Below w.heap.size w w':=by
  obtain ⟨a0,r0,i0⟩:=argD_sl (base:=base) opD_Nods Try.underlying22 h0 ok0
  obtain ⟨a1,r1,i1⟩:=argD_str (base:=base) (opD_str Try.underlying9) Try.underlying9 h1 ok1
  obtain ⟨a2,r2,i2⟩:=argD_str (base:=base) (opD_str Try.underlying9) Try.underlying9 h2 ok2
  exact run_law (lawRenameName_m a0 i0 a1 i1 a2 i2) (ArgsR.cons r0 (ArgsR.cons r1 (ArgsR.cons r2 ArgsR.nil)))
set_option maxRecDepth 100000 in
theorem lifted (os : Os) (started : os.Started) (H : Type) (enc : TypeId × Value→H) :
    ReturnsInHanded {} Try.checked os 3 .any (Rows.fnExactRenameNameSpec.pre6 enc Try.prog Try.f3 Rows.fnExactRenameNameRow.domain false) (Rows.fnExactRenameNameSpec.post enc Try.prog Try.f3 false true false false):=by
  refine returnsInHanded_of_change_sized (C:=Try.checked) own started (by kernel_rfl) Try.func3
    (ChangeSpec.witness6 (enc:=enc) (C:=Try.checked) false ⟨#[],#[.slice none 0 0,.string ByteArray.empty,.string ByteArray.empty],[]⟩ 8 (by kernel_rfl) (by kernel_rfl) (by kernel_rfl) (by kernel_rfl)) ?_
  intro W base args ds gs before hval0 hW hcnd0 hsz0 hholds
  have hval : ∀ (j : Nat) t v,Try.f3.params[j]? = some t→args[j]? = some v→Value.okWide Try.prog W .any base t v:=hval0
  have hsz : (DataW.weightsEach Try.prog (Try.f3.params.toList ++ Rows.fnExactRenameNameSpec.plain.varTypes Try.prog) (ds ++ gs)).all (·≤reachBytes) = true:=hsz0
  have hW':=hW
  obtain ⟨p,q,hA0,hV,rfl,hfz,hnd⟩:=hW
  have hA : DataW.TrodAll enc Try.prog W 0 (fun _=>true) true Try.f3.params.toList args.toList ds p:=hA0
  rw [Try.params3] at hA hval hsz
  obtain ⟨v0,vs0,d0,ds0,p0,q0,hargs,rfl,rfl,h0,r0⟩:=trodAll_cons hA
  obtain ⟨v1,vs1,d1,ds1,p1,q1,rfl,rfl,rfl,h1,r1⟩:=trodAll_cons r0
  obtain ⟨v2,vs2,d2,ds2,p2,q2,rfl,rfl,rfl,h2,r2⟩:=trodAll_cons r1
  obtain ⟨rfl,rfl,rfl⟩:=trodAll_nil r2
  obtain rfl : args = #[v0,v1,v2]:=by cases args;simp_all
  obtain ⟨rfl,rfl⟩:=trodVars_none hV
  have lt0 : ∀ x ∈ p0,x.block < W.heap.size:=by obtain ⟨m,hm⟩:=h0;exact DataW.trod_lt m _ _ _ hm
  have lt1 : ∀ x ∈ p1,x.block < W.heap.size:=by obtain ⟨m,hm⟩:=h1;exact DataW.trod_lt m _ _ _ hm
  have lt2 : ∀ x ∈ p2,x.block < W.heap.size:=by obtain ⟨m,hm⟩:=h2;exact DataW.trod_lt m _ _ _ hm
  refine (walk enc v0 v1 v2 d0 d1 d2 p0 p1 p2 base W (hval 0 22 v0 rfl rfl) h0 (hval 1 9 v1 rfl rfl) h1 (hval 2 9 v2 rfl rfl) h2 hsz).mono fun e W' ⟨he,bel⟩=>?_
  subst he
  exact ⟨_,rfl,_,_,_,[],_,[],hW',trodAll_mk1 (shut_bool Try.underlying4 _),(trodAll_cons_mk (Below.trod laidOut (by kernel_rfl) (of_decide_eq_true (by kernel_rfl)) h0 bel lt0) (trodAll_cons_mk (Below.trod laidOut (by kernel_rfl) (of_decide_eq_true (by kernel_rfl)) h1 bel lt1) (trodAll_cons_mk (Below.trod laidOut (by kernel_rfl) (of_decide_eq_true (by kernel_rfl)) h2 bel lt2) trodAll_mk0))),rfl,bel.frame _,fun h=>by cases h⟩
theorem over : Rows.fnExactRenameNameRow.holds Try.pinned (OpenSpec.ofChange Rows.fnExactRenameNameSpec) :=
  OpenClaim.holds_of_wide 3 Try.f3 rfl rfl rfl rfl rfl rfl rfl ⟨rfl,rfl,rfl,rfl,rfl⟩ rfl rfl rfl rfl rfl (by kernel_rfl) Try.func3 (by kernel_rfl)
    (of_decide_eq_true (by kernel_rfl)) (by unfold Func.isWrapper;first | (rw [if_pos (by decide +kernel)];kernel_rfl) | (rw [if_neg (by decide +kernel)];exact ⟨rfl,rfl⟩))
    (fun os started H enc _=>lifted os started H enc)
theorem proved : Rows.FnExactRenameNameSaid:=over
end Go.Proofs.Ytboheedjhnbnhaa.fnExactRenameName

