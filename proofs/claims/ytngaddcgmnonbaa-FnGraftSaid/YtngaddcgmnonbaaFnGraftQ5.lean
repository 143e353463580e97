/- Proved: for every input the law 'FnGraft' returns true and its arguments read behind the call as before: part 5 of its proof. No condition. -/
import Derived.WalkKit
import Derived.Lib.Hide
import Derived.WalkSpells
import Derived.Laws.OwnMore
import Derived.Deep.AppendLies
import Derived.Deep.Draws
import Derived.Maps.AppendAt
import Derived.RegionTactic
import Derived.OwnWalk
import Derived.Below
import Derived.Laws.AppendOwnNone
import Derived.Deep.QuietTactic
import Derived.BigQuiet
import Derived.StillTailTactics
import Derived.Laws.Cells
import Derived.Laws.IdiomCopy
import Derived.ChangeKeysEq
import Derived.Laws.BytesArg
import Derived.Laws.StructEq
import Derived.Laws.Tables
import Derived.Great.BuildSlice
import Derived.StillTail
import Derived.OrdersHeld
import Derived.Test.YtngaddcgmnonbaaProg
import Derived.Deep.Slices
import Derived.Deep.Fields
import Derived.ChangeSame
import Derived.OpenShut
import Derived.Test.YtngaddcgmnonbaaFnGraftQ4
set_option linter.unusedVariables false
set_option linter.unusedSimpArgs false
namespace Go.Proofs.Ytngaddcgmnonbaa
open Go.RowKit
set_option maxRecDepth 100000
def uU(b:Int):Bool:=decide (97<=b/\b<=122)||decide (65<=b/\b<=90)
def pT(b:Int):Bool:=decide (48<=b/\b<=57)
theorem qM(b:Int):aW Try.prog 65 [(false,[.sc (.int .u8 b)])] [(false,[.sc (.bool (uU b))],true)]:=by
 refine ax Try.func65 rA rfl ?_;simp only[jL]
 repeat' (first|(with_reducible first|refine am ?_|refine aj (by assumption) rfl ?_|refine ap (λhbr=>?_) λhbr=>?_)|simp(disch:=first|omega|(simp only[ak];omega)|simp only[al,Nat.reduceAdd]) only[go_sem,true_and])
 all_goals (refine aU ?_;unfold uU;rw[Bool.eq_iff_iff];simp;omega)
theorem oh(b:Int):aW Try.prog 62 [(false,[.sc (.int .u8 b)])] [(false,[.sc (.bool (pT b))],true)]:=by
 refine ax Try.func62 tD rfl ?_;simp only[kH]
 repeat' (first|(with_reducible first|refine am ?_|refine aj (by assumption) rfl ?_|refine ap (λhbr=>?_) λhbr=>?_)|simp(disch:=first|omega|(simp only[ak];omega)|simp only[al,Nat.reduceAdd]) only[go_sem,true_and])
 all_goals (refine aU ?_;unfold pT;rw[Bool.eq_iff_iff];simp;omega)
def P0:List ByteArray:=[⟨#[105,102]⟩,⟨#[101,108,115,101]⟩,⟨#[102,111,114]⟩,⟨#[105,110]⟩,⟨#[119,104,105,108,101]⟩,⟨#[98,114,101,97,107]⟩,⟨#[110,101,120,116]⟩,⟨#[102,117,110,99,116,105,111,110]⟩,⟨#[114,101,116,117,114,110]⟩,⟨#[84,82,85,69]⟩,⟨#[70,65,76,83,69]⟩,⟨#[78,85,76,76]⟩,⟨#[78,65]⟩,
 ⟨#[78,65,95,110,117,109,98,101,114,95]⟩,⟨#[78,65,95,99,104,97,114,97,99,116,101,114,95]⟩,⟨#[116,114,121,67,97,116,99,104]⟩,⟨#[119,105,116,104,67,97,108,108,105,110,103,72,97,110,100,108,101,114,115]⟩,⟨#[119,105,116,104,82,101,115,116,97,114,116]⟩,⟨#[105,110,118,111,107,101,82,101,115,116,97,114,116]⟩,⟨#[109,105,115,115,105,110,103]⟩,⟨#[111,110,46,101,120,105,116]⟩,⟨#[85,115,101,77,101,116,104,111,100]⟩,⟨#[78,101,120,116,77,101,116,104,111,100]⟩]
def Cb(s:ByteArray):Bool:=tQ P0 s
theorem rz(s:ByteArray):aW Try.prog 66 [(false,[.sc (.string s)])] [(false,[.sc (.bool (Cb s))],true)]:=by
 have h:=jP 9 P0 s (by decide);simp only[P0,List.map_cons,List.map_nil,dc]at h;refine ax Try.func66 oK rfl ?_;simp only[gB]
 repeat' (first|(with_reducible first|refine am ?_|refine aj (by assumption) rfl ?_|refine ap (λhbr=>?_) λhbr=>?_)|simp(disch:=first|omega|(simp only[ak];omega)|simp only[al,Nat.reduceAdd]) only[go_sem,true_and])
 rfl
def wA(s:ByteArray)(i:Nat):Bool:=uU (ah s i)||(decide (ah s i=46)||(!decide (i=0)&&(pT (ah s i)||decide (ah s i=95))))
def uY(s:ByteArray):Bool:=de s&&(!Cb s&&(cJ (wA s) s.size&& !(decide (ah s 0=46)&&(decide (1<s.size)&&pT (ah s 1)))))
theorem Lv{s:ByteArray}{i:Nat}(h:i<s.size)(hp:wA s i=false):uY s=false:=by unfold uY;rw[gP h hp];simp
set_option maxHeartbeats 2000000 in
theorem FN(s:ByteArray)(hs:s.size<=100000000000):aW Try.prog 67 [(false,[.sc (.string s)])] [(false,[.sc (.bool (uY s))],true)]:=by
 have h1:=λi=>qM (ah s i)
 have h2:=λi=>oh (ah s i)
 have h3:=eq s (by omega);have h4:=rz s;refine ax Try.func67 ke rfl ?_;simp only[eg];simp(disch:=first|omega|(simp only[ak];omega)|simp only[al,Nat.reduceAdd]) only[go_sem,true_and];refine lp (λi:Nat=>[.sc (.int .i64 i)]) (λi=>i<=s.size/\cJ (wA s) i=true) (λi=>s.size-i) 0 rfl ⟨by omega,rfl⟩ ?_;rintro i ⟨hi,hb⟩;have h1i:=h1 i;have h2i:=h2 i;have h20:=h2 1;simp only[dW];by_cases hlt:i<s.size
 ·repeat' (first|(with_reducible first|refine am ?_|refine aj (by assumption) rfl ?_|refine ap (λhbr=>?_) λhbr=>?_)|simp(disch:=first|omega|(simp only[ak];omega)|simp only[al,Nat.reduceAdd]) only[go_sem,dX])
  all_goals first|omega|exact aU (Lv (i:=i) hlt (by(first|(simp[-List.getD_eq_getElem?_getD,wA, *];done)|(simp_all[-List.getD_eq_getElem?_getD,wA];done)|(simp[-List.getD_eq_getElem?_getD,wA, *];omega)|(simp_all[-List.getD_eq_getElem?_getD,wA];omega)|omega)))|exact⟨i+1,rfl,⟨by omega,bW hb (by(first|(simp[-List.getD_eq_getElem?_getD,wA, *];done)|(simp_all[-List.getD_eq_getElem?_getD,wA];done)|(simp[-List.getD_eq_getElem?_getD,wA, *];omega)|(simp_all[-List.getD_eq_getElem?_getD,wA];omega)|omega))⟩,by omega⟩|skip
 ·obtain rfl:i=s.size:=by omega
  simp(disch:=first|omega|(simp only[ak];omega)|simp only[al,Nat.reduceAdd]) only[go_sem,true_and];refine bI (λhbr=>?_) (λhbr=>?_)
  ·omega
  simp(disch:=first|omega|(simp only[ak];omega)|simp only[al,Nat.reduceAdd]) only[go_sem,true_and];refine aj h3 rfl ?_;cases hn:de s
  ·simp(disch:=first|omega|(simp only[ak];omega)|simp only[al,Nat.reduceAdd]) only[go_sem,true_and];exact aU (by unfold uY;rw[hn];rfl)
  have hsz:=Du hn;rcases Nat.lt_or_ge 1 s.size with h1s|h1s
  ·repeat' (first|(with_reducible first|refine am ?_|refine aj (by assumption) rfl ?_|refine ap (λhbr=>?_) λhbr=>?_)|simp(disch:=first|omega|(simp only[ak];omega)|simp only[al,Nat.reduceAdd]) only[go_sem,true_and])
   all_goals first|omega|(refine aU ?_;unfold uY;rw[hn,hb];simp_all)
   all_goals (first|omega|assumption|contradiction|(intro hh;omega)|(left;omega)|(right;omega)|(right;assumption)|(left;assumption))
  ·repeat' (first|(with_reducible first|refine am ?_|refine aj (by assumption) rfl ?_|refine ap (λhbr=>?_) λhbr=>?_)|simp(disch:=first|omega|(simp only[ak];omega)|simp only[al,Nat.reduceAdd]) only[go_sem,true_and])
   all_goals first|omega|(refine aU ?_;unfold uY;rw[hn,hb];simp_all)
   all_goals (first|omega|assumption|contradiction|(intro hh;omega)|(left;omega)|(right;omega)|(right;assumption)|(left;assumption))
theorem Ef{s:ByteArray}{a b i:Nat}(h:a+i<b)(hb:b<=s.size):ah (s.extract a b) i=ah s (a+i):=by
 have h1:i<(s.extract a b).size:=by rw[ByteArray.size_extract];omega
 unfold ah;rw[getElem?_pos _ i h1,getElem?_pos s (a+i) (by omega)];simp[ByteArray.getElem_extract]
def vP(s:ByteArray)(k:Nat):Nat->Nat
 |0=>0
 |i+1=>10*vP s k i+(ah s (k+i)-48)
def vc(s:ByteArray)(k i:Nat):Bool:=pT (ah s (k+i))
theorem MW{s:ByteArray}{k:Nat}:∀{i},cJ (vc s k) i=true->vP s k i<10^i
 |0,_=>by unfold vP;decide
 |i+1,h=>by
  rw[ya,Bool.and_eq_true]at h;have h1:=MW h.1;have h2:=h.2;unfold vc pT at h2;rw[decide_eq_true_eq]at h2;unfold vP;rw[Nat.pow_succ];omega
def pk(s:ByteArray):Nat:=if 0<s.size/\ah s 0=45 then 1 else 0
def tr(s:ByteArray):Int:=if pk s=1 then -(vP s 1 (s.size-1):Nat)else(vP s 0 s.size:Nat)
def iK(s:ByteArray):Bool:=decide (1<=s.size-pk s/\s.size-pk s<=9)&&(cJ (vc s (pk s)) (s.size-pk s)&&decide (eQ (tr s)=s))
theorem LB{s:ByteArray}{i:Nat}(h:i<s.size-pk s)(hp:vc s (pk s) i=false):iK s=false:=by unfold iK;rw[gP h hp];simp
theorem I5{s:ByteArray}(h:¬(1<=s.size-pk s/\s.size-pk s<=9)):iK s=false:=by unfold iK;rw[decide_eq_false h];rfl
theorem p9{s:ByteArray}(h:iK s=false):iR [(false,[.sc (.int .i64 (if iK s=true then tr s else 0))],true),(false,[.sc (.bool (iK s))],true)] [(false,[.sc (.int .i64 0)]),(false,[.sc (.bool false)])]:=by rw[h];rfl
theorem Ep{s:ByteArray}{z:Int}(h:iK s=true)(hz:z=tr s):iR [(false,[.sc (.int .i64 (if iK s=true then tr s else 0))],true),(false,[.sc (.bool (iK s))],true)] [(false,[.sc (.int .i64 z)]),(false,[.sc (.bool true)])]:=by rw[h,hz];rfl
theorem St(s:ByteArray):pk s<=1:=by unfold pk;split<;>omega
theorem Og{s:ByteArray}(h:pk s=1):0<s.size/\ah s 0=45:=by unfold pk at h;split at h<;>simp_all
theorem Mg{s:ByteArray}(h:pk s=0)(hs:0<s.size):¬ah s 0=45:=by unfold pk at h;split at h<;>simp_all
set_option maxHeartbeats 4000000 in
theorem zd(s:ByteArray)(hs:s.size<=100000000000):aW Try.prog 63 [(false,[.sc (.string s)])] [(false,[.sc (.int .i64 (if iK s=true then tr s else 0))],true),(false,[.sc (.bool (iK s))],true)]:=by
 have hk1:=St s;have hno:=@LB s;have hle:=@I5 s;have hP1:=@Og s;have hP0:=@Mg s
 have hVd:tr s=if pk s=1 then -((vP s (pk s) (s.size-pk s):Nat):Int)else((vP s (pk s) (s.size-pk s):Nat):Int):=by
  unfold tr;by_cases hk:pk s=1
  ·rw[if_pos hk,if_pos hk,hk]
  ·have hk0:pk s=0:=by omega
   rw[if_neg hk,if_neg hk,hk0,Nat.sub_zero]
 have hB:cJ (vc s (pk s)) (s.size-pk s)=true->1<=s.size-pk s->s.size-pk s<=9->iK s=decide (eQ (tr s)=s):=by
  intro h1 h2 h3;unfold iK;rw[h1,decide_eq_true ⟨h2,h3⟩];simp
 generalize pk s=k at hk1 hno hle hP1 hP0 hVd hB;refine ax Try.func63 rU rfl ?_;simp only[jw];simp(disch:=first|omega|(simp only[ak];omega)|simp only[al,Nat.reduceAdd]) only[go_sem,true_and];refine am ?_;simp(disch:=first|omega|(simp only[ak];omega)|simp only[al,Nat.reduceAdd]) only[go_sem,true_and];refine lp (λi:Nat=>[.sc (.int .i64 i),.sc (.int .i64 ((i-k:Nat):Int)),.sc (.int .i64 (vP s (k) (i-k):Nat))]) (λi=>i<=s.size/\i-k<=10/\cJ (vc s (k)) (i-k)=true) (λi=>s.size-i) 0 (by simp[gL,vP]) ⟨by omega,by omega,by simp[FU]⟩ ?_;rintro i ⟨hi,hi10,hb⟩;have hv:=MW hb;have hp10:10^(i-k)<=10000000000:=Nat.pow_le_pow_right (n:=10) (by decide) hi10;simp only[iN];rcases(show k=0\/k=1 by omega)with rfl|rfl
 ·simp only[Nat.sub_zero]at *;by_cases hlt:i<s.size/\i<10
  ·have hbt:=dF s i;have hv1:vP s 0 (i+1)=10*vP s 0 i+(ah s (0+i)-48):=rfl;rw[Nat.zero_add]at hv1;have h45:i=0->¬ah s i=45:=λe=>by have h9:¬ah s 0=45:=(by first|exact hP0 rfl (by omega)|exact hP0 trivial (by omega));rw[e];exact h9
   by_cases hdig:48<=ah s i/\ah s i<=57
   ·have hst:=bW hb (show vc s 0 i=true by unfold vc;rw[Nat.zero_add];exact decide_eq_true (by omega));have hw8:IntKind.u8.wrap ((ah s i:Int)-48)=((ah s i-48:Nat):Int):=by rw[BK (by omega) (by omega)];omega
    have hcv:IntKind.i64.wrap ((ah s i-48:Nat):Int)=((ah s i-48:Nat):Int):=dT (by omega) (by omega);have hsum:((vP s 0 i:Nat):Int)*10+((ah s i-48:Nat):Int)=((vP s 0 (i+1):Nat):Int):=by omega
    repeat' (first|(with_reducible first|refine am ?_|refine aj (by assumption) rfl ?_|refine ap (λhbr=>?_) λhbr=>?_)|simp(disch:=first|omega|(simp only[ak];omega)|simp only[al,Nat.reduceAdd]) only[go_sem,hw8,hcv,hsum,bY,bU])
    all_goals first|omega|with_reducible exact⟨i+1,rfl,⟨by omega,by omega,hst⟩,by omega⟩|skip
   ·have hno1:iK s=false:=hno (i:=i) (by omega) (by unfold vc;rw[Nat.zero_add];exact decide_eq_false (by omega))
    repeat' (first|(with_reducible first|refine am ?_|refine aj (by assumption) rfl ?_|refine ap (λhbr=>?_) λhbr=>?_)|simp(disch:=first|omega|(simp only[ak];omega)|simp only[al,Nat.reduceAdd]) only[go_sem,bY,bU])
    all_goals first|omega|exact p9 hno1|skip
  ·have hf:=gQ ((vP s 0 i:Nat):Int) (by unfold zA;omega)
   have hend:i=s.size->1<=s.size->s.size<=9->tr s=((vP s 0 i:Nat):Int)/\iK s=decide (eQ (tr s)=s):=by
    rintro rfl h1 h2;exact⟨by rw[hVd];rfl,hB hb h1 h2⟩
   have h45:0<s.size->¬((ah s 0:Nat):Int)=45:=λh=>by
    have h9:¬ah s 0=45:=by first|exact hP0 rfl h|exact hP0 trivial h
    omega
   rcases Nat.eq_zero_or_pos s.size with hz|hz
   ·repeat' (first|(with_reducible first|refine am ?_|refine aj (by assumption) rfl ?_|refine ap (λhbr=>?_) λhbr=>?_)|simp(disch:=first|omega|(simp only[ak];omega)|simp only[al,Nat.reduceAdd]) only[go_sem,du,dt,dz])
    all_goals first|omega|exact p9 (hle (by omega))
   ·have h45:=h45 hz
    repeat' (first|(with_reducible first|refine am ?_|refine aj (by assumption) rfl ?_|refine ap (λhbr=>?_) λhbr=>?_)|simp(disch:=first|omega|(simp only[ak];omega)|simp only[al,Nat.reduceAdd]) only[go_sem,du,dt,dz])
    all_goals first
     |omega
     |exact p9 (hle (by omega))
     |(obtain⟨e1,e2⟩:=hend (by omega) (by omega) (by omega);exact Ep (by rw[e2,e1];exact decide_eq_true ‹_›) e1.symm)
     |(obtain⟨e1,e2⟩:=hend (by omega) (by omega) (by omega);exact p9 (by rw[e2,e1];exact decide_eq_false ‹_›))
     |skip
 ·obtain⟨hs0,h450⟩:=hP1 rfl;have h45I:((ah s 0:Nat):Int)=45:=by omega
  by_cases hi0:i=0
  ·subst hi0;simp only[Nat.zero_sub]
   repeat' (first|(with_reducible first|refine am ?_|refine aj (by assumption) rfl ?_|refine ap (λhbr=>?_) λhbr=>?_)|simp(disch:=first|omega|(simp only[ak];omega)|simp only[al,Nat.reduceAdd]) only[go_sem,h45I,bY,bU])
   all_goals first|omega|with_reducible exact⟨1,rfl,⟨by omega,by omega,rfl⟩,by omega⟩|skip
  obtain⟨m,rfl⟩:∃m,i=m+1:=⟨i-1,by omega⟩;simp only[Nat.add_sub_cancel]at *;have hmi:(m+1+1)-1=m+1:=rfl;by_cases hlt:m+1<s.size/\m<10
  ·have hbt:=dF s (m+1);have hv1:vP s 1 (m+1)=10*vP s 1 m+(ah s (1+m)-48):=rfl;rw[Nat.add_comm 1 m]at hv1;by_cases hdig:48<=ah s (m+1)/\ah s (m+1)<=57
   ·have hst:=bW hb (show vc s 1 m=true by unfold vc;rw[Nat.add_comm 1 m];exact decide_eq_true (by omega));have hw8:IntKind.u8.wrap ((ah s (m+1):Int)-48)=((ah s (m+1)-48:Nat):Int):=by rw[BK (by omega) (by omega)];omega
    have hcv:IntKind.i64.wrap ((ah s (m+1)-48:Nat):Int)=((ah s (m+1)-48:Nat):Int):=dT (by omega) (by omega);have hsum:((vP s 1 m:Nat):Int)*10+((ah s (m+1)-48:Nat):Int)=((vP s 1 (m+1):Nat):Int):=by omega
    repeat' (first|(with_reducible first|refine am ?_|refine aj (by assumption) rfl ?_|refine ap (λhbr=>?_) λhbr=>?_)|simp(disch:=first|omega|(simp only[ak];omega)|simp only[al,Nat.reduceAdd]) only[go_sem,hw8,hcv,hsum,bY,bU])
    all_goals first|omega|exact⟨m+1+1,by simp only[Nat.add_sub_cancel],⟨by omega,by omega,by simpa only[Nat.add_sub_cancel]using hst⟩,by omega⟩|skip
   ·have hno1:iK s=false:=hno (i:=m) (by omega) (by unfold vc;rw[Nat.add_comm 1 m];exact decide_eq_false (by omega))
    repeat' (first|(with_reducible first|refine am ?_|refine aj (by assumption) rfl ?_|refine ap (λhbr=>?_) λhbr=>?_)|simp(disch:=first|omega|(simp only[ak];omega)|simp only[al,Nat.reduceAdd]) only[go_sem,bY,bU])
    all_goals first|omega|exact p9 hno1|skip
  ·have hf:=gQ (-((vP s 1 m:Nat):Int)) (by unfold zA;omega);have hf0:=gQ ((vP s 1 m:Nat):Int) (by unfold zA;omega);have hng:(0:Int)-((vP s 1 m:Nat):Int)= -((vP s 1 m:Nat):Int):=by omega
   have hend:m+1=s.size->1<=m->m<=9->tr s= -((vP s 1 m:Nat):Int)/\iK s=decide (eQ (tr s)=s):=by
    intro h0 h1 h2;have e:s.size-1=m:=by omega
    rw[e]at hVd hB;exact⟨by rw[hVd];rfl,hB hb h1 h2⟩
   repeat' (first|(with_reducible first|refine am ?_|refine aj (by assumption) rfl ?_|refine ap (λhbr=>?_) λhbr=>?_)|simp(disch:=first|omega|(simp only[ak];omega)|simp only[al,Nat.reduceAdd]) only[go_sem,h45I,hng,du,dt,dz])
   all_goals first
    |omega
    |exact p9 (hle (by omega))
    |(obtain⟨e1,e2⟩:=hend (by omega) (by omega) (by omega);exact Ep (by rw[e2,e1];exact decide_eq_true ‹_›) e1.symm)
    |(obtain⟨e1,e2⟩:=hend (by omega) (by omega) (by omega);exact p9 (by rw[e2,e1];exact decide_eq_false ‹_›))
    |skip
def rc:List aY:=[]
def rY:List (Nat×Nat×Bool×List Nat):=[]
def jV:UP:=.s #[60,60,45]<|.s #[37,47,37]<|.s #[60,45]<|.s #[60,61]<|.s #[62,61]<|.s #[61,61]<|.s #[33,61]<|.s #[38,38]<|.s #[124,124]<|.s #[37,37]<|.s #[60]<|.s #[62]<|.s #[61]<|.s #[33]<|.s #[38]<|.s #[124]<|.s #[43]<|.s #[45]<|.s #[42]<|.s #[47]<|.s #[94]<|.s #[58]<|.s #[126]<|.s #[36]<|.s #[40]<|.s #[41]<|.s #[91]<|.s #[93]<|.s #[123]<|.s #[125]<|.s #[44]<|.c 30<|.c 29<|.c 28<|.c 27<|.c 26<|.c 25<|.c 24<|.c 23<|.c 22<|.c 21<|.c 20<|.c 19<|.c 18<|.c 17<|.c 16<|.c 15<|.c 14<|.c 13<|.c 12<|.c 11<|.c 10<|.c 9<|.c 8<|.c 7<|.c 6<|.c 5<|.c 4<|.c 3<|.c 2<|.c 1<|.c 0<|.po (.mk 9 1 [[30],[29],[28],[27],[26],[25],[24],[23],[22],[21],[20],[19],[18],[17],[16],[15],[14],[13],[12],[11],[10],[9],[8],[7],[6],[5],[4],[3],[2],[1],[0]])<|.r 0
theorem qT:bk Try.prog 68 Try.f68 di rc rY=some ([],jV):=by kernel_rfl
open Go.RowKit Go.ChangeShapes Go.WideShapes Go.Deep
def Qb{α:Type}(e:α->List DV)(Ok:α->Prop)(P:Program)(t:TypeId):Prop:=
 ∀(H:Type) (enc:TypeId×Value->H) (w:World) (base:Nat) (spare:Nat->Bool) (held:Bool) (fuel:Nat) (cs:List Value) (x:DataW H×List MemPlace),
  DataW.trod enc P w base spare held fuel t cs=some x->∃a:α,aH w (· <w.heap.size) cs (e a)/\Ok a
section
variable {P:Program}{t:TypeId}
theorem Ps(ht:P.underlying t=some (.int .u8)):Qb (λn:Int=>[.sc (.int .u8 n)]) (λn=>0<=n/\n<256) P t:=by
 intro H enc w base spare held fuel cs x h;obtain⟨n,rfl,-,hn⟩:=DataW.trod_int ht h;refine⟨n,.sc trivial .nil,?_⟩;simp[Lit.wf,IntKind.min,IntKind.max,IntKind.bits,IntKind.signed]at hn;omega
theorem Ga{w:World}{A:Nat->Prop}{α:Type}{e:α->List DV}(a:Nat->α)(cs:Nat->List Value):∀n,(∀i,i<n->aH w A (cs i) (e (a i)))->aH w A ((List.range n).map cs).flatten (((List.range n).map a).map e).flatten:=by
 intro n
 induction n with
 |zero=>intro _;exact .nil
 |succ n ih=>
  intro h;simp only[List.range_succ,List.map_append,List.map_cons,List.map_nil,List.flatten_append,List.flatten_cons,List.flatten_nil,List.append_nil];exact(ih λi hi=>h i (by omega)).app (h n (by omega))
theorem Dg{w:World}{α:Type}{e:α->List DV}{Ok:α->Prop}{k:Nat}(te:TypeId)(hk:0<k)(hl:∀a,(e a).length=k){a:Addr}{len cap base:Nat}(hle:len<=cap)(hm:cap<=9223372036854775807)
 (hi:∀i,i<len->∃cs',w.cells? base (a.add (i*k)) k=some cs'/\∃y,aH w (· <w.heap.size) cs' (e y)/\Ok y):
 ∃l:List α,aH w (· <w.heap.size) [.slice (some a) len cap] [.sl te k (l.map e)]/\l.length<=9223372036854775807/\∀x∈l,Ok x:=by
 rcases Nat.eq_zero_or_pos len with h0|h0
 ·subst h0;exact⟨[],.sl0 hm .nil,by simp,by simp⟩
 ·have hch:∀i,i<len->∃p:α×List Value,aH w (· <w.heap.size) p.2 (e p.1)/\Ok p.1/\∀j,j<k->w.cell? (a.add (i*k+j))=p.2[j]?:=by
   intro i hil;obtain⟨cs',hcs,y,hR,hOk⟩:=hi i hil;obtain⟨-,hcl,hat⟩:=World.cells?_some hcs;exact⟨(y,cs'),hR,hOk,λj hj=>by rw[<-IW];exact hat j hj⟩
  have hdef:∃p:α×List Value,True:=⟨(hch 0 h0).choose,trivial⟩;obtain⟨p0,-⟩:=hdef
  have hch2:∀i,∃p:α×List Value,i<len->aH w (· <w.heap.size) p.2 (e p.1)/\Ok p.1/\∀j,j<k->w.cell? (a.add (i*k+j))=p.2[j]?:=by
   intro i;by_cases h:i<len
   ·obtain⟨p,hp⟩:=hch i h;exact⟨p,λ_=>hp⟩
   ·exact⟨p0,λh'=>(h h').elim⟩
  obtain⟨f,hf⟩:=Classical.axiomOfChoice hch2
  have hspot:a.spot=none:=by
   have hcl:(f 0).2.length=k:=by rw[(hf 0 h0).1.len,hl]
   have hc0:=(hf 0 h0).2.2 0 hk;rw[List.getElem?_eq_getElem (by omega)]at hc0
   cases hs:a.spot with
   |none=>rfl
   |some q=>
    unfold World.cell? Addr.add at hc0;simp[hs]at hc0;split at hc0<;>simp at hc0
  obtain⟨b,off,sp⟩:=a;simp only at hspot;subst hspot
  have hadd:∀j,(⟨b,off,none⟩:Addr).add j=⟨b,off+j,none⟩:=by
   intro j;unfold Addr.add;split
   ·next h=>rw[h];rfl
   ·rfl
  have hlen:∀c∈((List.range len).map λi=>(f i).2),c.length=k:=by
   intro c hc;obtain⟨i,hi,rfl⟩:=List.mem_map.1 hc;rw[(hf i (List.mem_range.1 hi)).1.len,hl]
  have hR:=Ga (w:=w) (A:=(· <w.heap.size)) (e:=e) (λi=>(f i).1) (λi=>(f i).2) len (λi hi=>(hf i hi).1)
  have hat:At w b off ((List.range len).map λi=>(f i).2).flatten:=by
   intro j u hu
   have hjl:j<len*k:=by
    have:=(List.getElem?_eq_some_iff.1 hu).1;rw[eI hlen]at this;simpa using this
   have hi:j / k<len:=Nat.div_lt_of_lt_mul (by rw[Nat.mul_comm];exact hjl);have h3:=(hf _ hi).2.2 (j % k) (Nat.mod_lt _ hk);rw[Nat.mul_comm,Nat.div_add_mod,hadd]at h3;rw[h3];have hg:((List.range len).map λi=>(f i).2)[j / k]? =some (f (j / k)).2:=by simp[List.getElem?_map,List.getElem?_range hi]
   have hfa:=rI hlen hg
   have:((((List.range len).map λi=>(f i).2).flatten.drop (j / k*k)).take k)[j % k]? =some u:=by
    rw[List.getElem?_take,if_pos (Nat.mod_lt _ hk),List.getElem?_drop,Nat.mul_comm,Nat.div_add_mod];exact hu
   rw[hfa]at this;exact this
  have hcell0:w.cell? ⟨b,off,none⟩≠none:=by
   have hcl:(f 0).2.length=k:=by rw[(hf 0 h0).1.len,hl]
   have hc0:=(hf 0 h0).2.2 0 hk;rw[List.getElem?_eq_getElem (by omega),hadd]at hc0;simp only[Nat.zero_mul,Nat.add_zero]at hc0;rw[hc0];simp
  refine⟨(List.range len).map λi=>(f i).1,.sl (A:=(· <w.heap.size)) ?_ (by simp) h0 hle hm hk (by intro c hc;obtain⟨x,_,rfl⟩:=List.mem_map.1 hc;exact hl x) hR hat .nil,?_,?_⟩
  ·apply Classical.byContradiction;intro hb;apply hcell0;have hn:w.heap[b]? =none:=by simp;omega
   simp[World.cell?,hn]
  ·simp;omega
  ·intro x hx;obtain⟨i,hi,rfl⟩:=List.mem_map.1 hx;exact(hf i (List.mem_range.1 hi)).2.1
theorem G0{α:Type}{e:α->List DV}{Ok:α->Prop}{el:TypeId}{k:Nat}(te:TypeId)(ht:P.underlying t=some (.slice el))(hc:P.cellsOf el=k)(hk:0<k)(hl:∀a,(e a).length=k)(ho:Qb e Ok P el):
 Qb (λl:List α=>[.sl te k (l.map e)]) (λl=>l.length<=9223372036854775807/\∀x∈l,Ok x) P t:=by
 intro H enc w base spare held fuel cs x h;rcases open_slice ht h with⟨rfl,-⟩|⟨a,len,cap,m,n,D,Pl,rfl,hb,hle,hm,hmm,hx,hi⟩
 ·exact⟨[],.sl0 (Nat.zero_le _) .nil,by simp,by simp⟩
 ·rw[hc]at hi;have hlm:len<=m:=by rw[hmm];split<;>omega
  exact Dg te hk hl hle hm λi hil=>by
   obtain⟨cs',hcs,htr⟩:=hi i (by omega);exact⟨cs',hcs,ho H enc w base spare held n cs' _ htr⟩
theorem IB{α:Type}{e:α->List DV}{Ok:α->Prop}(ho:Qb e Ok P t){H:Type}{enc:TypeId×Value->H}{w:World}{base b:Nat}{spare:Nat->Bool}{held:Bool}{v:Value}{d:DataW H}{p:List MemPlace}
 (hv:v.cells.toList=[v]) (h:DataW.Trod enc P w b spare held t v d p):∃a,xO w (· <w.heap.size) v (false,e a)/\Ok a:=by
 obtain⟨fuel,hf⟩:=h;obtain⟨a,hr,hk⟩:=ho H enc w b spare held fuel _ _ hf;rw[hv]at hr;exact⟨a,hr,hk⟩
theorem KA{α:Type}{e:α->List DV}{Ok:α->Prop}(ho:Qb e Ok P t){el:TypeId}(ht:P.underlying t=some (.slice el)){H:Type}{enc:TypeId×Value->H}{w:World}{base b:Nat}{spare:Nat->Bool}{held:Bool}{v:Value}{d:DataW H}{p:List MemPlace}
 (h:DataW.Trod enc P w b spare held t v d p) (ok:Value.okWide P w .any base t v):∃a,xO w (· <w.heap.size) v (false,e a)/\Ok a:=by
 obtain⟨_,_,_,rfl⟩:=okWide_slice ht ok;exact IB (base:=base) ho rfl h
end
theorem Lh{P:Program}{f:FuncId}{args:List (Bool×List DV)}{v:Value}(h:aW P f args [(false,[.sc v],true)]){w:World}{vs:List Value}(ha:cL w (· <w.heap.size) vs args):
 Calls P f vs.toArray w λe w'=>e=.returned v/\Below w.heap.size w w':=by
 refine(h.2 w (· <w.heap.size) vs (λ_ h=>h) ha).mono ?_
 rintro e w' ⟨u,rfl,⟨us,fs,h1,h2,h3,-,h4⟩,hb⟩;refine⟨?_,hb⟩;have h1:us=[u]:=h1;subst h1
 match fs,h3 with
 |[f'],_=>
  obtain⟨vals,e1,e2⟩:=h4 0 u _ f' rfl rfl rfl;have e1:vals=[u]:=e1;subst e1;have e2:bi w' w.heap.size [u] [.sc v] f':=e2;rw[(aH.scOf e2.rep).1]
end Go.Proofs.Ytngaddcgmnonbaa
namespace Go.Proofs.Ytngaddcgmnonbaa
open Go.RowKit
set_option maxRecDepth 100000
theorem bK{α:Type}[Inhabited α]{l:List α}{i:Nat}(h:i<l.length):l.getD i default∈l:=by
 rw[List.getD_eq_getElem?_getD,List.getElem?_eq_getElem h];exact List.getElem_mem h
theorem Gm{F:List ByteArray}{i:Nat}(h:i<F.length):tQ (F.take i) (F.getD i default)=decide (jG F (F.getD i default)<i):=by
 have hm:=bK (l:=F) h;rcases pP F (F.getD i default)with⟨_,h2⟩|⟨k,h1,h2,h3⟩
 ·exact absurd hm h2
 ·rw[h1];rw[Bool.eq_iff_iff,ne,decide_eq_true_eq];constructor
  ·intro hx;obtain⟨j,hj⟩:=List.getElem?_of_mem hx;have hj2:=(List.getElem?_eq_some_iff.1 hj).1;rw[List.length_take]at hj2;rw[List.getElem?_take,if_pos (by omega)]at hj;rcases Nat.lt_or_ge j k with g|g
   ·exact absurd hj (h3 j g)
   ·omega
  ·intro hk;refine List.mem_of_getElem? (i:=k) ?_;rw[List.getElem?_take,if_pos (by omega)];exact h2
open Go.RowKit Go.ChangeShapes Go.WideShapes Go.Deep
structure Up where
 response:ByteArray
 intercept:Bool
 variables:List ByteArray
 terms:List Int
 deriving DecidableEq
instance:Inhabited Up:=⟨⟨default,default,default,default⟩⟩
structure eD where
 kind:Int
 text:ByteArray
 deriving DecidableEq
instance:Inhabited eD:=⟨⟨default,default⟩⟩
def aS(x:eD):List DV:=[.sc (.int .i64 x.kind),.sc (.string x.text)]
def ao(l:List eD):DV:=.sl 77 2 (l.map aS)
theorem kt{t:Nat}{l:List eD}{kd:IntKind}{z:Int}(h:0<=z)(h1:z<l.length):rk 2 (some (.sl t 2 (l.map aS))) (some (.sc (.int kd z)))=some (aS (l.getD z.toNat default)):=kQ (λ_=>rfl) h h1
def fL:List ByteArray:=[⟨#[60,60,45]⟩,⟨#[37,47,37]⟩,⟨#[60,45]⟩,⟨#[60,61]⟩,⟨#[62,61]⟩,⟨#[61,61]⟩,⟨#[33,61]⟩,⟨#[38,38]⟩,⟨#[124,124]⟩,⟨#[37,37]⟩,⟨#[60]⟩,⟨#[62]⟩,⟨#[61]⟩,⟨#[33]⟩,⟨#[38]⟩,⟨#[124]⟩,⟨#[43]⟩,⟨#[45]⟩,⟨#[42]⟩,⟨#[47]⟩,⟨#[94]⟩,⟨#[58]⟩,⟨#[126]⟩,⟨#[36]⟩,⟨#[40]⟩,⟨#[41]⟩,⟨#[91]⟩,⟨#[93]⟩,⟨#[123]⟩,⟨#[125]⟩,⟨#[44]⟩]
theorem CC:aW Try.prog 68 [] [(false,[bo fL],true)]:=by
 refine ax Try.func68 qT rfl ?_;simp only[jV]
 repeat' (first|(with_reducible first|refine am ?_|refine aj (by assumption) rfl ?_|refine ap (λhbr=>?_) λhbr=>?_)|simp(disch:=first|omega|(simp only[ak];omega)|simp only[al,Nat.reduceAdd]) only[go_sem,true_and])
 rfl
def xp(p:Nat->Bool)(n:Nat):Nat->Nat->Nat
 |0,i=>i
 |f+1,i=>if i<n/\p i=true then xp p n f (i+1)else i
def cd(p:Nat->Bool)(n i:Nat):Nat:=xp p n (n-i) i
theorem lU{p:Nat->Bool}{n i:Nat}(h:i<n)(hp:p i=true):cd p n i=cd p n (i+1):=by
 unfold cd;rw[show n-i=(n-(i+1))+1 by omega,xp,if_pos ⟨h,hp⟩]
theorem zS{p:Nat->Bool}{n i:Nat}(hp:p i=false):cd p n i=i:=by
 unfold cd
 cases n-i with
 |zero=>rfl
 |succ f=>rw[xp,if_neg (λh=>by rw[hp]at h;cases h.2)]
theorem z9{p:Nat->Bool}{n i:Nat}(h:n<=i):cd p n i=i:=by
 unfold cd;rw[show n-i=0 by omega];rfl
theorem BP{p:Nat->Bool}{n:Nat}:∀{f i},i<=n->i<=xp p n f i/\xp p n f i<=n
 |0,i,h=>⟨Nat.le_refl _,h⟩
 |f+1,i,h=>by
  rw[xp];split
  ·rename_i hc;have:=BP (p:=p) (n:=n) (f:=f) (i:=i+1) (by omega);omega
  ·exact⟨Nat.le_refl _,h⟩
theorem gV{p:Nat->Bool}{n i:Nat}(h:i<=n):i<=cd p n i/\cd p n i<=n:=BP h
def gm(s:ByteArray):Nat->Nat->Nat
 |0,i=>i
 |f+1,i=>if i<s.size then(if ah s i=92 then gm s f (i+2)else if ah s i=34 then i else gm s f (i+1))else i
theorem zu(s:ByteArray):∀{f g i},s.size-i<=f->s.size-i<=g->gm s f i=gm s g i
 |0,0,i,_,_=>rfl
 |0,g+1,i,h,_=>by rw[gm,gm,if_neg (by omega)]
 |f+1,0,i,_,h=>by rw[gm,gm,if_neg (by omega)]
 |f+1,g+1,i,h1,h2=>by
  rw[gm,gm];split
  ·rename_i hlt;rw[zu s (f:=f) (g:=g) (i:=i+2) (by omega) (by omega),zu s (f:=f) (g:=g) (i:=i+1) (by omega) (by omega)]
  ·rfl
def fi(s:ByteArray)(i:Nat):Nat:=gm s (s.size-i) i
theorem O2{s:ByteArray}{i:Nat}(h:i<s.size)(hb:ah s i=92):fi s i=fi s (i+2):=by
 unfold fi;rw[show s.size-i=(s.size-(i+1))+1 by omega,gm,if_pos h,if_pos hb];exact zu s (by omega) (by omega)
theorem OD{s:ByteArray}{i:Nat}(h:i<s.size)(hb:ah s i=34):fi s i=i:=by
 unfold fi;rw[show s.size-i=(s.size-(i+1))+1 by omega,gm,if_pos h,if_neg (by omega),if_pos hb]
theorem Oq{s:ByteArray}{i:Nat}(h:i<s.size)(hb:ah s i≠92)(hb2:ah s i≠34):fi s i=fi s (i+1):=by
 unfold fi;rw[show s.size-i=(s.size-(i+1))+1 by omega,gm,if_pos h,if_neg hb,if_neg hb2]
theorem Od{s:ByteArray}{i:Nat}(h:s.size<=i):fi s i=i:=by
 unfold fi;rw[show s.size-i=0 by omega];rfl
theorem wN(s:ByteArray):∀{f i},i<=gm s f i
 |0,i=>Nat.le_refl _
 |f+1,i=>by
  rw[gm];split
  ·split
   ·have:=wN s (f:=f) (i:=i+2);omega
   ·split
    ·exact Nat.le_refl _
    ·have:=wN s (f:=f) (i:=i+1);omega
  ·exact Nat.le_refl _
theorem Ew(s:ByteArray)(i:Nat):i<=fi s i:=wN s
def pD(s:ByteArray)(i:Nat):Bool:=pT (ah s i)
def pW(s:ByteArray)(i:Nat):Bool:=uU (ah s i)||(pT (ah s i)||(decide (ah s i=46)||decide (ah s i=95)))
def pB(s:ByteArray)(i:Nat):Bool:=!decide (ah s i=96)
def pC(s:ByteArray)(i:Nat):Bool:=!decide (ah s i=10)
def Bu(s:ByteArray)(i:Nat)(x:ByteArray):Bool:=decide (i+x.size<=s.size/\s.extract i (i+x.size)=x)
def nt(s:ByteArray)(i:Nat):Nat:=fL.findIdx (Bu s i)
theorem z7(s:ByteArray)(i:Nat):nt s i<=fL.length:=List.findIdx_le_length
theorem xz{s:ByteArray}{i:Nat}(h:nt s i<fL.length):Bu s i (fL.getD (nt s i) default)=true:=by
 have:=List.findIdx_getElem (xs:=fL) (p:=Bu s i) (w:=h);rw[List.getD_eq_getElem?_getD,List.getElem?_eq_getElem h];exact this
theorem G6{s:ByteArray}{i k:Nat}(h:k<nt s i):Bu s i (fL.getD k default)=false:=by
 have h2:=z7 s i;have:=List.not_of_lt_findIdx h;rw[List.getD_eq_getElem?_getD,List.getElem?_eq_getElem (by omega)];simpa using this
theorem Aq:∀k,k<fL.length->1<=(fL.getD k default).size/\(fL.getD k default).size<=3:=by decide
def EH(x:eD):Bool:=if x.kind=6 then false else if x.kind=4 then !decide (x.text=⟨#[101,108,115,101]⟩)else if x.kind=5 then decide (x.text=⟨#[41]⟩\/x.text=⟨#[93]⟩\/x.text=⟨#[125]⟩)else true
theorem GS(x:eD):aW Try.prog 52 [(true,aS x)] [(false,[.sc (.bool (!EH x))],true)]:=by
 obtain⟨k,t⟩:=x;have h:=jP 9 [⟨#[41]⟩,⟨#[93]⟩,⟨#[125]⟩] t (by decide)
 have hb:tQ [⟨#[41]⟩,⟨#[93]⟩,⟨#[125]⟩] t=decide (t=⟨#[41]⟩\/t=⟨#[93]⟩\/t=⟨#[125]⟩):=by
  rw[Bool.eq_iff_iff,ne,decide_eq_true_eq];simp
 rw[hb]at h;simp only[List.map_cons,List.map_nil,dc]at h;refine ax Try.func52 ud rfl ?_;simp only[kL];simp only[aS]
 repeat' (first|(with_reducible first|refine am ?_|refine aj (by assumption) rfl ?_|refine ap (λhbr=>?_) λhbr=>?_)|simp(disch:=first|omega|(simp only[ak];omega)|simp only[al,Nat.reduceAdd]) only[go_sem,true_and])
 all_goals first|(exfalso;omega)|(refine aU ?_;simp[EH, *])
theorem z8(s:ByteArray)(hz:s.size<=1000000000):∃(o:ByteArray) (b:Bool),aW Try.prog 64 [(false,[.sc (.string s)])] [(false,[.sc (.string o)],true),(false,[.sc (.bool b)],true)]/\o.size<=s.size:=by
 by_cases h:∃t,ik t=s
 ·obtain⟨t,ht⟩:=h;have h1:=lZ t
  have h2:∀n,n<=(qP t n).length:=by
   intro n
   induction n with
   |zero=>exact Nat.zero_le _
   |succ n ih=>
    rw[vH]
    have:1<=(qc (ah t n)).length:=by unfold qc;repeat' split
                                     all_goals simp
    omega
  have h3:=h2 t.size;rw[ht]at h1;exact⟨t,true,DO t s ht.symm (by omega),by omega⟩
 ·exact⟨⟨#[]⟩,false,C8 s (λt e=>h ⟨t,e⟩) hz,Nat.zero_le _⟩
noncomputable def unqR (s:ByteArray):ByteArray×Bool:=if h:s.size<=1000000000 then((z8 s h).choose,(z8 s h).choose_spec.choose)else(⟨#[]⟩,false)
theorem EN{s:ByteArray}(h:s.size<=1000000000):True/\aW Try.prog 64 [(false,[.sc (.string s)])] [(false,[.sc (.string (unqR s).1)],true),(false,[.sc (.bool (unqR s).2)],true)]/\(unqR s).1.size<=s.size:=by
 unfold unqR;rw[dif_pos h];obtain⟨h1,h2⟩:=(z8 s h).choose_spec.choose_spec;exact⟨trivial,h1,h2⟩
noncomputable def nxt (s:ByteArray) (i:Nat):Option (eD×Nat):=
 if pT (ah s i)=true then(if iK (s.extract i (cd (pD s) s.size i))=true then some (⟨1,s.extract i (cd (pD s) s.size i)⟩,cd (pD s) s.size i)else none)
 else if ah s i=34 then(if fi s (i+1)<s.size/\(unqR (s.extract i (fi s (i+1)+1))).2=true/\(unqR (s.extract i (fi s (i+1)+1))).1.size<=60 then some (⟨2,(unqR (s.extract i (fi s (i+1)+1))).1⟩,fi s (i+1)+1)else none)
 else if ah s i=96 then(if cd (pB s) s.size (i+1)<s.size/\de (s.extract (i+1) (cd (pB s) s.size (i+1)))=true then some (⟨3,s.extract (i+1) (cd (pB s) s.size (i+1))⟩,cd (pB s) s.size (i+1)+1)else none)
 else if uU (ah s i)=true\/ah s i=46 then(if Cb (s.extract i (cd (pW s) s.size i))=true then some (⟨4,s.extract i (cd (pW s) s.size i)⟩,cd (pW s) s.size i)else if uY (s.extract i (cd (pW s) s.size i))=true then some (⟨3,s.extract i (cd (pW s) s.size i)⟩,cd (pW s) s.size i)else none)
 else if ah s i=59 then some (⟨6,⟨#[59]⟩⟩,i+1)
 else if nt s i<fL.length then some (⟨5,fL.getD (nt s i) default⟩,i+(fL.getD (nt s i) default).size)else none
theorem kh(s:ByteArray)(a b:Nat):(s.extract a b).size<=s.size:=by rw[ByteArray.size_extract];omega
def Cp(i:Nat)(r:Option (eD×Nat)):List Rs:=match r with
 |some (k,e)=>[(true,aS k,true),(false,[.sc (.int .i64 ((e:Nat)-(i:Nat):Int))],true)]
 |none=>[(true,aS ⟨0,⟨#[]⟩⟩,true),(false,[.sc (.int .i64 0)],true)]
def EQ:List Nat:=[60,37,62,61,33,38,124,43,45,42,47,94,58,126,36,40,41,91,93,123,125,44]
theorem Hr:∀k,k<fL.length->ah (fL.getD k default) 0∈EQ:=by decide
theorem rG{s:ByteArray}{i:Nat}(h:ah s i∉EQ):nt s i=fL.length:=by
 rcases Nat.lt_or_ge (nt s i) fL.length with hlt|hge
 ·exfalso;have h1:=xz hlt;have h2:=Hr _ hlt;have h3:=Aq _ hlt;unfold Bu at h1;obtain⟨q1,q2⟩:=of_decide_eq_true h1;rw[<-q2,Ef (by omega) q1]at h2;exact h h2
 ·exact Nat.le_antisymm (z7 s i) hge
noncomputable def sgR (s:ByteArray) (i:Nat):Option (eD×Nat):=if nt s i<fL.length then some (⟨5,fL.getD (nt s i) default⟩,i+(fL.getD (nt s i) default).size)else none
theorem T4{t:Nat}{l:List ByteArray}:ml (some (.sl t 1 (l.map dc)))=some []:=OX
set_option maxHeartbeats 8000000 in
theorem Um(s:ByteArray)(i:Nat)(hi:i<s.size)(hs:s.size<=1000000){R:Option (eD×Nat)}(hR:R=sgR s i):
 V Try.prog (iR (Cp i R)) (.loop [0] ez) [] [.sc (.int .i64 0),.sl 9 1 (fL.map dc),.sc (.int .i64 i),.sc (.string s)]:=by
 subst hR;have hle:=z7 s i;have hl:fL.length=31:=rfl;refine Dx (nt s i) (λk=>[.sc (.int .i64 k)]) rfl λk hk=>?_
 simp only[ez];by_cases hlt:k<nt s i
 ·have hm:=G6 hlt;have hz:=Aq k (by omega);unfold Bu at hm;have hm:=of_decide_eq_false hm;generalize hx:fL.getD k default=x at*
  repeat' (first|(with_reducible first|refine am ?_|refine aj (by assumption) rfl ?_|refine ap (λhbr=>?_) λhbr=>?_)|simp(disch:=first|omega|(simp only[ak];omega)|simp only[al,Nat.reduceAdd]) only[go_sem,hx,Int.toNat_natCast,T4,dw])
  all_goals first|omega|exact⟨rfl,hlt⟩|exact absurd ⟨by omega,‹_›⟩ hm|skip
 ·obtain rfl:k=nt s i:=by omega
  unfold sgR;by_cases h:nt s i<fL.length
  ·have hh:=xz h;have hz:=Aq _ h;unfold Bu at hh;obtain⟨q1,q2⟩:=of_decide_eq_true hh;rw[if_pos h];generalize hx:fL.getD (nt s i) default=x at *;have hsb:((i+x.size:Nat):Int)-(i:Int)=(x.size:Int):=by omega
   simp only[Cp,hsb]
   repeat' (first|(with_reducible first|refine am ?_|refine aj (by assumption) rfl ?_|refine ap (λhbr=>?_) λhbr=>?_)|simp(disch:=first|omega|(simp only[ak];omega)|simp only[al,Nat.reduceAdd]) only[go_sem,hx,q2,Int.toNat_natCast,T4,dw])
   all_goals first|omega|rfl|contradiction|skip
  ·rw[if_neg h]
   repeat' (first|(with_reducible first|refine am ?_|refine aj (by assumption) rfl ?_|refine ap (λhbr=>?_) λhbr=>?_)|simp(disch:=first|omega|(simp only[ak];omega)|simp only[al,Nat.reduceAdd]) only[go_sem,dw])
   all_goals first|omega|rfl|skip
set_option maxHeartbeats 8000000 in
theorem EM(s:ByteArray)(i:Nat)(hi:i<s.size)(hs:s.size<=1000000):aW Try.prog 53 [(false,[.sc (.string s)]),(false,[.sc (.int .i64 i)])] (Cp i (nxt s i)):=by
 have hb:=dF s i;have hd:=oh (ah s i);have hl:=qM (ah s i);have hsg:=CC;simp only[bo]at hsg;have hS0:=λR hR=>@Um s i hi hs R hR
 by_cases h1:pT (ah s i)=true
 ·obtain⟨l1,l2⟩:=gV (p:=pD s) (n:=s.size) (i:=i) (by omega);have hR:nxt s i=if iK (s.extract i (cd (pD s) s.size i))=true then some (⟨1,s.extract i (cd (pD s) s.size i)⟩,cd (pD s) s.size i)else none:=by unfold nxt;rw[if_pos h1]
  have hx:=kh s i (cd (pD s) s.size i);have hp:=zd (s.extract i (cd (pD s) s.size i)) (by omega)
  have hno:none=sgR s i:=by
   unfold sgR;rw[rG (by unfold pT at h1;have:=of_decide_eq_true h1;simp only[EQ,List.mem_cons,List.not_mem_nil,or_false,not_or];omega),if_neg (Nat.lt_irrefl _)]
  have hS:=hS0 none hno;rw[hR];rw[h1]at hd;generalize hE:cd (pD s) s.size i=e at *;refine ax Try.func53 cC rfl ?_;simp only[bV]
  repeat' (first|(with_reducible first|refine am ?_|refine aj (by assumption) rfl ?_|refine ap (λhbr=>?_) λhbr=>?_)|simp(disch:=first|omega|(simp only[ak];omega)|simp only[al,Nat.reduceAdd]) only[go_sem,Int.toNat_natCast])
  refine lp (λk:Nat=>[.sc (.int .i64 k)]) (λk=>k<=s.size/\cd (pD s) s.size k=e) (λk=>s.size-k) i rfl ⟨by omega,hE⟩ ?_;rintro k ⟨hk,he⟩;simp only[jI];have hdk:=oh (ah s k);by_cases hlt:k<s.size
  ·cases hp2:pT (ah s k)
   ·rw[hp2]at hdk;have:=zS (p:=pD s) (n:=s.size) (i:=k) hp2;obtain rfl:k=e:=by omega
    cases hpb:iK (s.extract i k)
    ·rw[hpb]at hp;simp only[hpb,Bool.false_eq_true,if_false]at hS ⊢
     repeat' (first|(with_reducible first|refine am ?_|refine aj (by assumption) rfl ?_|refine ap (λhbr=>?_) λhbr=>?_)|simp(disch:=first|omega|(simp only[ak];omega)|simp only[al,Nat.reduceAdd]) only[go_sem,Int.toNat_natCast,cm,aE])
     all_goals first|omega|exact hS|skip
    ·rw[hpb]at hp;simp only[hpb,if_true,Cp]at hS ⊢
     repeat' (first|(with_reducible first|refine am ?_|refine aj (by assumption) rfl ?_|refine ap (λhbr=>?_) λhbr=>?_)|simp(disch:=first|omega|(simp only[ak];omega)|simp only[al,Nat.reduceAdd]) only[go_sem,Int.toNat_natCast,cm,aE])
     all_goals first|omega|rfl|skip
   ·rw[hp2]at hdk;have:=lU (p:=pD s) (n:=s.size) hlt hp2
    repeat' (first|(with_reducible first|refine am ?_|refine aj (by assumption) rfl ?_|refine ap (λhbr=>?_) λhbr=>?_)|simp(disch:=first|omega|(simp only[ak];omega)|simp only[al,Nat.reduceAdd]) only[go_sem,Int.toNat_natCast,cm])
    all_goals first|omega|exact⟨k+1,rfl,⟨by omega,by omega⟩,by omega⟩|skip
  ·have:=z9 (p:=pD s) (n:=s.size) (i:=k) (by omega);obtain rfl:k=e:=by omega
   cases hpb:iK (s.extract i k)
   ·rw[hpb]at hp;simp only[hpb,Bool.false_eq_true,if_false]at hS ⊢
    repeat' (first|(with_reducible first|refine am ?_|refine aj (by assumption) rfl ?_|refine ap (λhbr=>?_) λhbr=>?_)|simp(disch:=first|omega|(simp only[ak];omega)|simp only[al,Nat.reduceAdd]) only[go_sem,Int.toNat_natCast,cm,aE])
    all_goals first|omega|exact hS|skip
   ·rw[hpb]at hp;simp only[hpb,if_true,Cp]at hS ⊢
    repeat' (first|(with_reducible first|refine am ?_|refine aj (by assumption) rfl ?_|refine ap (λhbr=>?_) λhbr=>?_)|simp(disch:=first|omega|(simp only[ak];omega)|simp only[al,Nat.reduceAdd]) only[go_sem,Int.toNat_natCast,cm,aE])
    all_goals first|omega|rfl|skip
 have hd0:pT (ah s i)=false:=by simpa using h1
 rw[hd0]at hd;by_cases h2:ah s i=34
 ·have h2':(ah s i:Int)=34:=by omega
  have l1:=Ew s (i+1);have hR:nxt s i=if fi s (i+1)<s.size/\(unqR (s.extract i (fi s (i+1)+1))).2=true/\(unqR (s.extract i (fi s (i+1)+1))).1.size<=60 then some (⟨2,(unqR (s.extract i (fi s (i+1)+1))).1⟩,fi s (i+1)+1)else none:=by unfold nxt;rw[if_neg h1,if_pos h2]
  have hx:=kh s i (fi s (i+1)+1);obtain⟨-,hu,hu2⟩:=EN (s:=s.extract i (fi s (i+1)+1)) (by omega)
  have hno:none=sgR s i:=by
   unfold sgR;rw[rG (by rw[h2];decide),if_neg (Nat.lt_irrefl _)]
  have hS:=hS0 none hno;rw[hR];rw[h2']at hd;generalize hE:fi s (i+1)=e at *;generalize hU:unqR (s.extract i (e+1))=U at *;obtain⟨uo,ub⟩:=U;simp only at hu hu2 ⊢;refine ax Try.func53 cC rfl ?_;simp only[bV]
  repeat' (first|(with_reducible first|refine am ?_|refine aj (by assumption) rfl ?_|refine ap (λhbr=>?_) λhbr=>?_)|simp(disch:=first|omega|(simp only[ak];omega)|simp only[al,Nat.reduceAdd]) only[go_sem,h2',Int.toNat_natCast])
  refine lp (λk:Nat=>[.sc (.int .i64 k)]) (λk=>k<=s.size+1/\fi s k=e) (λk=>s.size+1-k) (i+1) rfl ⟨by omega,hE⟩ ?_;rintro k ⟨hk,he⟩;simp only[j8];by_cases hlt:k<s.size
  ·by_cases q1:ah s k=92
   ·have q1':(ah s k:Int)=92:=by omega
    have:=O2 hlt q1
    repeat' (first|(with_reducible first|refine am ?_|refine aj (by assumption) rfl ?_|refine ap (λhbr=>?_) λhbr=>?_)|simp(disch:=first|omega|(simp only[ak];omega)|simp only[al,Nat.reduceAdd]) only[go_sem,q1',Int.toNat_natCast,fc,bO])
    all_goals first|omega|exact⟨k+2,rfl,⟨by omega,by omega⟩,by omega⟩|skip
   ·by_cases q2:ah s k=34
    ·have q2':(ah s k:Int)=34:=by omega
     have:=OD hlt q2;obtain rfl:k=e:=by omega
     cases ub
     ·rw[if_neg (λh=>by cases h.2.1)]
      repeat' (first|(with_reducible first|refine am ?_|refine aj (by assumption) rfl ?_|refine ap (λhbr=>?_) λhbr=>?_)|simp(disch:=first|omega|(simp only[ak];omega)|simp only[al,Nat.reduceAdd]) only[go_sem,q2',Int.toNat_natCast,bO,aE])
      all_goals first|omega|exact hS|skip
     ·by_cases h60:uo.size<=60
      ·rw[if_pos ⟨hlt,rfl,h60⟩];simp only[Cp]
       repeat' (first|(with_reducible first|refine am ?_|refine aj (by assumption) rfl ?_|refine ap (λhbr=>?_) λhbr=>?_)|simp(disch:=first|omega|(simp only[ak];omega)|simp only[al,Nat.reduceAdd]) only[go_sem,q2',Int.toNat_natCast,bO,aE])
       all_goals first|omega|rfl|skip
      ·rw[if_neg (λh=>h60 h.2.2)]
       repeat' (first|(with_reducible first|refine am ?_|refine aj (by assumption) rfl ?_|refine ap (λhbr=>?_) λhbr=>?_)|simp(disch:=first|omega|(simp only[ak];omega)|simp only[al,Nat.reduceAdd]) only[go_sem,q2',Int.toNat_natCast,bO,aE])
       all_goals first|omega|exact hS|skip
    ·have:=Oq hlt q1 q2;have d1:¬(ah s k:Int)=92:=by omega
     have d2:¬(ah s k:Int)=34:=by omega
     repeat' (first|(with_reducible first|refine am ?_|refine aj (by assumption) rfl ?_|refine ap (λhbr=>?_) λhbr=>?_)|simp(disch:=first|omega|(simp only[ak];omega)|simp only[al,Nat.reduceAdd]) only[go_sem,d1,d2,Int.toNat_natCast,fc,bO])
     all_goals first|omega|contradiction|exact⟨k+1,rfl,⟨by omega,by omega⟩,by omega⟩|skip
  ·have:=Od (s:=s) (i:=k) (by omega);obtain rfl:k=e:=by omega
   rw[if_neg (λh=>hlt h.1)]
   repeat' (first|(with_reducible first|refine am ?_|refine aj (by assumption) rfl ?_|refine ap (λhbr=>?_) λhbr=>?_)|simp(disch:=first|omega|(simp only[ak];omega)|simp only[al,Nat.reduceAdd]) only[go_sem,Int.toNat_natCast,bO,aE])
   all_goals first|omega|exact hS|skip
 have d34:¬(ah s i:Int)=34:=by omega
 by_cases h3:ah s i=96
 ·have h3':(ah s i:Int)=96:=by omega
  obtain⟨l1,l2⟩:=gV (p:=pB s) (n:=s.size) (i:=i+1) (by omega);have hR:nxt s i=if cd (pB s) s.size (i+1)<s.size/\de (s.extract (i+1) (cd (pB s) s.size (i+1)))=true then some (⟨3,s.extract (i+1) (cd (pB s) s.size (i+1))⟩,cd (pB s) s.size (i+1)+1)else none:=by unfold nxt;rw[if_neg h1,if_neg h2,if_pos h3]
  have hx:=kh s (i+1) (cd (pB s) s.size (i+1));have hn:=eq (s.extract (i+1) (cd (pB s) s.size (i+1))) (by omega)
  have hno:none=sgR s i:=by
   unfold sgR;rw[rG (by rw[h3];decide),if_neg (Nat.lt_irrefl _)]
  have hS:=hS0 none hno;rw[hR];rw[h3']at hd;generalize hE:cd (pB s) s.size (i+1)=e at *;refine ax Try.func53 cC rfl ?_;simp only[bV]
  repeat' (first|(with_reducible first|refine am ?_|refine aj (by assumption) rfl ?_|refine ap (λhbr=>?_) λhbr=>?_)|simp(disch:=first|omega|(simp only[ak];omega)|simp only[al,Nat.reduceAdd]) only[go_sem,h3',Int.toNat_natCast])
  refine lp (λk:Nat=>[.sc (.int .i64 k)]) (λk=>k<=s.size/\cd (pB s) s.size k=e) (λk=>s.size-k) (i+1) rfl ⟨by omega,hE⟩ ?_;rintro k ⟨hk,he⟩;simp only[jM];by_cases hlt:k<s.size
  ·by_cases hk96:ah s k=96
   ·have hk96':(ah s k:Int)=96:=by omega
    have:=zS (p:=pB s) (n:=s.size) (i:=k) (by unfold pB;rw[decide_eq_true hk96];rfl);obtain rfl:k=e:=by omega
    cases hnb:de (s.extract (i+1) k)
    ·rw[hnb]at hn;rw[if_neg (λh=>by cases h.2)]
     repeat' (first|(with_reducible first|refine am ?_|refine aj (by assumption) rfl ?_|refine ap (λhbr=>?_) λhbr=>?_)|simp(disch:=first|omega|(simp only[ak];omega)|simp only[al,Nat.reduceAdd]) only[go_sem,hk96',Int.toNat_natCast,cN,aE])
     all_goals first|omega|exact hS|skip
    ·rw[hnb]at hn;rw[if_pos ⟨hlt,rfl⟩];simp only[Cp]
     repeat' (first|(with_reducible first|refine am ?_|refine aj (by assumption) rfl ?_|refine ap (λhbr=>?_) λhbr=>?_)|simp(disch:=first|omega|(simp only[ak];omega)|simp only[al,Nat.reduceAdd]) only[go_sem,hk96',Int.toNat_natCast,cN,aE])
     all_goals first|omega|rfl|skip
   ·have:=lU (p:=pB s) (n:=s.size) hlt (by unfold pB;rw[decide_eq_false hk96];rfl);have d96:¬(ah s k:Int)=96:=by omega
    repeat' (first|(with_reducible first|refine am ?_|refine aj (by assumption) rfl ?_|refine ap (λhbr=>?_) λhbr=>?_)|simp(disch:=first|omega|(simp only[ak];omega)|simp only[al,Nat.reduceAdd]) only[go_sem,d96,Int.toNat_natCast,cN])
    all_goals first|omega|contradiction|exact⟨k+1,rfl,⟨by omega,by omega⟩,by omega⟩|skip
  ·have:=z9 (p:=pB s) (n:=s.size) (i:=k) (by omega);obtain rfl:k=e:=by omega
   rw[if_neg (λh=>hlt h.1)]
   repeat' (first|(with_reducible first|refine am ?_|refine aj (by assumption) rfl ?_|refine ap (λhbr=>?_) λhbr=>?_)|simp(disch:=first|omega|(simp only[ak];omega)|simp only[al,Nat.reduceAdd]) only[go_sem,Int.toNat_natCast,cN,aE])
   all_goals first|omega|exact hS|skip
 have d96:¬(ah s i:Int)=96:=by omega
 by_cases h4:uU (ah s i)=true\/ah s i=46
 ·obtain⟨l1,l2⟩:=gV (p:=pW s) (n:=s.size) (i:=i) (by omega);have hR:nxt s i=if Cb (s.extract i (cd (pW s) s.size i))=true then some (⟨4,s.extract i (cd (pW s) s.size i)⟩,cd (pW s) s.size i)else if uY (s.extract i (cd (pW s) s.size i))=true then some (⟨3,s.extract i (cd (pW s) s.size i)⟩,cd (pW s) s.size i)else none:=by unfold nxt;rw[if_neg h1,if_neg h2,if_neg h3,if_pos h4]
  have hx:=kh s i (cd (pW s) s.size i);have hw:=rz (s.extract i (cd (pW s) s.size i));have hy:=FN (s.extract i (cd (pW s) s.size i)) (by omega)
  have hno:none=sgR s i:=by
   unfold sgR
   rw[rG (by
    rcases h4 with h4|h4
    ·unfold uU at h4;simp only[Bool.or_eq_true,decide_eq_true_eq]at h4;simp only[EQ,List.mem_cons,List.not_mem_nil,or_false,not_or];omega
    ·rw[h4];decide),if_neg (Nat.lt_irrefl _)]
  have hS:=hS0 none hno;rw[hR];generalize hE:cd (pW s) s.size i=e at*
  have h46:uU (ah s i)=false->(ah s i:Int)=46:=λh=>by
   rcases h4 with h4|h4
   ·rw[h]at h4;cases h4
   ·omega
  have key:∀c c2:DV,V Try.prog (iR (Cp i (if Cb (s.extract i e)=true then some (⟨4,s.extract i e⟩,e)else if uY (s.extract i e)=true then some (⟨3,s.extract i e⟩,e)else none))) (.loop [3] ff) [λvs=>V Try.prog (iR (Cp i (if Cb (s.extract i e)=true then some (⟨4,s.extract i e⟩,e)else if uY (s.extract i e)=true then some (⟨3,s.extract i e⟩,e)else none))) aE [] (gY vs [.sc (.int .u8 (ah s i:Nat)),.sc (.int .i64 0),.sc (.string ⟨#[]⟩),.sc (.int .i64 0),.sc (.int .i64 i),.sc (.string s)])] [c,c2,.sc (.int .u8 (ah s i:Nat)),.sc (.int .i64 i),.sc (.string s)]:=by
   intro c c2;refine lp (λk:Nat=>[.sc (.int .i64 k)]) (λk=>k<=s.size/\cd (pW s) s.size k=e) (λk=>s.size-k) i rfl ⟨by omega,hE⟩ ?_;rintro k ⟨hk,he⟩;simp only[ff];clear hS0 hd hl;have hd:=oh (ah s k);have hl:=qM (ah s k);have hpw:pW s k=(uU (ah s k)||(pT (ah s k)||(decide (ah s k=46)||decide (ah s k=95)))):=rfl;by_cases hlt:k<s.size
   ·cases hp:pW s k
    ·have:=zS (p:=pW s) (n:=s.size) (i:=k) hp;obtain rfl:k=e:=by omega
     rw[hp]at hpw;have hpw:=hpw.symm;simp only[Bool.or_eq_false_iff,decide_eq_false_iff_not]at hpw;obtain⟨p1,p2,p3,p4⟩:=hpw;rw[p1]at hl;rw[p2]at hd;have d1:¬(ah s k:Int)=46:=by omega
     have d2:¬(ah s k:Int)=95:=by omega
     cases hwb:Cb (s.extract i k)
     ·cases hyb:uY (s.extract i k)
      ·rw[hwb]at hw;rw[hyb]at hy;simp only[hwb,hyb,Bool.false_eq_true,if_false]at hS ⊢
       repeat' (first|(with_reducible first|refine am ?_|refine aj (by assumption) rfl ?_|refine ap (λhbr=>?_) λhbr=>?_)|simp(disch:=first|omega|(simp only[ak];omega)|simp only[al,Nat.reduceAdd]) only[go_sem,d1,d2,Int.toNat_natCast,bF,aE])
       all_goals first|omega|contradiction|exact hS|skip
      ·rw[hwb]at hw;rw[hyb]at hy;simp only[hwb,hyb,Bool.false_eq_true,if_false,if_true,Cp]at hS ⊢
       repeat' (first|(with_reducible first|refine am ?_|refine aj (by assumption) rfl ?_|refine ap (λhbr=>?_) λhbr=>?_)|simp(disch:=first|omega|(simp only[ak];omega)|simp only[al,Nat.reduceAdd]) only[go_sem,d1,d2,Int.toNat_natCast,bF,aE])
       all_goals first|omega|contradiction|rfl|skip
     ·rw[hwb]at hw;simp only[hwb,if_true,Cp]at hS ⊢
      repeat' (first|(with_reducible first|refine am ?_|refine aj (by assumption) rfl ?_|refine ap (λhbr=>?_) λhbr=>?_)|simp(disch:=first|omega|(simp only[ak];omega)|simp only[al,Nat.reduceAdd]) only[go_sem,d1,d2,Int.toNat_natCast,bF,aE])
      all_goals first|omega|contradiction|rfl|skip
    ·have:=lU (p:=pW s) (n:=s.size) hlt hp;rw[hp]at hpw
     have hcon:uU (ah s k)=false->pT (ah s k)=false->¬(ah s k:Int)=46->¬(ah s k:Int)=95->False:=λa1 a2 a3 a4=>by
      rw[a1,a2,decide_eq_false (by omega),decide_eq_false (by omega)]at hpw;cases hpw
     repeat' (first|(with_reducible first|refine am ?_|refine aj (by assumption) rfl ?_|refine ap (λhbr=>?_) λhbr=>?_)|simp(disch:=first|omega|(simp only[ak];omega)|simp only[al,Nat.reduceAdd]) only[go_sem,Int.toNat_natCast,bF])
     all_goals first|omega|exact⟨k+1,rfl,⟨by omega,by omega⟩,by omega⟩|(exfalso;exact hcon ‹_› ‹_› ‹¬(ah s k:Int)=46› ‹¬(ah s k:Int)=95›)|skip
   ·have:=z9 (p:=pW s) (n:=s.size) (i:=k) (by omega);obtain rfl:k=e:=by omega
    cases hwb:Cb (s.extract i k)
    ·cases hyb:uY (s.extract i k)
     ·rw[hwb]at hw;rw[hyb]at hy;simp only[hwb,hyb,Bool.false_eq_true,if_false]at hS ⊢
      repeat' (first|(with_reducible first|refine am ?_|refine aj (by assumption) rfl ?_|refine ap (λhbr=>?_) λhbr=>?_)|simp(disch:=first|omega|(simp only[ak];omega)|simp only[al,Nat.reduceAdd]) only[go_sem,Int.toNat_natCast,bF,aE])
      all_goals first|omega|contradiction|exact hS|skip
     ·rw[hwb]at hw;rw[hyb]at hy;simp only[hwb,hyb,Bool.false_eq_true,if_false,if_true,Cp]at hS ⊢
      repeat' (first|(with_reducible first|refine am ?_|refine aj (by assumption) rfl ?_|refine ap (λhbr=>?_) λhbr=>?_)|simp(disch:=first|omega|(simp only[ak];omega)|simp only[al,Nat.reduceAdd]) only[go_sem,Int.toNat_natCast,bF,aE])
      all_goals first|omega|contradiction|rfl|skip
    ·rw[hwb]at hw;simp only[hwb,if_true,Cp]at hS ⊢
     repeat' (first|(with_reducible first|refine am ?_|refine aj (by assumption) rfl ?_|refine ap (λhbr=>?_) λhbr=>?_)|simp(disch:=first|omega|(simp only[ak];omega)|simp only[al,Nat.reduceAdd]) only[go_sem,Int.toNat_natCast,bF,aE])
     all_goals first|omega|contradiction|rfl|skip
  refine ax Try.func53 cC rfl ?_;simp only[bV]
  repeat' (first|(with_reducible first|refine am ?_|refine aj (by assumption) rfl ?_|refine ap (λhbr=>?_) λhbr=>?_)|simp(disch:=first|omega|(simp only[ak];omega)|simp only[al,Nat.reduceAdd]) only[go_sem,d34,d96,Int.toNat_natCast,dN])
  all_goals first|contradiction|(exfalso;exact‹¬(ah s i:Int)=46› (h46 ‹_›))|exact key _ _|skip
 have hl0:uU (ah s i)=false:=by
  cases h:uU (ah s i)
  ·rfl
  ·exact absurd (.inl h) h4
 have d46:¬(ah s i:Int)=46:=λh=>h4 (.inr (by omega))
 rw[hl0]at hl;by_cases h5:ah s i=59
 ·have h5':(ah s i:Int)=59:=by omega
  have hR:nxt s i=some (⟨6,⟨#[59]⟩⟩,i+1):=by unfold nxt;rw[if_neg h1,if_neg h2,if_neg h3,if_neg h4,if_pos h5]
  rw[hR];rw[h5']at hd hl;have e1:((i+1:Nat):Int)-(i:Int)=1:=by omega
  simp only[Cp,e1];refine ax Try.func53 cC rfl ?_;simp only[bV]
  repeat' (first|(with_reducible first|refine am ?_|refine aj (by assumption) rfl ?_|refine ap (λhbr=>?_) λhbr=>?_)|simp(disch:=first|omega|(simp only[ak];omega)|simp only[al,Nat.reduceAdd]) only[go_sem,h5',Int.toNat_natCast,dN])
  all_goals first|omega|rfl|contradiction|skip
 have d59:¬(ah s i:Int)=59:=by omega
 have hR:nxt s i=sgR s i:=by unfold nxt;rw[if_neg h1,if_neg h2,if_neg h3,if_neg h4,if_neg h5];rfl
 have hS:=hS0 _ hR;refine ax Try.func53 cC rfl ?_;simp only[bV]
 repeat' (first|(with_reducible first|refine am ?_|refine aj (by assumption) rfl ?_|refine ap (λhbr=>?_) λhbr=>?_)|simp(disch:=first|omega|(simp only[ak];omega)|simp only[al,Nat.reduceAdd]) only[go_sem,d34,d96,d46,d59,Int.toNat_natCast,dN,aE])
 all_goals first|omega|contradiction|exact hS|skip
def ef(out:List eD):eD:=out.getLastD ⟨6,⟨#[]⟩⟩
def SK(op:List Nat):Bool:=decide (op.getLastD 123=123)
def Cv(k:eD)(op:List Nat):List Nat:=
 if k.kind=5 then(if k.text=⟨#[40]⟩\/k.text=⟨#[91]⟩\/k.text=⟨#[123]⟩then op++[ah k.text 0]else if k.text=⟨#[41]⟩\/k.text=⟨#[93]⟩\/k.text=⟨#[125]⟩then op.take (op.length-1)else op)else op
def AJ:eD:=⟨6,⟨#[59]⟩⟩
def EW(out:List eD)(op:List Nat):List eD:=if SK op=true/\EH (ef out)=true then out++[AJ]else out
def TX(b:Nat):Prop:=¬b=32/\¬b=9/\¬b=35/\¬b=10
inductive mJ(s:ByteArray):Nat->List eD->List Nat->List eD×Int->Prop where
 |done {i out op}:s.size<=i->mJ s i out op (out,-1)
 |sp {i out op R}:i<s.size->(ah s i=32\/ah s i=9)->mJ s (i+1) out op R->mJ s i out op R
 |com {i out op R}:i<s.size->ah s i=35->mJ s (cd (pC s) s.size i) out op R->mJ s i out op R
 |nl {i out op R}:i<s.size->ah s i=10->mJ s (i+1) (EW out op) op R->mJ s i out op R
 |bad {i out op}:i<s.size->TX (ah s i)->nxt s i=none->mJ s i out op ([],(i:Int))
 |tok {i out op k e R}:i<s.size->TX (ah s i)->nxt s i=some (k,e)->mJ s e (out++[k]) (Cv k op) R->mJ s i out op R
theorem DI{s:ByteArray}{i e:Nat}{k:eD}(hi:i<s.size)(hs:s.size<=1000000)(h:nxt s i=some (k,e)):i<e/\e<=s.size/\k.text.size<=s.size:=by
 have sgn:∀k,k<fL.length->1<=(fL.getD k default).size:=λk hk=>(Aq k hk).1
 unfold nxt at h;split at h
 ·rename_i h1;split at h
  ·injection h with h;injection h with h2 h3;subst h2 h3;have:=lU (p:=pD s) (n:=s.size) hi h1;have:=gV (p:=pD s) (n:=s.size) (i:=i+1) (by omega);exact⟨by omega,by omega,kh ..⟩
  ·cases h
 split at h
 ·split at h
  ·rename_i hc;injection h with h;injection h with h2 h3;subst h2 h3;have:=Ew s (i+1);have:=(EN (s:=s.extract i (fi s (i+1)+1)) (by have:=kh s i (fi s (i+1)+1);omega)).2.2;have:=kh s i (fi s (i+1)+1);exact⟨by omega,by omega,by simp only;omega⟩
  ·cases h
 split at h
 ·split at h
  ·rename_i hc;injection h with h;injection h with h2 h3;subst h2 h3;have:=gV (p:=pB s) (n:=s.size) (i:=i+1) (by omega);exact⟨by omega,by omega,kh ..⟩
  ·cases h
 split at h
 ·rename_i h4
  have hw:pW s i=true:=by
   unfold pW;rcases h4 with h4|h4
   ·rw[h4];rfl
   ·rw[decide_eq_true h4];simp
  have:=lU (p:=pW s) (n:=s.size) hi hw;have:=gV (p:=pW s) (n:=s.size) (i:=i+1) (by omega);split at h
  ·injection h with h;injection h with h2 h3;subst h2 h3;exact⟨by omega,by omega,kh ..⟩
  split at h
  ·injection h with h;injection h with h2 h3;subst h2 h3;exact⟨by omega,by omega,kh ..⟩
  ·cases h
 split at h
 ·injection h with h;injection h with h2 h3;subst h2 h3;exact⟨by omega,by omega,by show 1<=s.size;omega⟩
 split at h
 ·rename_i h6;injection h with h;injection h with h2 h3;subst h2 h3;have h7:=xz h6;unfold Bu at h7;obtain⟨q1,q2⟩:=of_decide_eq_true h7;have:=sgn _ h6;exact⟨by omega,by omega,by simp only;omega⟩
 ·cases h
theorem KL{s:ByteArray}(hs:s.size<=1000000):∀(m i:Nat) (out:List eD) (op:List Nat),s.size-i<=m->∃R,mJ s i out op R:=by
 intro m
 induction m with
 |zero=>intro i out op h;exact⟨_,.done (by omega)⟩
 |succ m ih=>
  intro i out op h;by_cases hi:i<s.size;rotate_left
  ·exact⟨_,.done (by omega)⟩
  by_cases h1:ah s i=32\/ah s i=9
  ·obtain⟨R,hR⟩:=ih (i+1) out op (by omega);exact⟨R,.sp hi h1 hR⟩
  by_cases h2:ah s i=35
  ·have:=lU (p:=pC s) (n:=s.size) hi (by unfold pC;rw[h2];rfl);have:=gV (p:=pC s) (n:=s.size) (i:=i+1) (by omega);obtain⟨R,hR⟩:=ih (cd (pC s) s.size i) out op (by omega);exact⟨R,.com hi h2 hR⟩
  by_cases h3:ah s i=10
  ·obtain⟨R,hR⟩:=ih (i+1) (EW out op) op (by omega);exact⟨R,.nl hi h3 hR⟩
  have ho:TX (ah s i):=⟨λh=>h1 (.inl h),λh=>h1 (.inr h),h2,h3⟩
  cases hn:nxt s i with
  |none=>exact⟨_,.bad hi ho hn⟩
  |some r=>
   obtain⟨k,e⟩:=r;have:=DI hi hs hn;obtain⟨R,hR⟩:=ih e (out++[k]) (Cv k op) (by omega);exact⟨R,.tok hi ho hn hR⟩
theorem yw(out:List eD)(k:eD):ef (out++[k])=k:=by simp[ef]
theorem LW(k:eD)(op:List Nat):(Cv k op).length<=op.length+1:=by
 unfold Cv;split
 ·split
  ·simp
  ·split
   ·rw[List.length_take];omega
   ·omega
 ·omega
theorem Fu(out:List eD)(op:List Nat):(EW out op).length<=out.length+1:=by
 unfold EW;split
 ·simp
 ·omega
theorem FD(l:List eD)(k:Int)(t:ByteArray):l.map aS++[[.sc (.int .i64 k),.sc (.string t)]]=(l++[(⟨k,t⟩:eD)]).map aS:=by rw[List.map_append];rfl
theorem Gy{l:List Nat}(h:l≠[]):l.getD (l.length-1) default=l.getLastD 123:=by
 obtain⟨q,x,rfl⟩:=(List.eq_nil_or_concat l).resolve_left h;rw[List.concat_eq_append,List.getD_eq_getElem?_getD,List.length_append,List.length_singleton,Nat.add_sub_cancel,List.getElem?_append_right (Nat.le_refl _),Nat.sub_self];simp
theorem pZ{t:Nat}{a:Int}{b:ByteArray}:ml (some (.sl t 2 [[.sc (.int .i64 a),.sc (.string b)]]))=some []:=rfl
theorem vE{op:List Nat}:cI op=⟨#[]⟩↔op=[]:=by
 refine⟨λh=>?_,λh=>by rw[h];rfl⟩;have:=congrArg ByteArray.size h;rw[ej]at this;exact List.length_eq_zero_iff.1 this
theorem Pf{k:eD}{op:List Nat}(h:∀x∈op,x<256):∀x∈Cv k op,x<256:=by
 intro x hx;unfold Cv at hx;split at hx
 ·split at hx
  ·rcases List.mem_append.1 hx with hx|hx
   ·exact h x hx
   ·rw[List.mem_singleton.1 hx];exact dF _ _
  ·split at hx
   ·exact h x (List.mem_of_mem_take hx)
   ·exact h x hx
 ·exact h x hx
theorem J7{op:List Nat}(h:op≠[])(hb:∀x∈op,x<256):ah (cI op) (op.length-1)=op.getLastD 123:=by
 have e:=Gy h
 have e2:op.getD (op.length-1) 0=op.getLastD 123:=by
  rw[<-e,List.getD_eq_getElem?_getD,List.getD_eq_getElem?_getD,List.getElem?_eq_getElem (by have:=List.length_pos_iff.2 h;omega)];rfl
 rw[l0 (by rw[e2,<-e];exact hb _ (bK (by have:=List.length_pos_iff.2 h;omega))),e2]
theorem IK(op:List Nat)(n:Nat):(cI op).extract 0 n=cI (op.take n):=by
 apply ByteArray.ext;apply Array.ext';rw[fX,List.map_take,<-fX];simp
set_option maxHeartbeats 16000000 in
theorem F4(s:ByteArray)(hs:s.size<=600)(R:List eD×Int)(hR:mJ s 0 [] [] R):aW Try.prog 38 [(false,[.sc (.string s)])] [(false,[ao R.1],true),(false,[.sc (.int .i64 R.2)],true)]:=by
 refine ax Try.func38 jW rfl ?_;simp only[eS];simp only[ao];simp(disch:=first|omega|(simp only[ak];omega)|simp only[al,Nat.reduceAdd]) only[go_sem,true_and];refine bI (λhbr=>?_) (λhbr=>?_)
 ·omega
 simp(disch:=first|omega|(simp only[ak];omega)|simp only[al,Nat.reduceAdd]) only[go_sem,true_and];refine lp (λa:Nat×List eD×List Nat=>[DV.sc (.int .i64 ((a.1:Nat):Int)),.sc (.string (cI (a.2.2))),.sl 77 2 ((a.2.1).map aS),.sc (.int .i64 (ef (a.2.1)).kind),.sc (.string (ef (a.2.1)).text)]) (λa=>a.1<=s.size/\mJ s a.1 a.2.1 a.2.2 R/\a.2.1.length<=a.1/\a.2.2.length<=a.1/\∀x∈a.2.2,x<256) (λa=>s.size-a.1) (0,[],[]) rfl ⟨Nat.zero_le _,hR,Nat.le_refl _,Nat.le_refl _,by simp⟩ ?_;rintro⟨i,out,op⟩ ⟨hi,hr,ho,hp,h256⟩;simp only at hi hr ho hp h256 ⊢;simp only[iL];have hb:=dF s i;have hol0:=ej op
 cases hr with
 |done h=>
  obtain rfl:i=s.size:=by omega
  repeat' (first|(with_reducible first|refine am ?_|refine aj (by assumption) rfl ?_|refine ap (λhbr=>?_) λhbr=>?_)|simp(disch:=first|omega|(simp only[ak];omega)|simp only[al,Nat.reduceAdd]) only[go_sem,true_and])
  all_goals first|omega|rfl|skip
 |sp h1 h2 h3=>
  have hfin:∃a':Nat×List eD×List Nat,[DV.sc (.int .i64 ((i+1:Nat):Int)),.sc (.string (cI (op))),.sl 77 2 ((out).map aS),.sc (.int .i64 (ef (out)).kind),.sc (.string (ef (out)).text)]=[DV.sc (.int .i64 ((a'.1:Nat):Int)),.sc (.string (cI (a'.2.2))),.sl 77 2 ((a'.2.1).map aS),.sc (.int .i64 (ef (a'.2.1)).kind),.sc (.string (ef (a'.2.1)).text)]/\(a'.1<=s.size/\mJ s a'.1 a'.2.1 a'.2.2 R/\a'.2.1.length<=a'.1/\a'.2.2.length<=a'.1/\∀x∈a'.2.2,x<256)/\s.size-a'.1<s.size-i:=⟨(i+1,out,op),rfl,⟨by simp only;omega,h3,by simp only;omega,by simp only;omega,h256⟩,by simp only;omega⟩;rcases h2 with h2|h2
  ·have h2':(ah s i:Int)=32:=by omega
   repeat' (first|(with_reducible first|refine am ?_|refine aj (by assumption) rfl ?_|refine ap (λhbr=>?_) λhbr=>?_)|simp(disch:=first|omega|(simp only[ak];omega)|simp only[al,Nat.reduceAdd]) only[go_sem,h2',Int.toNat_natCast,aK])
   all_goals first|omega|exact hfin|skip
  ·have h2':(ah s i:Int)=9:=by omega
   repeat' (first|(with_reducible first|refine am ?_|refine aj (by assumption) rfl ?_|refine ap (λhbr=>?_) λhbr=>?_)|simp(disch:=first|omega|(simp only[ak];omega)|simp only[al,Nat.reduceAdd]) only[go_sem,h2',Int.toNat_natCast,aK])
   all_goals first|omega|exact hfin|skip
 |com h1 h2 h3=>
  have h2':(ah s i:Int)=35:=by omega
  have q1:=lU (p:=pC s) (n:=s.size) h1 (by unfold pC;rw[h2];rfl);have q2:=gV (p:=pC s) (n:=s.size) (i:=i+1) (by omega);generalize hE:cd (pC s) s.size i=e at *;have hfin:∃a':Nat×List eD×List Nat,[DV.sc (.int .i64 ((e:Nat):Int)),.sc (.string (cI (op))),.sl 77 2 ((out).map aS),.sc (.int .i64 (ef (out)).kind),.sc (.string (ef (out)).text)]=[DV.sc (.int .i64 ((a'.1:Nat):Int)),.sc (.string (cI (a'.2.2))),.sl 77 2 ((a'.2.1).map aS),.sc (.int .i64 (ef (a'.2.1)).kind),.sc (.string (ef (a'.2.1)).text)]/\(a'.1<=s.size/\mJ s a'.1 a'.2.1 a'.2.2 R/\a'.2.1.length<=a'.1/\a'.2.2.length<=a'.1/\∀x∈a'.2.2,x<256)/\s.size-a'.1<s.size-i:=⟨(e,out,op),rfl,⟨by simp only;omega,h3,by simp only;omega,by simp only;omega,h256⟩,by simp only;omega⟩
  repeat' (first|(with_reducible first|refine am ?_|refine aj (by assumption) rfl ?_|refine ap (λhbr=>?_) λhbr=>?_)|simp(disch:=first|omega|(simp only[ak];omega)|simp only[al,Nat.reduceAdd]) only[go_sem,h2',Int.toNat_natCast,aK])
  rotate_left
  ·omega
  refine lp (λk:Nat=>[.sc (.int .i64 k)]) (λk=>k<=s.size/\cd (pC s) s.size k=e) (λk=>s.size-k) i rfl ⟨by omega,hE⟩ ?_;rintro k ⟨hk,he⟩;simp only[iZ];by_cases hlt:k<s.size
  ·by_cases hk10:ah s k=10
   ·have hk10':(ah s k:Int)=10:=by omega
    have:=zS (p:=pC s) (n:=s.size) (i:=k) (by unfold pC;rw[decide_eq_true hk10];rfl);obtain rfl:k=e:=by omega
    repeat' (first|(with_reducible first|refine am ?_|refine aj (by assumption) rfl ?_|refine ap (λhbr=>?_) λhbr=>?_)|simp(disch:=first|omega|(simp only[ak];omega)|simp only[al,Nat.reduceAdd]) only[go_sem,hk10',Int.toNat_natCast,aK])
    all_goals first|omega|exact hfin|skip
   ·have:=lU (p:=pC s) (n:=s.size) hlt (by unfold pC;rw[decide_eq_false hk10];rfl);have d10:¬(ah s k:Int)=10:=by omega
    repeat' (first|(with_reducible first|refine am ?_|refine aj (by assumption) rfl ?_|refine ap (λhbr=>?_) λhbr=>?_)|simp(disch:=first|omega|(simp only[ak];omega)|simp only[al,Nat.reduceAdd]) only[go_sem,d10,Int.toNat_natCast,aK])
    all_goals first|omega|contradiction|exact⟨k+1,rfl,⟨by omega,by omega⟩,by omega⟩|skip
  ·have:=z9 (p:=pC s) (n:=s.size) (i:=k) (by omega);obtain rfl:k=e:=by omega
   repeat' (first|(with_reducible first|refine am ?_|refine aj (by assumption) rfl ?_|refine ap (λhbr=>?_) λhbr=>?_)|simp(disch:=first|omega|(simp only[ak];omega)|simp only[al,Nat.reduceAdd]) only[go_sem,Int.toNat_natCast,aK])
   all_goals first|omega|exact hfin|skip
 |nl h1 h2 h3=>
  have h2':(ah s i:Int)=10:=by omega
  have hnl:=Fu out op;have hfin:∀o2:List eD,o2=EW out op->∃a':Nat×List eD×List Nat,[DV.sc (.int .i64 ((i+1:Nat):Int)),.sc (.string (cI (op))),.sl 77 2 ((o2).map aS),.sc (.int .i64 (ef (o2)).kind),.sc (.string (ef (o2)).text)]=[DV.sc (.int .i64 ((a'.1:Nat):Int)),.sc (.string (cI (a'.2.2))),.sl 77 2 ((a'.2.1).map aS),.sc (.int .i64 (ef (a'.2.1)).kind),.sc (.string (ef (a'.2.1)).text)]/\(a'.1<=s.size/\mJ s a'.1 a'.2.1 a'.2.2 R/\a'.2.1.length<=a'.1/\a'.2.2.length<=a'.1/\∀x∈a'.2.2,x<256)/\s.size-a'.1<s.size-i:=λo2 e=>⟨(i+1,o2,op),rfl,⟨by simp only;omega,by rw[e];exact h3,by simp only;rw[e];omega,by simp only;omega,h256⟩,by simp only;omega⟩
  have hfin2:=hfin (out++[AJ]);rw[yw]at hfin2;have htok:=FD out 6 ⟨#[59]⟩
  have happ:vz 77 2 24 (some (.sl 77 2 (out.map aS))) (some (.sl 77 2 [[.sc (.int .i64 6),.sc (.string ⟨#[59]⟩)]]))=some [.sl 77 2 ((out++[AJ]).map aS)]:=by
   rw[ul (by simp;omega) (by decide),htok];rfl
  have hex:=GS (ef out);simp only[aS]at hex;cases hx:EH (ef out)
  ·rw[hx]at hex;have hn:out=EW out op:=by unfold EW;rw[if_neg (λh=>by rw[hx]at h;cases h.2)]
   have hf:=hfin out hn;simp only[Bool.not_false]at hex
   repeat' (first|(with_reducible first|refine am ?_|refine aj (by assumption) rfl ?_|refine ap (λhbr=>?_) λhbr=>?_)|simp(disch:=first|omega|(simp only[ak];omega)|simp only[al,Nat.reduceAdd]) only[go_sem,h2',Int.toNat_natCast,aK])
   all_goals first|omega|exact hf|skip
  rw[hx]at hex;simp only[Bool.not_true]at hex;by_cases hop:op=[]
  ·have hok:SK op=true:=by rw[hop];rfl
   have hof:cI op=⟨#[]⟩:=vE.2 hop;have hn:out++[AJ]=EW out op:=by unfold EW;rw[if_pos ⟨hok,hx⟩]
   have hf:=hfin2 hn
   repeat' (first|(with_reducible first|refine am ?_|refine aj (by assumption) rfl ?_|refine ap (λhbr=>?_) λhbr=>?_)|simp(disch:=first|omega|(simp only[ak];omega)|simp only[al,Nat.reduceAdd]) only[go_sem,h2',happ,pZ,Int.toNat_natCast,aK])
   all_goals first|omega|exact hf|exact absurd hof ‹_›|skip
  have hof:¬cI op=⟨#[]⟩:=λh=>hop (vE.1 h)
  have hlpo:0<op.length:=List.length_pos_iff.2 hop
  have hixo:By (some (.sc (.string (cI op)))) (some (.sc (.int .i64 (((cI op).size:Int)-1))))=some [.sc (.int .u8 (op.getLastD 123:Nat))]:=by
   rw[hol0,zZ (by omega) (by rw[hol0];omega),show((op.length:Int)-1).toNat=op.length-1 by omega,J7 hop h256]
  by_cases hb3:op.getLastD 123=123
  ·have hok:SK op=true:=decide_eq_true hb3;have hb3':((op.getLastD 123:Nat):Int)=123:=by omega
   rw[hb3']at hixo;have hn:out++[AJ]=EW out op:=by unfold EW;rw[if_pos ⟨hok,hx⟩]
   have hf:=hfin2 hn
   repeat' (first|(with_reducible first|refine am ?_|refine aj (by assumption) rfl ?_|refine ap (λhbr=>?_) λhbr=>?_)|simp(disch:=first|omega|(simp only[ak];omega)|simp only[al,Nat.reduceAdd]) only[go_sem,h2',hixo,happ,pZ,Int.toNat_natCast,aK])
   all_goals first|omega|contradiction|exact hf|skip
  ·have hok:SK op=false:=decide_eq_false hb3;have hb3':¬((op.getLastD 123:Nat):Int)=123:=by omega
   have hn:out=EW out op:=by unfold EW;rw[if_neg (λh=>by rw[hok]at h;cases h.1)]
   have hf:=hfin out hn
   repeat' (first|(with_reducible first|refine am ?_|refine aj (by assumption) rfl ?_|refine ap (λhbr=>?_) λhbr=>?_)|simp(disch:=first|omega|(simp only[ak];omega)|simp only[al,Nat.reduceAdd]) only[go_sem,h2',hixo,hb3',Int.toNat_natCast,aK])
   all_goals first|omega|contradiction|exact hf|skip
 |bad h1 h2 h3=>
  obtain⟨n1,n2,n3,n4⟩:=h2;have d1:¬(ah s i:Int)=32:=by omega
  have d2:¬(ah s i:Int)=9:=by omega
  have d3:¬(ah s i:Int)=35:=by omega
  have d4:¬(ah s i:Int)=10:=by omega
  have hn:=EM s i h1 (by omega);rw[h3]at hn;simp only[Cp,aS]at hn
  repeat' (first|(with_reducible first|refine am ?_|refine aj (by assumption) rfl ?_|refine ap (λhbr=>?_) λhbr=>?_)|simp(disch:=first|omega|(simp only[ak];omega)|simp only[al,Nat.reduceAdd]) only[go_sem,d1,d2,d3,d4,Int.toNat_natCast,aK])
  all_goals first|omega|contradiction|rfl|skip
 |@tok _ _ _ k e _ h1 h2 h3 h4=>
  obtain⟨n1,n2,n3,n4⟩:=h2;have d1:¬(ah s i:Int)=32:=by omega
  have d2:¬(ah s i:Int)=9:=by omega
  have d3:¬(ah s i:Int)=35:=by omega
  have d4:¬(ah s i:Int)=10:=by omega
  have hn:=EM s i h1 (by omega);obtain⟨g1,g2,g3⟩:=DI h1 (by omega) h3;rw[h3]at hn;have hol:=LW k op;have h256':=Pf (k:=k) h256;obtain⟨kd,tx⟩:=k;simp only at g3;have hfin:∀p2:List Nat,p2=Cv ⟨kd,tx⟩ op->∃a':Nat×List eD×List Nat,[DV.sc (.int .i64 ((e:Nat):Int)),.sc (.string (cI (p2))),.sl 77 2 ((out++[(⟨kd,tx⟩:eD)]).map aS),.sc (.int .i64 kd),.sc (.string tx)]=[DV.sc (.int .i64 ((a'.1:Nat):Int)),.sc (.string (cI (a'.2.2))),.sl 77 2 ((a'.2.1).map aS),.sc (.int .i64 (ef (a'.2.1)).kind),.sc (.string (ef (a'.2.1)).text)]/\(a'.1<=s.size/\mJ s a'.1 a'.2.1 a'.2.2 R/\a'.2.1.length<=a'.1/\a'.2.2.length<=a'.1/\∀x∈a'.2.2,x<256)/\s.size-a'.1<s.size-i:=λp2 e2=>⟨(e,out++[⟨kd,tx⟩],p2),by rw[yw],⟨by simp only;omega,by rw[e2];exact h4,by simp only;rw[List.length_append,List.length_singleton];omega,by simp only;rw[e2];omega,by rw[e2];exact h256'⟩,by simp only;omega⟩
  have htok:=FD out kd tx
  have happ:vz 77 2 24 (some (.sl 77 2 (out.map aS))) (some (.sl 77 2 [[.sc (.int .i64 kd),.sc (.string tx)]]))=some [.sl 77 2 ((out++[(⟨kd,tx⟩:eD)]).map aS)]:=by
   rw[ul (by simp;omega) (by decide),htok]
  have hH1:=jP 9 [⟨#[40]⟩,⟨#[91]⟩,⟨#[123]⟩] tx (by decide)
  have hb1:tQ [⟨#[40]⟩,⟨#[91]⟩,⟨#[123]⟩] tx=decide (tx=⟨#[40]⟩\/tx=⟨#[91]⟩\/tx=⟨#[123]⟩):=by
   rw[Bool.eq_iff_iff,ne,decide_eq_true_eq];simp
  rw[hb1]at hH1;have hH2:=jP 9 [⟨#[41]⟩,⟨#[93]⟩,⟨#[125]⟩] tx (by decide)
  have hb2:tQ [⟨#[41]⟩,⟨#[93]⟩,⟨#[125]⟩] tx=decide (tx=⟨#[41]⟩\/tx=⟨#[93]⟩\/tx=⟨#[125]⟩):=by
   rw[Bool.eq_iff_iff,ne,decide_eq_true_eq];simp
  rw[hb2]at hH2;simp only[List.map_cons,List.map_nil,dc]at hH1 hH2;have hnz:¬((e:Int)-(i:Int)=0):=by omega
  have hie:(i:Int)+((e:Int)-(i:Int))=(e:Int):=by omega
  simp only[Cp,aS]at hn;by_cases hk:kd=5;rotate_left
  ·have hop:op=Cv ⟨kd,tx⟩ op:=by unfold Cv;rw[if_neg hk]
   have hf:=hfin op hop
   repeat' (first|(with_reducible first|refine am ?_|refine aj (by assumption) rfl ?_|refine ap (λhbr=>?_) λhbr=>?_)|simp(disch:=first|omega|(simp only[ak];omega)|simp only[al,Nat.reduceAdd]) only[go_sem,d1,d2,d3,d4,hnz,hie,happ,pZ,Int.toNat_natCast,bX,bZ,aK])
   all_goals first|omega|contradiction|exact hf|skip
  subst hk;by_cases topen:tx=⟨#[40]⟩\/tx=⟨#[91]⟩\/tx=⟨#[123]⟩
  ·have hop:op++[ah tx 0]=Cv ⟨5,tx⟩ op:=by unfold Cv;rw[if_pos rfl,if_pos topen]
   have hf:=hfin _ hop;have htx:tx=cI [ah tx 0]:=by rcases topen with h|h|h<;>rw[h]<;>rfl
   have hcat:bE .add false (some (.sc (.string (cI op)))) (some (.sc (.string tx)))=some [.sc (.string (cI (op++[ah tx 0])))]:=by
    have:=@km false op tx (by omega);rw[this];congr 3
    conv=>lhs;rw[htx]
    exact congrArg Value.string (Ek op _)
   rw[decide_eq_true topen]at hH1
   repeat' (first|(with_reducible first|refine am ?_|refine aj (by assumption) rfl ?_|refine ap (λhbr=>?_) λhbr=>?_)|simp(disch:=first|omega|(simp only[ak];omega)|simp only[al,Nat.reduceAdd]) only[go_sem,d1,d2,d3,d4,hnz,hie,happ,pZ,hcat,Int.toNat_natCast,bX,bZ,aK])
   all_goals first|omega|contradiction|exact hf|skip
  rw[decide_eq_false topen]at hH1;by_cases tc:tx=⟨#[41]⟩\/tx=⟨#[93]⟩\/tx=⟨#[125]⟩
  ·have hop:op.take (op.length-1)=Cv ⟨5,tx⟩ op:=by unfold Cv;rw[if_pos rfl,if_neg topen,if_pos tc]
   rw[decide_eq_true tc]at hH2;by_cases hpz:op=[]
   ·have hof:cI op=⟨#[]⟩:=vE.2 hpz;have hop2:op=Cv ⟨5,tx⟩ op:=by rw[<-hop,hpz];rfl
    have hf:=hfin _ hop2
    repeat' (first|(with_reducible first|refine am ?_|refine aj (by assumption) rfl ?_|refine ap (λhbr=>?_) λhbr=>?_)|simp(disch:=first|omega|(simp only[ak];omega)|simp only[al,Nat.reduceAdd]) only[go_sem,d1,d2,d3,d4,hnz,hie,happ,pZ,Int.toNat_natCast,bX,bZ,aK])
    all_goals first|omega|contradiction|exact hf|skip
   ·have hof:¬cI op=⟨#[]⟩:=λh=>hpz (vE.1 h)
    have hpl:0<op.length:=List.length_pos_iff.2 hpz;have hf:=hfin _ hop
    have dD:lr (some (.sc (.string (cI op)))) (some none) (some (some (((cI op).size:Int)-1)))=some [.sc (.string (cI (op.take (op.length-1))))]:=by
     rw[hol0,MI (by omega) (by rw[hol0];omega),show((op.length:Int)-1).toNat=op.length-1 by omega,IK]
    repeat' (first|(with_reducible first|refine am ?_|refine aj (by assumption) rfl ?_|refine ap (λhbr=>?_) λhbr=>?_)|simp(disch:=first|omega|(simp only[ak];omega)|simp only[al,Nat.reduceAdd]) only[go_sem,d1,d2,d3,d4,hnz,hie,happ,pZ,dD,Int.toNat_natCast,bX,bZ,aK])
    all_goals first|omega|contradiction|exact hf|skip
  ·have hop:op=Cv ⟨5,tx⟩ op:=by unfold Cv;rw[if_pos rfl,if_neg topen,if_neg tc]
   rw[decide_eq_false tc]at hH2;have hf:=hfin _ hop
   repeat' (first|(with_reducible first|refine am ?_|refine aj (by assumption) rfl ?_|refine ap (λhbr=>?_) λhbr=>?_)|simp(disch:=first|omega|(simp only[ak];omega)|simp only[al,Nat.reduceAdd]) only[go_sem,d1,d2,d3,d4,hnz,hie,happ,pZ,Int.toNat_natCast,bX,bZ,aK])
   all_goals first|omega|contradiction|exact hf|skip
theorem CK(s:ByteArray)(hs:¬s.size<=600):aW Try.prog 38 [(false,[.sc (.string s)])] [(false,[ao []],true),(false,[.sc (.int .i64 600)],true)]:=by
 refine ax Try.func38 jW rfl ?_;simp only[eS];simp only[ao];simp(disch:=first|omega|(simp only[ak];omega)|simp only[al,Nat.reduceAdd]) only[go_sem,true_and];refine bI (λhbr=>?_) (λhbr=>?_);rotate_left
 ·omega
 repeat' (first|(with_reducible first|refine am ?_|refine aj (by assumption) rfl ?_|refine ap (λhbr=>?_) λhbr=>?_)|simp(disch:=first|omega|(simp only[ak];omega)|simp only[al,Nat.reduceAdd]) only[go_sem,true_and])
 all_goals first|omega|rfl
structure bj where
 kind:Int
 num:Int
 text:ByteArray
 labels:List ByteArray
 kids:Int
 deriving DecidableEq
instance:Inhabited bj:=⟨⟨default,default,default,default,default⟩⟩
def aB(x:bj):List DV:=[.sc (.int .i64 x.kind),.sc (.int .i64 x.num),.sc (.string x.text),bo x.labels,.sc (.int .i64 x.kids)]
def ae(l:List bj):DV:=.sl 37 5 (l.map aB)
theorem cG{t:Nat}{l:List bj}{kd:IntKind}{z:Int}(h:0<=z)(h1:z<l.length):rk 5 (some (.sl t 5 (l.map aB))) (some (.sc (.int kd z)))=some (aB (l.getD z.toNat default)):=kQ (λ_=>rfl) h h1
def bR(T:List eD)(i:Nat)(o:List bj)(b:Bool):List DV:=[ao T,.sc (.int .i64 i),ae o,.sc (.bool b)]
theorem fE(T:List eD)(i:Nat)(o:List bj)(b:Bool):mU (gO Try.prog 9 66) (bR T i o b)=true:=by
 have:gO Try.prog 9 66=[some (77,2),none,some (37,5),none]:=by kernel_rfl
 rw[this];simp[bR,mU,ao,ae]
abbrev PV(f:FuncId)(T:List eD)(i:Nat)(o:List bj)(b:Bool)(args:List (Bool×List DV))(i':Nat)(o':List bj)(b':Bool)(res:List (Bool×List DV)):Prop:=
 dZ Try.prog (ux 66 4 f) ((true,bR T i o b)::args) ((true,bR T i' o' b',true)::res.map λr=>(r.1,r.2,true))
def C3(T:List eD)(i:Nat)(b:Bool)(s:ByteArray):Bool:=!b&&(decide (i<T.length)&&(decide (4<=(T.getD i default).kind)&&decide ((T.getD i default).text=s)))
theorem bx{n:Nat}{cs cs':List DV}{res rs:List (Bool×List DV)}(h1:cs=cs')(h2:rs=res):MM n res cs' ((true,cs)::rs):=by rw[h1,h2];rfl
theorem RX(T:List eD)(i:Nat)(o:List bj)(b:Bool)(s:ByteArray)(hT:T.length<=1000)(hi:i<=T.length):PV 57 T i o b [(false,[.sc (.string s)])] i o b [(false,[.sc (.bool (C3 T i b s))])]:=by
 have hx:=λ(h:i<T.length)=>kt (t:=77) (l:=T) (kd:=.i64) (z:=(i:Int)) (by omega) (by omega)
 refine fN Try.func57 wv rfl (fE ..) ?_;simp only[nn];simp only[bR,ao,ae];cases b
 ·by_cases hlt:i<T.length
  ·have hx:=hx hlt;rw[Int.toNat_natCast]at hx;unfold C3;generalize T.getD i default=x at *;obtain⟨k,t⟩:=x;simp only[aS]at hx
   repeat' (first|(with_reducible first|refine am ?_|refine aj (by assumption) rfl ?_|refine ap (λhbr=>?_) λhbr=>?_)|simp(disch:=first|omega|(simp only[ak];omega)|simp only[al,Nat.reduceAdd]) only[go_sem,hx,ep])
   all_goals first|(exfalso;omega)|exact bx rfl (by simp[*])
  ·repeat' (first|(with_reducible first|refine am ?_|refine aj (by assumption) rfl ?_|refine ap (λhbr=>?_) λhbr=>?_)|simp(disch:=first|omega|(simp only[ak];omega)|simp only[al,Nat.reduceAdd]) only[go_sem,ep])
   all_goals first|(exfalso;omega)|exact bx rfl (by simp[C3,hlt])
 ·repeat' (first|(with_reducible first|refine am ?_|refine aj (by assumption) rfl ?_|refine ap (λhbr=>?_) λhbr=>?_)|simp(disch:=first|omega|(simp only[ak];omega)|simp only[al,Nat.reduceAdd]) only[go_sem,ep])
  exact bx rfl (by simp[C3])
theorem HT(T:List eD)(i:Nat)(o:List bj)(b:Bool)(s:ByteArray)(hT:T.length<=1000)(hi:i<=T.length):PV 55 T i o b [(false,[.sc (.string s)])] (if C3 T i b s=true then i+1 else i) o b [(false,[.sc (.bool (C3 T i b s))])]:=by
 have h:=RX T i o b s hT hi;refine fN Try.func55 tK rfl (fE ..) ?_;simp only[lf];simp only[PV,bR,ao,ae]at h ⊢;simp(disch:=first|omega|(simp only[ak];omega)|simp only[al,Nat.reduceAdd]) only[go_sem,true_and];refine aC h rfl ?_;cases C3 T i b s
 ·repeat' (first|(with_reducible first|refine am ?_|refine aj (by assumption) rfl ?_|refine ap (λhbr=>?_) λhbr=>?_)|simp(disch:=first|omega|(simp only[ak];omega)|simp only[al,Nat.reduceAdd]) only[go_sem,true_and])
  exact bx rfl rfl
 ·repeat' (first|(with_reducible first|refine am ?_|refine aj (by assumption) rfl ?_|refine ap (λhbr=>?_) λhbr=>?_)|simp(disch:=first|omega|(simp only[ak];omega)|simp only[al,Nat.reduceAdd]) only[go_sem,true_and])
  exact bx (by simp) rfl
theorem Nt(T:List eD)(i:Nat)(o:List bj)(b:Bool)(s:ByteArray)(hT:T.length<=1000)(hi:i<=T.length):PV 78 T i o b [(false,[.sc (.string s)])] (if C3 T i b s=true then i+1 else i) o (!C3 T i b s) []:=by
 have h:=HT T i o b s hT hi;have hb:C3 T i b s=true->b=false:=λh=>by unfold C3 at h;cases b<;>simp_all
 refine fN Try.func78 sD rfl (fE ..) ?_;simp only[ly];simp only[PV,bR,ao,ae]at h ⊢;simp(disch:=first|omega|(simp only[ak];omega)|simp only[al,Nat.reduceAdd]) only[go_sem,true_and];refine aC h rfl ?_;cases he:C3 T i b s
 ·repeat' (first|(with_reducible first|refine am ?_|refine aj (by assumption) rfl ?_|refine ap (λhbr=>?_) λhbr=>?_)|simp(disch:=first|omega|(simp only[ak];omega)|simp only[al,Nat.reduceAdd]) only[go_sem,true_and])
  exact bx rfl rfl
 ·rw[hb he]
  repeat' (first|(with_reducible first|refine am ?_|refine aj (by assumption) rfl ?_|refine ap (λhbr=>?_) λhbr=>?_)|simp(disch:=first|omega|(simp only[ak];omega)|simp only[al,Nat.reduceAdd]) only[go_sem,true_and])
  exact bx rfl rfl
def oV(T:List eD)(i:Nat)(b:Bool)(k:Int)(nm:Bool):Bool:=!b&&(decide (i<T.length)&&(decide ((T.getD i default).kind=k)&& !(nm&& !de (T.getD i default).text)))
theorem Pp(T:List eD)(i:Nat)(o:List bj)(b:Bool)(k:Int)(nm:Bool)(hT:T.length<=1000)(hi:i<=T.length)(hs:∀x∈T,x.text.size<=1000):PV 79 T i o b [(false,[.sc (.int .i64 k)]),(false,[.sc (.bool nm)])]
 (if oV T i b k nm=true then i+1 else i) o (!oV T i b k nm) [(false,[.sc (.string (if oV T i b k nm=true then(T.getD i default).text else⟨#[]⟩))])]:=by
 have hx:=λ(h:i<T.length)=>kt (t:=77) (l:=T) (kd:=.i64) (z:=(i:Int)) (by omega) (by omega)
 refine fN Try.func79 sj rfl (fE ..) ?_;simp only[kB];simp only[bR,ao,ae];cases b
 ·by_cases hlt:i<T.length
  ·have hx:=hx hlt;rw[Int.toNat_natCast]at hx;have hn:=eq (T.getD i default).text (by have:=hs _ (bK hlt);omega);unfold oV;generalize T.getD i default=x at *;obtain⟨kd,t⟩:=x;simp only[aS]at hx hn ⊢;have e1:((i+1:Nat):Int)-1=i:=by omega
   cases nm
   ·repeat' (first|(with_reducible first|refine am ?_|refine aj (by assumption) rfl ?_|refine ap (λhbr=>?_) λhbr=>?_)|simp(disch:=first|omega|(simp only[ak];omega)|simp only[al,Nat.reduceAdd]) only[go_sem,hx,e1,cQ])
    all_goals first|(exfalso;omega)|exact bx (by simp[*]) (by simp[*])
   ·generalize de t=nb at*
    repeat' (first|(with_reducible first|refine am ?_|refine aj (by assumption) rfl ?_|refine ap (λhbr=>?_) λhbr=>?_)|simp(disch:=first|omega|(simp only[ak];omega)|simp only[al,Nat.reduceAdd]) only[go_sem,hx,e1,cQ])
    all_goals first|(exfalso;omega)|skip
    all_goals exact bx (by simp_all) (by simp_all)
  ·repeat' (first|(with_reducible first|refine am ?_|refine aj (by assumption) rfl ?_|refine ap (λhbr=>?_) λhbr=>?_)|simp(disch:=first|omega|(simp only[ak];omega)|simp only[al,Nat.reduceAdd]) only[go_sem,cQ])
   all_goals first|(exfalso;omega)|exact bx (by simp[oV,hlt]) (by simp[oV,hlt])
 ·repeat' (first|(with_reducible first|refine am ?_|refine aj (by assumption) rfl ?_|refine ap (λhbr=>?_) λhbr=>?_)|simp(disch:=first|omega|(simp only[ak];omega)|simp only[al,Nat.reduceAdd]) only[go_sem,cQ])
  exact bx (by simp[oV]) (by simp[oV])
theorem dC(T:List eD)(i:Nat)(o:List bj)(b:Bool)(k:Int)(s:ByteArray)(c:Int)(ho:o.length<=1000000):PV 40 T i o b [(false,[.sc (.int .i64 k)]),(false,[.sc (.string s)]),(false,[.sc (.int .i64 c)])] i (o++[⟨k,0,s,[],c⟩]) b []:=by
 refine fN Try.func40 ve rfl (fE ..) ?_;simp only[mn];simp only[bR,ao,ae]
 repeat' (first|(with_reducible first|refine am ?_|refine aj (by assumption) rfl ?_|refine ap (λhbr=>?_) λhbr=>?_)|simp(disch:=first|omega|(simp only[ak];omega)|simp only[al,Nat.reduceAdd]) only[go_sem,true_and])
 exact bx (by simp[aB,bo]) rfl
theorem ew(T:List eD)(i:Nat)(o:List bj)(b:Bool)(s:ByteArray)(hT:T.length<=1000)(hi:i<=T.length):∃(i':Nat) (b':Bool),(i<=i'/\i'<=T.length/\i'<=i+1/\(b=true->b'=true)/\(b'=false->i'=i+1))/\PV 78 T i o b [(false,[.sc (.string s)])] i' o b' []:=by
 refine⟨_,_,?_,Nt T i o b s hT hi⟩;unfold C3;cases b<;>by_cases h:i<T.length<;>by_cases h2:4<=(T.getD i default).kind<;>by_cases h3:(T.getD i default).text=s<;>simp only[h,h2,h3,decide_true,decide_false,Bool.not_true,Bool.not_false,Bool.and_true,Bool.and_false,Bool.true_and,Bool.false_and,if_true,if_false,Bool.false_eq_true]<;>refine⟨?_,?_,?_,?_,?_⟩<;>first|omega|simp
theorem ko(T:List eD)(i:Nat)(o:List bj)(b:Bool)(s:ByteArray)(hT:T.length<=1000)(hi:i<=T.length):∃(i':Nat) (r:Bool),(i<=i'/\i'<=T.length/\(r=true->b=false/\i'=i+1)/\(r=false->i'=i))/\PV 55 T i o b [(false,[.sc (.string s)])] i' o b [(false,[.sc (.bool r)])]:=by
 refine⟨_,_,?_,HT T i o b s hT hi⟩;unfold C3;cases b<;>by_cases h:i<T.length<;>by_cases h2:4<=(T.getD i default).kind<;>by_cases h3:(T.getD i default).text=s<;>simp only[h,h2,h3,decide_true,decide_false,Bool.not_true,Bool.not_false,Bool.and_true,Bool.and_false,Bool.true_and,Bool.false_and,if_true,if_false,Bool.false_eq_true]<;>refine⟨?_,?_,?_,?_⟩<;>first|omega|simp
theorem x7(T:List eD)(i:Nat)(o:List bj)(b:Bool)(s:ByteArray)(hT:T.length<=1000)(hi:i<=T.length):∃r:Bool,(r=true->b=false/\i<T.length)/\PV 57 T i o b [(false,[.sc (.string s)])] i o b [(false,[.sc (.bool r)])]:=by
 refine⟨_,?_,RX T i o b s hT hi⟩;unfold C3;cases b<;>by_cases h:i<T.length<;>simp[h]
theorem nx(T:List eD)(i:Nat)(o:List bj)(b:Bool)(k:Int)(nm:Bool)(hT:T.length<=1000)(hi:i<=T.length)(hs:∀x∈T,x.text.size<=1000):∃(i':Nat) (b':Bool) (s:ByteArray),(i<=i'/\i'<=T.length/\i'<=i+1/\(b=true->b'=true)/\(b'=false->i'=i+1)/\s.size<=1000)/\
 PV 79 T i o b [(false,[.sc (.int .i64 k)]),(false,[.sc (.bool nm)])] i' o b' [(false,[.sc (.string s)])]:=by
 refine⟨_,_,_,?_,Pp T i o b k nm hT hi hs⟩;have h2:∀h:i<T.length,(T.getD i default).text.size<=1000:=λh=>hs _ (bK h)
 cases hr:oV T i b k nm
 ·simp only[Bool.false_eq_true,if_false,Bool.not_false];exact⟨by omega,by omega,by omega,by simp,by simp,Nat.zero_le _⟩
 ·unfold oV at hr;simp only[Bool.and_eq_true,decide_eq_true_eq,Bool.not_eq_true']at hr;obtain⟨q1,q2,-⟩:=hr;simp only[if_true,Bool.not_true];exact⟨by omega,by omega,by omega,by simp[q1],by simp,h2 q2⟩
def Qe(d:Option Nat)(x:bj):Option Nat:=match d with|none=>none|some d=>if 0<=x.kids/\x.kids<=d then some (d-x.kids.toNat+1)else none
def u9(a:Nat)(l:List bj):Option Nat:=l.foldl Qe (some a)
def NS(x:bj):Prop:=(x.kind=7->x.kids=0)/\(x.kind=12\/x.kind=13->x.kids=2)/\(x.kind=9->x.kids=(x.labels.length:Int)+1)/\x.text.size<=1000/\x.labels.length<=3000/\∀y∈x.labels,y.size<=1000
def Tf(a c:Nat)(e:List bj):Prop:=u9 a e=some c/\∀x∈e,NS x
theorem A7(l:List bj):l.foldl Qe none=none:=by
 induction l with
 |nil=>rfl
 |cons x l ih=>exact ih
theorem Et{a b c:Nat}{l r:List bj}(h:u9 a l=some b)(k:u9 b r=some c):u9 a (l++r)=some c:=by
 unfold u9 at *;rw[List.foldl_append,h];exact k
theorem LH{a c m:Nat}:∀{l:List bj},u9 a l=some c->u9 (a+m) l=some (c+m):=by
 intro l
 induction l generalizing a with
 |nil=>intro h;unfold u9 at *;simp only[List.foldl_nil,Option.some.injEq]at *;omega
 |cons x l ih=>
  intro h;unfold u9 at h ⊢;simp only[List.foldl_cons,Qe]at h ⊢;split at h
  ·rename_i hx;rw[if_pos (by omega)];have:=ih h;unfold u9 at this;rw[show a+m-x.kids.toNat+1=a-x.kids.toNat+1+m by omega];exact this
  ·rw[A7]at h;cases h
theorem Tf.nil{a:Nat}:Tf a a []:=⟨rfl,by simp⟩
theorem Tf.app{a b c:Nat}{l r:List bj}(h:Tf a b l)(k:Tf b c r):Tf a c (l++r):=⟨Et h.1 k.1,λx hx=>(List.mem_append.1 hx).elim (h.2 x) (k.2 x)⟩
theorem Tf.add{a c:Nat}{l:List bj}(h:Tf a c l)(m:Nat):Tf (a+m) (c+m) l:=⟨LH h.1,h.2⟩
theorem Tf.up{c:Nat}{l:List bj}(h:Tf 0 c l)(m:Nat):Tf m (m+c) l:=by have:=h.add m;rwa [Nat.zero_add,Nat.add_comm c m]at this
theorem Tf.one{a:Nat}{x:bj}(k:Nat)(hk:x.kids=k)(h:k<=a)(hx:NS x):Tf a (a+1-k) [x]:=by
 refine⟨?_,by simpa using hx⟩;unfold u9;simp only[List.foldl_cons,List.foldl_nil,Qe];rw[if_pos (by omega)];congr 1;omega
def Qs(n d a c:Nat)(i:Nat)(o:List bj)(b:Bool)(i':Nat)(o':List bj)(b':Bool):Prop:=
 i<=i'/\i'<=n/\o'.length+2*i<=o.length+2*i'+d/\(b=true->b'=true)/\(b'=false->∃e,o'=o++e/\Tf a c e)
def MB(T:List eD)(k:Nat):Prop:=∀(i:Nat) (o:List bj) (b:Bool) (least:Int),k<=i->i<=T.length->o.length+2*(T.length-i)<=300000+10*i->
 ∃(i':Nat) (o':List bj) (b':Bool),(i<=i'/\i'<=T.length/\o'.length+2*i<=o.length+2*i'/\(b=true->b'=true)/\(b'=false->i<i'/\∃e,o'=o++e/\Tf 0 1 e))/\PV 56 T i o b [(false,[.sc (.int .i64 least)])] i' o' b' []
theorem NS.mk'{k n c:Int}{s:ByteArray}{L:List ByteArray}(h7:k=7->c=0)(h2:k=12\/k=13->c=2)(h9:k=9->c=(L.length:Int)+1)(hs:s.size<=1000)(hl:L.length<=3000)(hL:∀y∈L,y.size<=1000):NS ⟨k,n,s,L,c⟩:=⟨h7,h2,h9,hs,hl,hL⟩
theorem nb{b b':Bool}(h:b=true->b'=true)(h':b'=false):b=false:=by cases b<;>simp_all
theorem zN(o e x:List bj):o++e++x=o++(e++x):=List.append_assoc ..
theorem G1(o e1 e2 x:List bj):o++e1++e2++x=o++(e1++e2++x):=by simp
theorem Tz(o e1 e2 e3 x:List bj):o++e1++e2++e3++x=o++(e1++e2++e3++x):=by simp
theorem K3(l:List bj)(k n c:Int)(s:ByteArray)(L:List ByteArray):l.map aB++[[.sc (.int .i64 k),.sc (.int .i64 n),.sc (.string s),.sl 9 1 (L.map dc),.sc (.int .i64 c)]]=(l++[(⟨k,n,s,L,c⟩:bj)]).map aB:=by rw[List.map_append];rfl
theorem d8(o:List bj)(x:bj):(o++[x]).length=o.length+1:=by simp
set_option maxHeartbeats 8000000 in
theorem Sd(T:List eD)(i:Nat)(o:List bj)(b:Bool)(w:ByteArray)(hT:T.length<=1000)(hi:i<=T.length)(hs:∀x∈T,x.text.size<=1000)(hE:MB T i)(hB:o.length+2*(T.length-i)+5<=300000+10*i):
 ∃a:Nat×List bj×Bool,Qs T.length 2 0 1 i o b a.1 a.2.1 a.2.2/\PV 75 T i o b [(false,[.sc (.string w)])] a.1 a.2.1 a.2.2 []:=by
 refine eF Try.func75 vh rfl (fE ..) (by kernel_rfl) ?_;simp only[mg];simp only[bR,ao,ae];simp(disch:=first|omega|(simp only[ak];omega)|simp only[al,Nat.reduceAdd]) only[go_sem,true_and];obtain⟨i1,b1,h1,hcb⟩:=ew T i o b ⟨#[40]⟩ hT (by omega);refine aC hcb rfl ?_;clear hcb;simp(disch:=first|omega|(simp only[ak];omega)|simp only[al,Nat.reduceAdd]) only[go_sem,bR,ao,ae];refine bI (λhw=>?_) (λhw=>?_)
 ·simp(disch:=first|omega|(simp only[ak];omega)|simp only[al,Nat.reduceAdd]) only[go_sem,true_and];refine am ?_
  refine lp (λs:Nat×Bool×List bj×List ByteArray=>[.sl 77 2 (T.map aS),.sc (.int .i64 s.1),.sc (.bool s.2.1),.sl 37 5 (s.2.2.1.map aB),.sl 9 1 (s.2.2.2.map dc)])
   (λs=>i1<=s.1/\s.1<=T.length/\((s.2.1=false->s.2.2.1.length+2*i<=o.length+2*s.1)/\s.2.2.1.length+2*i<=o.length+2*s.1+1)/\(b1=true->s.2.1=true)/\((s.2.1=false->s.2.2.2.length<=s.1)/\s.2.2.2.length<=s.1+1)/\(∀y∈s.2.2.2,y.size<=1000)/\(s.2.1=false->∃e,s.2.2.1=o++e/\Tf 0 s.2.2.2.length e))
   (λs=>2*(T.length-s.1)+(if s.2.1=true then 0 else 1)) (i1,b1,o,[]) rfl ⟨Nat.le_refl _,by simp only;omega,⟨λ_=>by simp only;omega,by simp only;omega⟩,λh=>h,⟨by simp,by simp⟩,by simp,λ_=>⟨[],by simp,Tf.nil⟩⟩ ?_
  rintro⟨i2,b2,o2,L⟩ ⟨g1,g2,⟨g3',g3⟩,g4,⟨g5',g5⟩,g6,g7⟩;simp only at g1 g2 g3 g3' g4 g5 g5' g6 g7 ⊢;simp only[k8];simp(disch:=first|omega|(simp only[ak];omega)|simp only[al,Nat.reduceAdd]) only[go_sem,true_and]
  have fin:∀(i3:Nat) (b3:Bool),i1<=i3->i3<=T.length->o2.length+2*i<=o.length+2*i3+1->L.length<=T.length+1->(b=true->b3=true)->(b3=false->b2=false)->∀(x:DV) (ρ:List DV),V Try.prog (λvs=>∃a:Nat×List bj×Bool,Qs T.length 2 0 1 i o b a.1 a.2.1 a.2.2/\MM (gO Try.prog 9 66).length [] [.sl 77 2 (T.map aS),.sc (.int .i64 a.1),.sl 37 5 (a.2.1.map aB),.sc (.bool a.2.2)] vs) fJ []
   (.sl 9 1 (L.map dc)::.sl 37 5 (o2.map aB)::.sc (.bool b3)::.sc (.int .i64 i3)::.sl 77 2 (T.map aS)::x::ρ):=by
   intro i3 b3 q1 q2 q3 q4 q5 q6 x ρ;simp only[fJ];simp(disch:=first|omega|(simp only[ak];omega)|simp only[al,Nat.reduceAdd]) only[go_sem,true_and];obtain⟨i4,o4,b4,h4,hcb⟩:=hE i3 o2 b3 1 (by omega) (by omega) (by omega);refine aC hcb rfl ?_;clear hcb;simp(disch:=first|omega|(simp only[ak];omega)|simp only[al,Nat.reduceAdd]) only[go_sem,bR,ao,ae];refine⟨(i4,o4++[⟨8,0,⟨#[]⟩,L,((L.length+1:Nat):Int)⟩],b4),⟨by omega,by omega,by simp only[d8];omega,by grind,λhb=>?_⟩,bx (by rw[K3]) rfl⟩;obtain⟨-,e2,rfl,t2⟩:=h4.2.2.2.2 hb;obtain⟨e1,rfl,t1⟩:=g7 (q6 (nb h4.2.2.2.1 hb));refine⟨_,G1 ..,(t1.app (t2.up _)).app ?_⟩;have:=Tf.one (a:=L.length+1) (x:=⟨8,0,⟨#[]⟩,L,((L.length+1:Nat):Int)⟩) (L.length+1) rfl (Nat.le_refl _) (NS.mk' (by simp) (by simp) (by simp) (by decide) (by omega) g6)
   rwa [show L.length+1+1-(L.length+1)=1 by omega]at this
  cases b2
  ·simp(disch:=first|omega|(simp only[ak];omega)|simp only[al,Nat.reduceAdd]) only[go_sem,true_and];obtain⟨i3,r,h3,hcb⟩:=ko T i2 o2 false ⟨#[41]⟩ hT (by omega);refine aC hcb rfl ?_;clear hcb;simp(disch:=first|omega|(simp only[ak];omega)|simp only[al,Nat.reduceAdd]) only[go_sem,bR,ao,ae];cases r
   ·obtain⟨e1,ho2,t1⟩:=g7 rfl;have g3':=g3' rfl;have g5':=g5' rfl;simp(disch:=first|omega|(simp only[ak];omega)|simp only[al,Nat.reduceAdd]) only[go_sem,true_and];refine am ?_;simp(disch:=first|omega|(simp only[ak];omega)|simp only[al,Nat.reduceAdd]) only[go_sem,true_and];refine jn (λvs=>∃(i4:Nat) (b4:Bool),(i3<=i4/\i4<=T.length)/\vs=[.sl 77 2 (T.map aS),.sc (.int .i64 i4),.sc (.bool b4),.sl 37 5 (o2.map aB)]) ?_ ?_
    ·refine bI (λhl=>?_) (λhl=>?_)
     ·simp(disch:=first|omega|(simp only[ak];omega)|simp only[al,Nat.reduceAdd]) only[go_sem,true_and];obtain⟨i4,b4,h4,hcb⟩:=ew T i3 o2 false ⟨#[44]⟩ hT (by omega);refine aC hcb rfl ?_;clear hcb;simp(disch:=first|omega|(simp only[ak];omega)|simp only[al,Nat.reduceAdd]) only[go_sem,bR,ao,ae];exact⟨i4,b4,⟨by omega,by omega⟩,rfl⟩
     ·simp(disch:=first|omega|(simp only[ak];omega)|simp only[al,Nat.reduceAdd]) only[go_sem,true_and];exact⟨i3,false,⟨by omega,by omega⟩,rfl⟩
    rintro vs - ⟨i4,b4,⟨h4,h4'⟩,rfl⟩;simp only[lb];simp(disch:=first|omega|(simp only[ak];omega)|simp only[al,Nat.reduceAdd]) only[go_sem,true_and];refine jn (λvs=>∃c:Bool,vs=[.sc (.bool c)]) ?_ ?_
    ·have hx:=λ(h:i4<T.length)=>kt (t:=77) (l:=T) (kd:=.i64) (z:=(i4:Int)) (by omega) (by omega)
     have hh:=jP 9 L (T.getD i4 default).text (by omega);by_cases hlt:i4<T.length
     ·have hx:=hx hlt;rw[Int.toNat_natCast]at hx;generalize T.getD i4 default=x at *;obtain⟨kd,t⟩:=x;simp only[aS]at hx hh
      repeat' (first|(with_reducible first|refine am ?_|refine aj (by assumption) rfl ?_|refine ap (λhbr=>?_) λhbr=>?_)|simp(disch:=first|omega|(simp only[ak];omega)|simp only[al,Nat.reduceAdd]) only[go_sem,hx])
      all_goals first|(exfalso;omega)|exact⟨_,rfl⟩
     ·repeat' (first|(with_reducible first|refine am ?_|refine aj (by assumption) rfl ?_|refine ap (λhbr=>?_) λhbr=>?_)|simp(disch:=first|omega|(simp only[ak];omega)|simp only[al,Nat.reduceAdd]) only[go_sem,true_and])
      all_goals first|(exfalso;omega)|exact⟨_,rfl⟩
    rintro vs - ⟨c,rfl⟩;simp only[lg];simp(disch:=first|omega|(simp only[ak];omega)|simp only[al,Nat.reduceAdd]) only[go_sem,true_and];refine jn (λvs=>∃c:Bool,(b4=true->c=true)/\vs=[.sc (.bool c)]) ?_ ?_
    ·cases c
     ·simp(disch:=first|omega|(simp only[ak];omega)|simp only[al,Nat.reduceAdd]) only[go_sem,true_and];exact⟨b4,id,rfl⟩
     ·simp(disch:=first|omega|(simp only[ak];omega)|simp only[al,Nat.reduceAdd]) only[go_sem,true_and];exact⟨true,λ_=>rfl,rfl⟩
    rintro vs - ⟨b5,h5,rfl⟩;simp only[kU];simp(disch:=first|omega|(simp only[ak];omega)|simp only[al,Nat.reduceAdd]) only[go_sem,true_and];obtain⟨i6,b6,s6,h6,hcb⟩:=nx T i4 o2 b5 3 true hT (by omega) hs;refine aC hcb rfl ?_;clear hcb;simp(disch:=first|omega|(simp only[ak];omega)|simp only[al,Nat.reduceAdd]) only[go_sem,bR,ao,ae];have gL:∀y∈L++[s6],y.size<=1000:=λy hy=>(List.mem_append.1 hy).elim (g6 y) λh=>by rw[List.mem_singleton.1 h];exact h6.2.2.2.2.2
    have eL:L.map dc++[[.sc (.string s6)]]=(L++[s6]).map dc:=Js L s6;have nL:(L++[s6]).length=L.length+1:=by simp
    obtain⟨i7,r,h7,hcb⟩:=ko T i6 o2 b6 ⟨#[61]⟩ hT (by omega);refine aC hcb rfl ?_;clear hcb;simp(disch:=first|omega|(simp only[ak];omega)|simp only[al,Nat.reduceAdd]) only[go_sem,bR,ao,ae];cases r
    ·simp(disch:=first|omega|(simp only[ak];omega)|simp only[al,Nat.reduceAdd]) only[go_sem,true_and];refine aC (dC T i7 o2 b6 1 ⟨#[]⟩ 0 (by first|omega|(simp only[List.length_append,List.length_cons,List.length_nil];omega))) rfl ?_;simp(disch:=first|omega|(simp only[ak];omega)|simp only[al,Nat.reduceAdd]) only[go_sem,bR,ao,ae];simp(disch:=first|omega|(simp only[ak];omega)|simp only[al,Nat.reduceAdd]) only[go_sem,fA];refine⟨(i7,b6,o2++[⟨1,0,⟨#[]⟩,[],0⟩],L++[s6]),by simp only[eL],⟨by simp only;omega,by simp only;omega,⟨λhb=>?_,by simp only[d8];omega⟩,λh=>absurd (g4 h) (by simp),⟨λhb=>?_,by simp only[nL];omega⟩,gL,λhb=>⟨e1++[⟨1,0,⟨#[]⟩,[],0⟩],?_,?_⟩⟩,?_⟩
     ·have:=h6.2.2.2.2.1 hb;simp only[d8];omega
     ·have:=h6.2.2.2.2.1 hb;simp only[nL];omega
     ·simp only[ho2,List.append_assoc]
     ·simp only[nL];exact t1.app (Tf.one 0 rfl (Nat.zero_le _) (NS.mk' (n:=0) (by simp) (by simp) (by simp) (by first|assumption|omega|decide) (by simp) (by simp)))
     ·simp only;cases hb6:b6
      ·have:=h6.2.2.2.2.1 hb6;simp only[Bool.false_eq_true,if_false];omega
      ·simp only[if_true,Bool.false_eq_true,if_false];omega
    ·simp(disch:=first|omega|(simp only[ak];omega)|simp only[al,Nat.reduceAdd]) only[go_sem,true_and];obtain⟨rfl,rfl⟩:=h7.2.2.1 rfl;have h60:=h6.2.2.2.2.1 rfl;obtain⟨i8,o8,b8,h8,hcb⟩:=hE (i6+1) o2 false 1 (by omega) (by omega) (by omega);refine aC hcb rfl ?_;clear hcb;simp(disch:=first|omega|(simp only[ak];omega)|simp only[al,Nat.reduceAdd]) only[go_sem,bR,ao,ae];simp(disch:=first|omega|(simp only[ak];omega)|simp only[al,Nat.reduceAdd]) only[go_sem,fA];refine⟨(i8,b8,o8,L++[s6]),by simp only[eL],⟨by simp only;omega,by simp only;omega,⟨λhb=>by simp only;omega,by simp only;omega⟩,λh=>absurd (g4 h) (by simp),⟨λhb=>by simp only[nL];omega,by simp only[nL];omega⟩,gL,λhb=>?_⟩,?_⟩
     ·obtain⟨-,e,he,te⟩:=h8.2.2.2.2 hb;refine⟨e1++e,by simp only[he,ho2,List.append_assoc],?_⟩;simp only[nL];exact t1.app (te.up _)
     ·simp only[Bool.false_eq_true,if_false];split<;>omega
   ·simp(disch:=first|omega|(simp only[ak];omega)|simp only[al,Nat.reduceAdd]) only[go_sem,true_and];exact fin i3 false (by omega) (by omega) (by omega) (by omega) (λh=>absurd (g4 (by have:=h1.2.2.2.1 h;exact this)) (by simp)) (λ_=>rfl) _ _
  ·simp(disch:=first|omega|(simp only[ak];omega)|simp only[al,Nat.reduceAdd]) only[go_sem,true_and];exact fin i2 true (by omega) (by omega) (by omega) (by omega) (λ_=>rfl) (by simp) _ _
 simp(disch:=first|omega|(simp only[ak];omega)|simp only[al,Nat.reduceAdd]) only[go_sem,true_and];refine bI (λhw2=>?_) (λhw2=>?_)
 ·simp(disch:=first|omega|(simp only[ak];omega)|simp only[al,Nat.reduceAdd]) only[go_sem,true_and];obtain⟨i2,b2,s2,h2,hcb⟩:=nx T i1 o b1 3 true hT (by omega) hs;refine aC hcb rfl ?_;clear hcb;simp(disch:=first|omega|(simp only[ak];omega)|simp only[al,Nat.reduceAdd]) only[go_sem,bR,ao,ae];obtain⟨i3,b3,h3,hcb⟩:=ew T i2 o b2 ⟨#[105,110]⟩ hT (by omega);refine aC hcb rfl ?_;clear hcb;simp(disch:=first|omega|(simp only[ak];omega)|simp only[al,Nat.reduceAdd]) only[go_sem,bR,ao,ae];obtain⟨i4,o4,b4,h4,hcb⟩:=hE i3 o b3 1 (by omega) (by omega) (by omega);refine aC hcb rfl ?_;clear hcb;simp(disch:=first|omega|(simp only[ak];omega)|simp only[al,Nat.reduceAdd]) only[go_sem,bR,ao,ae];obtain⟨i5,b5,h5,hcb⟩:=ew T i4 o4 b4 ⟨#[41]⟩ hT (by omega);refine aC hcb rfl ?_;clear hcb;simp(disch:=first|omega|(simp only[ak];omega)|simp only[al,Nat.reduceAdd]) only[go_sem,bR,ao,ae];obtain⟨i6,o6,b6,h6,hcb⟩:=hE i5 o4 b5 1 (by omega) (by omega) (by omega);refine aC hcb rfl ?_;clear hcb;simp(disch:=first|omega|(simp only[ak];omega)|simp only[al,Nat.reduceAdd]) only[go_sem,bR,ao,ae];refine aC (dC T i6 o6 b6 18 s2 2 (by first|omega|(simp only[List.length_append,List.length_cons,List.length_nil];omega))) rfl ?_;simp(disch:=first|omega|(simp only[ak];omega)|simp only[al,Nat.reduceAdd]) only[go_sem,bR,ao,ae];refine⟨(i6,_,b6),⟨by omega,by omega,by simp only[d8];omega,by grind,λhb=>?_⟩,bx rfl rfl⟩;obtain⟨-,e2,rfl,t2⟩:=h6.2.2.2.2 hb;obtain⟨-,e1,rfl,t1⟩:=h4.2.2.2.2 (nb h5.2.2.2.1 (nb h6.2.2.2.1 hb));exact⟨_,G1 ..,(t1.app (t2.up 1)).app (Tf.one 2 rfl (by omega) (NS.mk' (n:=0) (by simp) (by simp) (by simp) (by first|assumption|omega|decide) (by simp) (by simp)))⟩
 simp(disch:=first|omega|(simp only[ak];omega)|simp only[al,Nat.reduceAdd]) only[go_sem,true_and];refine bI (λhw3=>?_) (λhw3=>?_)
 ·simp(disch:=first|omega|(simp only[ak];omega)|simp only[al,Nat.reduceAdd]) only[go_sem,true_and];obtain⟨i4,o4,b4,h4,hcb⟩:=hE i1 o b1 1 (by omega) (by omega) (by omega);refine aC hcb rfl ?_;clear hcb;simp(disch:=first|omega|(simp only[ak];omega)|simp only[al,Nat.reduceAdd]) only[go_sem,bR,ao,ae];obtain⟨i5,b5,h5,hcb⟩:=ew T i4 o4 b4 ⟨#[41]⟩ hT (by omega);refine aC hcb rfl ?_;clear hcb;simp(disch:=first|omega|(simp only[ak];omega)|simp only[al,Nat.reduceAdd]) only[go_sem,bR,ao,ae];obtain⟨i6,o6,b6,h6,hcb⟩:=hE i5 o4 b5 1 (by omega) (by omega) (by omega);refine aC hcb rfl ?_;clear hcb;simp(disch:=first|omega|(simp only[ak];omega)|simp only[al,Nat.reduceAdd]) only[go_sem,bR,ao,ae];refine aC (dC T i6 o6 b6 17 ⟨#[]⟩ 2 (by first|omega|(simp only[List.length_append,List.length_cons,List.length_nil];omega))) rfl ?_;simp(disch:=first|omega|(simp only[ak];omega)|simp only[al,Nat.reduceAdd]) only[go_sem,bR,ao,ae];refine⟨(i6,_,b6),⟨by omega,by omega,by simp only[d8];omega,by grind,λhb=>?_⟩,bx rfl rfl⟩;obtain⟨-,e2,rfl,t2⟩:=h6.2.2.2.2 hb;obtain⟨-,e1,rfl,t1⟩:=h4.2.2.2.2 (nb h5.2.2.2.1 (nb h6.2.2.2.1 hb));exact⟨_,G1 ..,(t1.app (t2.up 1)).app (Tf.one 2 rfl (by omega) (NS.mk' (n:=0) (by simp) (by simp) (by simp) (by first|assumption|omega|decide) (by simp) (by simp)))⟩
 simp(disch:=first|omega|(simp only[ak];omega)|simp only[al,Nat.reduceAdd]) only[go_sem,true_and];obtain⟨i4,o4,b4,h4,hcb⟩:=hE i1 o b1 1 (by omega) (by omega) (by omega);refine aC hcb rfl ?_;clear hcb;simp(disch:=first|omega|(simp only[ak];omega)|simp only[al,Nat.reduceAdd]) only[go_sem,bR,ao,ae];obtain⟨i5,b5,h5,hcb⟩:=ew T i4 o4 b4 ⟨#[41]⟩ hT (by omega);refine aC hcb rfl ?_;clear hcb;simp(disch:=first|omega|(simp only[ak];omega)|simp only[al,Nat.reduceAdd]) only[go_sem,bR,ao,ae];obtain⟨i6,o6,b6,h6,hcb⟩:=hE i5 o4 b5 1 (by omega) (by omega) (by omega);refine aC hcb rfl ?_;clear hcb;simp(disch:=first|omega|(simp only[ak];omega)|simp only[al,Nat.reduceAdd]) only[go_sem,bR,ao,ae];obtain⟨i7,r,h7,hcb⟩:=ko T i6 o6 b6 ⟨#[101,108,115,101]⟩ hT (by omega);refine aC hcb rfl ?_;clear hcb;simp(disch:=first|omega|(simp only[ak];omega)|simp only[al,Nat.reduceAdd]) only[go_sem,bR,ao,ae];cases r
 ·simp(disch:=first|omega|(simp only[ak];omega)|simp only[al,Nat.reduceAdd]) only[go_sem,true_and];refine aC (dC T i7 o6 b6 16 ⟨#[]⟩ 2 (by first|omega|(simp only[List.length_append,List.length_cons,List.length_nil];omega))) rfl ?_;simp(disch:=first|omega|(simp only[ak];omega)|simp only[al,Nat.reduceAdd]) only[go_sem,bR,ao,ae];refine⟨(i7,_,b6),⟨by omega,by omega,by simp only[d8];omega,by grind,λhb=>?_⟩,bx rfl rfl⟩;obtain⟨-,e2,rfl,t2⟩:=h6.2.2.2.2 hb;obtain⟨-,e1,rfl,t1⟩:=h4.2.2.2.2 (nb h5.2.2.2.1 (nb h6.2.2.2.1 hb));exact⟨_,G1 ..,(t1.app (t2.up 1)).app (Tf.one 2 rfl (by omega) (NS.mk' (n:=0) (by simp) (by simp) (by simp) (by first|assumption|omega|decide) (by simp) (by simp)))⟩
 ·simp(disch:=first|omega|(simp only[ak];omega)|simp only[al,Nat.reduceAdd]) only[go_sem,true_and];obtain⟨i8,o8,b8,h8,hcb⟩:=hE i7 o6 b6 1 (by omega) (by omega) (by omega);refine aC hcb rfl ?_;clear hcb;simp(disch:=first|omega|(simp only[ak];omega)|simp only[al,Nat.reduceAdd]) only[go_sem,bR,ao,ae];refine aC (dC T i8 o8 b8 16 ⟨#[]⟩ 3 (by first|omega|(simp only[List.length_append,List.length_cons,List.length_nil];omega))) rfl ?_;simp(disch:=first|omega|(simp only[ak];omega)|simp only[al,Nat.reduceAdd]) only[go_sem,bR,ao,ae];refine⟨(i8,_,b8),⟨by omega,by omega,by simp only[d8];omega,by grind,λhb=>?_⟩,bx rfl rfl⟩;obtain⟨-,e3,rfl,t3⟩:=h8.2.2.2.2 hb;have hb6:=nb h8.2.2.2.1 hb;obtain⟨-,e2,rfl,t2⟩:=h6.2.2.2.2 hb6;obtain⟨-,e1,rfl,t1⟩:=h4.2.2.2.2 (nb h5.2.2.2.1 (nb h6.2.2.2.1 hb6));exact⟨_,Tz ..,((t1.app (t2.up 1)).app (t3.up 2)).app (Tf.one 3 rfl (by omega) (NS.mk' (n:=0) (by simp) (by simp) (by simp) (by first|assumption|omega|decide) (by simp) (by simp)))⟩
theorem R2(k:Int)(t:ByteArray):∃c,Le false [.i,.s] (some [.sc (.int .i64 k),.sc (.string t)]) (some [.sc (.int .i64 5),.sc (.string ⟨#[61]⟩)])=some [.sc (.bool c)]:=⟨_,by simp[Le,vt,NJ];rfl⟩
set_option maxHeartbeats 8000000 in
theorem Pt(T:List eD)(i:Nat)(o:List bj)(b:Bool)(hT:T.length<=1000)(hi:i<=T.length)(hs:∀x∈T,x.text.size<=1000)(hE:MB T i)(hB:o.length+2*(T.length-i)+5<=300000+10*i):
 ∃a:Nat×List bj×Bool,Qs T.length 1 1 1 i o b a.1 a.2.1 a.2.2/\PV 77 T i o b [] a.1 a.2.1 a.2.2 []:=by
 refine eF Try.func77 mP rfl (fE ..) (by kernel_rfl) ?_;simp only[fu];simp only[bR,ao,ae];simp(disch:=first|omega|(simp only[ak];omega)|simp only[al,Nat.reduceAdd]) only[go_sem,true_and];refine am ?_
 refine lp (λs:Nat×Bool×List bj×List ByteArray=>[.sl 77 2 (T.map aS),.sc (.int .i64 s.1),.sc (.bool s.2.1),.sl 37 5 (s.2.2.1.map aB),.sl 9 1 (s.2.2.2.map dc)])
  (λs=>i<=s.1/\s.1<=T.length/\s.2.2.1.length+2*i<=o.length+2*s.1/\(b=true->s.2.1=true)/\((s.2.1=false->s.2.2.2.length<=s.1)/\s.2.2.2.length<=s.1+1)/\(∀y∈s.2.2.2,y.size<=1000)/\(s.2.1=false->∃e,s.2.2.1=o++e/\Tf 0 s.2.2.2.length e))
  (λs=>2*(T.length-s.1)+(if s.2.1=true then 0 else 1)) (i,b,o,[]) rfl ⟨Nat.le_refl _,by simp only;omega,by simp only;omega,λh=>h,⟨by simp,by simp⟩,by simp,λ_=>⟨[],by simp,Tf.nil⟩⟩ ?_
 rintro⟨i2,b2,o2,L⟩ ⟨g1,g2,g3,g4,⟨g5',g5⟩,g6,g7⟩;simp only at g1 g2 g3 g4 g5 g5' g6 g7 ⊢;simp only[eV];simp(disch:=first|omega|(simp only[ak];omega)|simp only[al,Nat.reduceAdd]) only[go_sem,true_and]
 have fin:∀(i3:Nat) (b3:Bool),i<=i3->i3<=T.length->o2.length+2*i<=o.length+2*i3->L.length<=T.length+1->(b=true->b3=true)->(b3=false->b2=false)->∀(x:DV) (ρ:List DV),V Try.prog (λvs=>∃a:Nat×List bj×Bool,Qs T.length 1 1 1 i o b a.1 a.2.1 a.2.2/\MM (gO Try.prog 9 66).length [] [.sl 77 2 (T.map aS),.sc (.int .i64 a.1),.sl 37 5 (a.2.1.map aB),.sc (.bool a.2.2)] vs) df []
  (.sl 9 1 (L.map dc)::.sl 37 5 (o2.map aB)::.sc (.bool b3)::.sc (.int .i64 i3)::.sl 77 2 (T.map aS)::x::ρ):=by
  intro i3 b3 q1 q2 q3 q4 q5 q6 x ρ;simp only[df];simp(disch:=first|omega|(simp only[ak];omega)|simp only[al,Nat.reduceAdd]) only[go_sem,true_and];refine⟨(i3,o2++[⟨9,0,⟨#[]⟩,L,((L.length+1:Nat):Int)⟩],b3),⟨by omega,by omega,by simp only[d8];omega,by grind,λhb=>?_⟩,bx (by rw[K3]) rfl⟩;obtain⟨e1,rfl,t1⟩:=g7 (q6 hb);refine⟨_,zN ..,(t1.up 1).app ?_⟩;have:=Tf.one (a:=1+L.length) (x:=⟨9,0,⟨#[]⟩,L,((L.length+1:Nat):Int)⟩) (L.length+1) rfl (by omega) (NS.mk' (by simp) (by simp) (by simp) (by decide) (by omega) g6)
  rwa [show 1+L.length+1-(L.length+1)=1 by omega]at this
 cases b2
 ·simp(disch:=first|omega|(simp only[ak];omega)|simp only[al,Nat.reduceAdd]) only[go_sem,true_and];obtain⟨i3,r,h3,hcb⟩:=ko T i2 o2 false ⟨#[41]⟩ hT (by omega);refine aC hcb rfl ?_;clear hcb;simp(disch:=first|omega|(simp only[ak];omega)|simp only[al,Nat.reduceAdd]) only[go_sem,bR,ao,ae];cases r
  ·obtain⟨e1,ho2,t1⟩:=g7 rfl;have g5':=g5' rfl;simp(disch:=first|omega|(simp only[ak];omega)|simp only[al,Nat.reduceAdd]) only[go_sem,true_and];refine am ?_;simp(disch:=first|omega|(simp only[ak];omega)|simp only[al,Nat.reduceAdd]) only[go_sem,true_and];refine jn (λvs=>∃(i4:Nat) (b4:Bool),(i3<=i4/\i4<=T.length)/\vs=[.sl 77 2 (T.map aS),.sc (.int .i64 i4),.sc (.bool b4),.sl 37 5 (o2.map aB)]) ?_ ?_
   ·refine bI (λhl=>?_) (λhl=>?_)
    ·simp(disch:=first|omega|(simp only[ak];omega)|simp only[al,Nat.reduceAdd]) only[go_sem,true_and];obtain⟨i4,b4,h4,hcb⟩:=ew T i3 o2 false ⟨#[44]⟩ hT (by omega);refine aC hcb rfl ?_;clear hcb;simp(disch:=first|omega|(simp only[ak];omega)|simp only[al,Nat.reduceAdd]) only[go_sem,bR,ao,ae];exact⟨i4,b4,⟨by omega,by omega⟩,rfl⟩
    ·simp(disch:=first|omega|(simp only[ak];omega)|simp only[al,Nat.reduceAdd]) only[go_sem,true_and];exact⟨i3,false,⟨by omega,by omega⟩,rfl⟩
   rintro vs - ⟨i4,b4,⟨h4,h4'⟩,rfl⟩;simp only[eM];simp(disch:=first|omega|(simp only[ak];omega)|simp only[al,Nat.reduceAdd]) only[go_sem,true_and]
   have more:∀(i5:Nat) (s6:ByteArray),i4<=i5->i5<=T.length->s6.size<=1000->∀(i8:Nat) (o8:List bj) (b8:Bool),(i5<=i8/\i8<=T.length/\o8.length+2*i5<=o2.length+2*i8/\(b4=true->b8=true)/\(b8=false->i5<i8/\∃e,o8=o2++e/\Tf 0 1 e))->
    ∃a':Nat×Bool×List bj×List ByteArray,[DV.sl 77 2 (T.map aS),.sc (.int .i64 i8),.sc (.bool b8),.sl 37 5 (o8.map aB),.sl 9 1 ((L++[s6]).map dc)]=[.sl 77 2 (T.map aS),.sc (.int .i64 a'.1),.sc (.bool a'.2.1),.sl 37 5 (a'.2.2.1.map aB),.sl 9 1 (a'.2.2.2.map dc)]/\
     (i<=a'.1/\a'.1<=T.length/\a'.2.2.1.length+2*i<=o.length+2*a'.1/\(b=true->a'.2.1=true)/\((a'.2.1=false->a'.2.2.2.length<=a'.1)/\a'.2.2.2.length<=a'.1+1)/\(∀y∈a'.2.2.2,y.size<=1000)/\(a'.2.1=false->∃e,a'.2.2.1=o++e/\Tf 0 a'.2.2.2.length e))/\2*(T.length-a'.1)+(if a'.2.1=true then 0 else 1)<2*(T.length-i2)+1:=by
    intro i5 s6 k1 k2 k3 i8 o8 b8 h8;have nL:(L++[s6]).length=L.length+1:=by simp
    refine⟨(i8,b8,o8,L++[s6]),rfl,⟨by simp only;omega,by simp only;omega,by simp only;omega,λh=>absurd (g4 h) (by simp),⟨λhb=>?_,by simp only[nL];omega⟩,λy hy=>(List.mem_append.1 hy).elim (g6 y) λh=>by rw[List.mem_singleton.1 h];exact k3,λhb=>?_⟩,?_⟩
    ·have:=(h8.2.2.2.2 hb).1;simp only[nL];omega
    ·obtain⟨-,e,he,te⟩:=h8.2.2.2.2 hb;refine⟨e1++e,by simp only[he,ho2,List.append_assoc],?_⟩;simp only[nL];exact t1.app (te.up _)
    ·simp only[Bool.false_eq_true,if_false];cases hb:b8
     ·have:=(h8.2.2.2.2 hb).1;simp only[Bool.false_eq_true,if_false];omega
     ·simp only[if_true];omega
   refine jn (λvs=>∃c:Bool,(c=true->i4+1<T.length)/\vs=[.sc (.bool c)]) ?_ ?_
   ·have hx:=λ(h:i4<T.length)=>kt (t:=77) (l:=T) (kd:=.i64) (z:=(i4:Int)) (by omega) (by omega)
    have hx2:=λ(h:i4+1<T.length)=>kt (t:=77) (l:=T) (kd:=.i64) (z:=((i4+1:Nat):Int)) (by omega) (by omega)
    by_cases hlt:i4+1<T.length
    ·have hx:=hx (by omega);have hx2:=hx2 hlt;rw[Int.toNat_natCast]at hx hx2;generalize T.getD i4 default=x at *;generalize T.getD (i4+1) default=y at *;obtain⟨kd,t⟩:=x;obtain⟨kd2,t2⟩:=y;obtain⟨c,he⟩:=R2 kd2 t2;simp only[aS]at hx hx2
     repeat' (first|(with_reducible first|refine am ?_|refine aj (by assumption) rfl ?_|refine ap (λhbr=>?_) λhbr=>?_)|simp(disch:=first|omega|(simp only[ak];omega)|simp only[al,Nat.reduceAdd]) only[go_sem,hx,hx2,he])
     all_goals first|(exfalso;omega)|exact⟨_,λ_=>hlt,rfl⟩
    ·repeat' (first|(with_reducible first|refine am ?_|refine aj (by assumption) rfl ?_|refine ap (λhbr=>?_) λhbr=>?_)|simp(disch:=first|omega|(simp only[ak];omega)|simp only[al,Nat.reduceAdd]) only[go_sem,true_and])
     all_goals first|(exfalso;omega)|exact⟨false,by simp,rfl⟩
   rintro vs - ⟨c,hc,rfl⟩;simp only[eW];cases c
   ·simp(disch:=first|omega|(simp only[ak];omega)|simp only[al,Nat.reduceAdd]) only[go_sem,true_and];obtain⟨i8,o8,b8,h8,hcb⟩:=hE i4 o2 b4 1 (by omega) (by omega) (by omega);refine aC hcb rfl ?_;clear hcb;simp(disch:=first|omega|(simp only[ak];omega)|simp only[al,Nat.reduceAdd]) only[go_sem,bR,ao,ae];simp(disch:=first|omega|(simp only[ak];omega)|simp only[al,Nat.reduceAdd]) only[go_sem,cz];exact more i4 ⟨#[]⟩ (by omega) (by omega) (by decide) i8 o8 b8 h8
   ·have hx:=kt (t:=77) (l:=T) (kd:=.i64) (z:=(i4:Int)) (by omega) (by have:=hc rfl;omega);rw[Int.toNat_natCast]at hx;have hsz:=hs _ (bK (l:=T) (i:=i4) (by have:=hc rfl;omega));generalize T.getD i4 default=x at *;obtain⟨kd,t⟩:=x;simp only[aS]at hx hsz;have hc:=hc rfl;simp(disch:=first|omega|(simp only[ak];omega)|simp only[al,Nat.reduceAdd]) only[go_sem,hx];refine ap (λh0=>?_) (λh0=>?_)
    ·simp(disch:=first|omega|(simp only[ak];omega)|simp only[al,Nat.reduceAdd]) only[go_sem,true_and];obtain⟨i8,o8,b8,h8,hcb⟩:=hE i4 o2 b4 1 (by omega) (by omega) (by omega);refine aC hcb rfl ?_;clear hcb;simp(disch:=first|omega|(simp only[ak];omega)|simp only[al,Nat.reduceAdd]) only[go_sem,bR,ao,ae];simp(disch:=first|omega|(simp only[ak];omega)|simp only[al,Nat.reduceAdd]) only[go_sem,cz];exact more i4 t (by omega) (by omega) hsz i8 o8 b8 h8
    ·simp(disch:=first|omega|(simp only[ak];omega)|simp only[al,Nat.reduceAdd]) only[go_sem,true_and];obtain⟨i8,o8,b8,h8,hcb⟩:=hE (i4+2) o2 b4 1 (by omega) (by omega) (by omega);refine aC hcb rfl ?_;clear hcb;simp(disch:=first|omega|(simp only[ak];omega)|simp only[al,Nat.reduceAdd]) only[go_sem,bR,ao,ae];simp(disch:=first|omega|(simp only[ak];omega)|simp only[al,Nat.reduceAdd]) only[go_sem,cz];exact more (i4+2) t (by omega) (by omega) hsz i8 o8 b8 h8
  ·simp(disch:=first|omega|(simp only[ak];omega)|simp only[al,Nat.reduceAdd]) only[go_sem,true_and];exact fin i3 false (by omega) (by omega) (by omega) (by omega) (λh=>absurd (g4 h) (by simp)) (λ_=>rfl) _ _
 ·simp(disch:=first|omega|(simp only[ak];omega)|simp only[al,Nat.reduceAdd]) only[go_sem,true_and];exact fin i2 true (by omega) (by omega) (by omega) (by omega) (λ_=>rfl) (by simp) _ _
set_option maxHeartbeats 8000000 in
theorem HZ(T:List eD)(i:Nat)(o:List bj)(b br:Bool)(hT:T.length<=1000)(hi:i<=T.length)(hs:∀x∈T,x.text.size<=1000)(hE:MB T i)(hB:o.length+2*(T.length-i)+5<=300000+10*i):
 ∃a:Nat×List bj×Bool×Nat,(i<=a.1/\a.1<=T.length/\a.2.1.length+2*i<=o.length+2*a.1/\(b=true->a.2.2.1=true)/\(a.2.2.1=false->∃e,a.2.1=o++e/\Tf 0 a.2.2.2 e))/\PV 39 T i o b [(false,[.sc (.bool br)])] a.1 a.2.1 a.2.2.1 [(false,[.sc (.int .i64 a.2.2.2)])]:=by
 refine eF Try.func39 tz rfl (fE ..) (by kernel_rfl) ?_;simp only[lu];simp only[bR,ao,ae];simp(disch:=first|omega|(simp only[ak];omega)|simp only[al,Nat.reduceAdd]) only[go_sem,true_and]
 refine lp (λs:Nat×Nat×Bool×List bj=>[.sc (.int .i64 s.1),.sl 77 2 (T.map aS),.sc (.int .i64 s.2.1),.sc (.bool s.2.2.1),.sl 37 5 (s.2.2.2.map aB)])
  (λs=>i<=s.2.1/\s.2.1<=T.length/\s.2.2.2.length+2*i<=o.length+2*s.2.1/\(b=true->s.2.2.1=true)/\((s.2.2.1=false->s.1<=s.2.1)/\s.1<=s.2.1+1)/\(s.2.2.1=false->∃e,s.2.2.2=o++e/\Tf 0 s.1 e))
  (λs=>2*(T.length-s.2.1)+(if s.2.2.1=true then 0 else 1)) (0,i,b,o) rfl ⟨Nat.le_refl _,by simp only;omega,by simp only;omega,λh=>h,⟨by simp,by simp⟩,λ_=>⟨[],by simp,Tf.nil⟩⟩ ?_
 rintro⟨n,i2,b2,o2⟩ ⟨g1,g2,g3,g4,⟨g5',g5⟩,g7⟩;simp only at g1 g2 g3 g4 g5 g5' g7 ⊢;simp only[jT];simp(disch:=first|omega|(simp only[ak];omega)|simp only[al,Nat.reduceAdd]) only[go_sem,true_and];cases b2
 ·obtain⟨e1,ho2,t1⟩:=g7 rfl;have g5':=g5' rfl;simp(disch:=first|omega|(simp only[ak];omega)|simp only[al,Nat.reduceAdd]) only[go_sem,true_and];refine am ?_;refine lp (λs:Nat=>[.sl 77 2 (T.map aS),.sc (.int .i64 s),.sc (.bool false),.sl 37 5 (o2.map aB)]) (λs=>i2<=s/\s<=T.length) (λs=>T.length-s) i2 rfl ⟨Nat.le_refl _,g2⟩ ?_;rintro i3 ⟨k1,k2⟩;simp only[j6];simp(disch:=first|omega|(simp only[ak];omega)|simp only[al,Nat.reduceAdd]) only[go_sem,true_and];obtain⟨i4,r,h4,hcb⟩:=ko T i3 o2 false ⟨#[59]⟩ hT (by omega);refine aC hcb rfl ?_;clear hcb;simp(disch:=first|omega|(simp only[ak];omega)|simp only[al,Nat.reduceAdd]) only[go_sem,bR,ao,ae];cases r
  ·obtain rfl:=h4.2.2.2 rfl;simp(disch:=first|omega|(simp only[ak];omega)|simp only[al,Nat.reduceAdd]) only[go_sem,true_and];refine jn (λvs=>∃(c:Bool) (i5:Nat),(i4<=i5/\i5<=T.length)/\vs=[.sc (.bool c),.sl 77 2 (T.map aS),.sc (.int .i64 i5),.sc (.bool false),.sl 37 5 (o2.map aB)]) ?_ ?_
   ·cases br
    ·simp(disch:=first|omega|(simp only[ak];omega)|simp only[al,Nat.reduceAdd]) only[go_sem,true_and];exact⟨_,i4,⟨by omega,by omega⟩,rfl⟩
    ·simp(disch:=first|omega|(simp only[ak];omega)|simp only[al,Nat.reduceAdd]) only[go_sem,true_and];obtain⟨i5,r,h5,hcb⟩:=ko T i4 o2 false ⟨#[125]⟩ hT (by omega);refine aC hcb rfl ?_;clear hcb;simp(disch:=first|omega|(simp only[ak];omega)|simp only[al,Nat.reduceAdd]) only[go_sem,bR,ao,ae];cases r
     ·simp(disch:=first|omega|(simp only[ak];omega)|simp only[al,Nat.reduceAdd]) only[go_sem,true_and];exact⟨_,i5,⟨by omega,by omega⟩,rfl⟩
     ·simp(disch:=first|omega|(simp only[ak];omega)|simp only[al,Nat.reduceAdd]) only[go_sem,true_and];exact⟨_,i5,⟨by omega,by omega⟩,rfl⟩
   rintro vs - ⟨c,i5,⟨k3,k4⟩,rfl⟩;simp only[jH];cases c
   ·simp(disch:=first|omega|(simp only[ak];omega)|simp only[al,Nat.reduceAdd]) only[go_sem,true_and];obtain⟨i6,o6,b6,h6,hcb⟩:=hE i5 o2 false 1 (by omega) (by omega) (by omega);refine aC hcb rfl ?_;clear hcb;simp(disch:=first|omega|(simp only[ak];omega)|simp only[al,Nat.reduceAdd]) only[go_sem,bR,ao,ae]
    have more:∀(b7:Bool) (i7:Nat),i7=i6->(b6=true->b7=true)->∃a':Nat×Nat×Bool×List bj,[DV.sc (.int .i64 ((n+1:Nat):Int)),.sl 77 2 (T.map aS),.sc (.int .i64 i7),.sc (.bool b7),.sl 37 5 (o6.map aB)]=[.sc (.int .i64 a'.1),.sl 77 2 (T.map aS),.sc (.int .i64 a'.2.1),.sc (.bool a'.2.2.1),.sl 37 5 (a'.2.2.2.map aB)]/\
     (i<=a'.2.1/\a'.2.1<=T.length/\a'.2.2.2.length+2*i<=o.length+2*a'.2.1/\(b=true->a'.2.2.1=true)/\((a'.2.2.1=false->a'.1<=a'.2.1)/\a'.1<=a'.2.1+1)/\(a'.2.2.1=false->∃e,a'.2.2.2=o++e/\Tf 0 a'.1 e))/\2*(T.length-a'.2.1)+(if a'.2.2.1=true then 0 else 1)<2*(T.length-i2)+1:=by
     rintro b7 i7 rfl hb7;refine⟨(n+1,i7,b7,o6),rfl,⟨by simp only;omega,by simp only;omega,by simp only;omega,λh=>absurd (g4 h) (by simp),⟨λhb=>?_,by simp only;omega⟩,λhb=>?_⟩,?_⟩
     ·have:=(h6.2.2.2.2 (nb hb7 hb)).1;simp only;omega
     ·obtain⟨-,e,he,te⟩:=h6.2.2.2.2 (nb hb7 hb);exact⟨e1++e,by simp only[he,ho2,List.append_assoc],t1.app (te.up _)⟩
     ·cases hb:b7
      ·have:=(h6.2.2.2.2 (nb hb7 hb)).1;simp only[Bool.false_eq_true,if_false];omega
      ·simp only[if_true];omega
    cases b6
    ·by_cases hlt:i6<T.length
     ·repeat' (first|(with_reducible first|refine am ?_|refine aj (by assumption) rfl ?_|refine ap (λhbr=>?_) λhbr=>?_)|simp(disch:=first|omega|(simp only[ak];omega)|simp only[al,Nat.reduceAdd]) only[go_sem,true_and])
      all_goals first|contradiction|(exfalso;omega)|skip
      obtain⟨r1,h7,hcb⟩:=x7 T i6 o6 false ⟨#[59]⟩ hT (by omega);refine aC hcb rfl ?_;clear hcb;simp(disch:=first|omega|(simp only[ak];omega)|simp only[al,Nat.reduceAdd]) only[go_sem,bR,ao,ae];cases r1
      ·cases br
       ·repeat' (first|(with_reducible first|refine am ?_|refine aj (by assumption) rfl ?_|refine ap (λhbr=>?_) λhbr=>?_)|simp(disch:=first|omega|(simp only[ak];omega)|simp only[al,Nat.reduceAdd]) only[go_sem,bG])
        all_goals first|contradiction|(exfalso;omega)|exact more _ _ rfl (by simp)
       ·repeat' (first|(with_reducible first|refine am ?_|refine aj (by assumption) rfl ?_|refine ap (λhbr=>?_) λhbr=>?_)|simp(disch:=first|omega|(simp only[ak];omega)|simp only[al,Nat.reduceAdd]) only[go_sem,bG])
        all_goals first|contradiction|(exfalso;omega)|skip
        obtain⟨r2,h8,hcb⟩:=x7 T i6 o6 false ⟨#[125]⟩ hT (by omega);refine aC hcb rfl ?_;clear hcb;simp(disch:=first|omega|(simp only[ak];omega)|simp only[al,Nat.reduceAdd]) only[go_sem,bR,ao,ae];cases r2
        ·repeat' (first|(with_reducible first|refine am ?_|refine aj (by assumption) rfl ?_|refine ap (λhbr=>?_) λhbr=>?_)|simp(disch:=first|omega|(simp only[ak];omega)|simp only[al,Nat.reduceAdd]) only[go_sem,bG])
         all_goals first|contradiction|(exfalso;omega)|exact more _ _ rfl (by simp)
        ·repeat' (first|(with_reducible first|refine am ?_|refine aj (by assumption) rfl ?_|refine ap (λhbr=>?_) λhbr=>?_)|simp(disch:=first|omega|(simp only[ak];omega)|simp only[al,Nat.reduceAdd]) only[go_sem,bG])
         all_goals first|contradiction|(exfalso;omega)|exact more _ _ rfl (by simp)
      ·repeat' (first|(with_reducible first|refine am ?_|refine aj (by assumption) rfl ?_|refine ap (λhbr=>?_) λhbr=>?_)|simp(disch:=first|omega|(simp only[ak];omega)|simp only[al,Nat.reduceAdd]) only[go_sem,bG])
       all_goals first|contradiction|(exfalso;omega)|exact more _ _ rfl (by simp)
     ·repeat' (first|(with_reducible first|refine am ?_|refine aj (by assumption) rfl ?_|refine ap (λhbr=>?_) λhbr=>?_)|simp(disch:=first|omega|(simp only[ak];omega)|simp only[al,Nat.reduceAdd]) only[go_sem,bG])
      all_goals first|contradiction|(exfalso;omega)|exact more _ _ rfl (by simp)
    ·repeat' (first|(with_reducible first|refine am ?_|refine aj (by assumption) rfl ?_|refine ap (λhbr=>?_) λhbr=>?_)|simp(disch:=first|omega|(simp only[ak];omega)|simp only[al,Nat.reduceAdd]) only[go_sem,bG])
     all_goals first|contradiction|(exfalso;omega)|exact more _ _ rfl (by simp)
   ·simp(disch:=first|omega|(simp only[ak];omega)|simp only[al,Nat.reduceAdd]) only[go_sem,true_and];exact⟨(i5,o2,false,n),⟨by omega,by omega,by simp only;omega,λh=>absurd (g4 h) (by simp),λ_=>⟨e1,ho2,t1⟩⟩,bx rfl rfl⟩
  ·obtain⟨-,rfl⟩:=h4.2.2.1 rfl;simp(disch:=first|omega|(simp only[ak];omega)|simp only[al,Nat.reduceAdd]) only[go_sem,true_and];exact⟨i3+1,rfl,⟨by omega,by omega⟩,by omega⟩
 ·simp(disch:=first|omega|(simp only[ak];omega)|simp only[al,Nat.reduceAdd]) only[go_sem,true_and];exact⟨(i2,o2,true,n),⟨by omega,by omega,by simp only;omega,λ_=>rfl,by simp⟩,bx rfl rfl⟩
def M5:List ByteArray:=[⟨#[70,65,76,83,69]⟩,⟨#[84,82,85,69]⟩,⟨#[78,65]⟩,⟨#[78,65,95,110,117,109,98,101,114,95]⟩,⟨#[78,65,95,99,104,97,114,97,99,116,101,114,95]⟩,⟨#[78,85,76,76]⟩,⟨#[98,114,101,97,107]⟩,⟨#[110,101,120,116]⟩]
def Qc:List ByteArray:=[⟨#[116,114,121,67,97,116,99,104]⟩,⟨#[119,105,116,104,67,97,108,108,105,110,103,72,97,110,100,108,101,114,115]⟩,⟨#[119,105,116,104,82,101,115,116,97,114,116]⟩]
def Uc:List ByteArray:=[⟨#[114,101,116,117,114,110]⟩,⟨#[105,110,118,111,107,101,82,101,115,116,97,114,116]⟩,⟨#[109,105,115,115,105,110,103]⟩,⟨#[111,110,46,101,120,105,116]⟩,⟨#[85,115,101,77,101,116,104,111,100]⟩,⟨#[78,101,120,116,77,101,116,104,111,100]⟩]
def KV:List Int:=[4,4,4,5,5,6,19,20]
def SU:List Int:=[0,1,2,0,1,0,0,0]
theorem OK:∀k,k<8->KV.getD k default≠7/\KV.getD k default≠12/\KV.getD k default≠13/\KV.getD k default≠9:=by decide
theorem Fx(V:List ByteArray)(s:ByteArray):jG V s= -1\/∃k:Nat,jG V s=k/\k<V.length:=by
 rcases pP V s with⟨h,-⟩|⟨k,h1,h2,-⟩
 ·exact .inl h
 ·exact .inr ⟨k,h1,(List.getElem?_eq_some_iff.1 h2).1⟩
set_option maxHeartbeats 8000000 in
theorem PM(T:List eD)(i:Nat)(o:List bj)(w:ByteArray)(hT:T.length<=1000)(hi:i<=T.length)(h1i:1<=i)(hs:∀x∈T,x.text.size<=1000)(hE:MB T i)(hB:o.length+2*(T.length-i)+5<=300000+10*i):
 ∃a:Nat×List bj×Bool,(i<=a.1+1/\a.1<=T.length/\a.2.1.length+2*i<=o.length+2*a.1+2/\(a.2.2=false->i<=a.1/\∃e,a.2.1=o++e/\Tf 0 1 e))/\PV 82 T i o false [(false,[.sc (.string w)])] a.1 a.2.1 a.2.2 []:=by
 have f8:=rn 9 M5 w (by decide);have f3:=rn 9 Qc w (by decide);have f6:=jP 9 Uc w (by decide);refine eF Try.func82 tM rfl (fE ..) (by kernel_rfl) ?_;simp only[kA];simp only[bR,ao,ae];rcases Fx M5 w with h8|⟨k,h8,hk⟩
 ·rw[h8]at f8;simp only[M5,Qc,Uc,List.map_cons,List.map_nil,dc]at f8 f3 f6;simp(disch:=first|omega|(simp only[ak];omega)|simp only[al,Nat.reduceAdd]) only[go_sem,true_and];refine aj f8 rfl ?_;simp(disch:=first|omega|(simp only[ak];omega)|simp only[al,Nat.reduceAdd]) only[go_sem,true_and]
  have f3':∃k3:Int,jG Qc w=k3/\-1<=k3/\k3<3:=by
   rcases Fx Qc w with h|⟨k,h,hk⟩
   ·exact⟨_,h,by decide,by decide⟩
   ·exact⟨_,h,by omega,by have:Qc.length=3:=rfl;omega⟩
  obtain⟨k3,e3,b1,b2⟩:=f3';simp only[Qc]at e3;rw[e3]at f3;refine aj f3 rfl ?_;simp(disch:=first|omega|(simp only[ak];omega)|simp only[al,Nat.reduceAdd]) only[go_sem,true_and];refine jn (λvs=>∃c:Bool,vs=[.sc (.bool c)]) ?_ ?_
  ·repeat' (first|(with_reducible first|refine am ?_|refine aj (by assumption) rfl ?_|refine ap (λhbr=>?_) λhbr=>?_)|simp(disch:=first|omega|(simp only[ak];omega)|simp only[al,Nat.reduceAdd]) only[go_sem,true_and])
   all_goals first|exact⟨_,rfl⟩|skip
  rintro vs - ⟨c,rfl⟩;simp only[jy];cases c
  ·simp(disch:=first|omega|(simp only[ak];omega)|simp only[al,Nat.reduceAdd]) only[go_sem,true_and];obtain⟨i1,b1',h1,hcb⟩:=ew T i o false ⟨#[40]⟩ hT (by omega);refine aC hcb rfl ?_;clear hcb;simp(disch:=first|omega|(simp only[ak];omega)|simp only[al,Nat.reduceAdd]) only[go_sem,bR,ao,ae];refine jn (λvs=>∃(x:DV) (i8:Nat) (o8:List bj) (b8:Bool),(i<=i8/\i8<=T.length/\o8.length+2*i<=o.length+2*i8+2/\(b8=false->∃e,o8=o++e/\Tf 0 1 e))/\vs=[x,.sl 77 2 (T.map aS),.sc (.int .i64 i8),.sc (.bool b8),.sl 37 5 (o8.map aB)]) ?_ ?_
   ·refine bI (λhk3=>?_) (λhk3=>?_)
    ·simp(disch:=first|omega|(simp only[ak];omega)|simp only[al,Nat.reduceAdd]) only[go_sem,true_and];obtain⟨i2,o2,b2',h2,hcb⟩:=hE i1 o b1' 1 (by omega) (by omega) (by omega);refine aC hcb rfl ?_;clear hcb;simp(disch:=first|omega|(simp only[ak];omega)|simp only[al,Nat.reduceAdd]) only[go_sem,bR,ao,ae];obtain⟨i3,b3,h3,hcb⟩:=ew T i2 o2 b2' ⟨#[44]⟩ hT (by omega);refine aC hcb rfl ?_;clear hcb;simp(disch:=first|omega|(simp only[ak];omega)|simp only[al,Nat.reduceAdd]) only[go_sem,bR,ao,ae];obtain⟨i4,b4,s4,h4,hcb⟩:=nx T i3 o2 b3 3 true hT (by omega) hs;refine aC hcb rfl ?_;clear hcb;simp(disch:=first|omega|(simp only[ak];omega)|simp only[al,Nat.reduceAdd]) only[go_sem,bR,ao,ae];obtain⟨i5,b5,h5,hcb⟩:=ew T i4 o2 b4 ⟨#[61]⟩ hT (by omega);refine aC hcb rfl ?_;clear hcb;simp(disch:=first|omega|(simp only[ak];omega)|simp only[al,Nat.reduceAdd]) only[go_sem,bR,ao,ae];obtain⟨i6,o6,b6,h6,hcb⟩:=hE i5 o2 b5 1 (by omega) (by omega) (by omega);refine aC hcb rfl ?_;clear hcb;simp(disch:=first|omega|(simp only[ak];omega)|simp only[al,Nat.reduceAdd]) only[go_sem,bR,ao,ae];refine aC (dC T i6 o6 b6 (28+k3) s4 2 (by first|omega|(simp only[List.length_append,List.length_cons,List.length_nil];omega))) rfl ?_;simp(disch:=first|omega|(simp only[ak];omega)|simp only[al,Nat.reduceAdd]) only[go_sem,bR,ao,ae];refine⟨_,i6,_,b6,⟨by omega,by omega,by simp only[d8];omega,λhb=>?_⟩,rfl⟩;obtain⟨-,e6,rfl,t6⟩:=h6.2.2.2.2 hb;obtain⟨-,e2,rfl,t2⟩:=h2.2.2.2.2 (nb h3.2.2.2.1 (nb h4.2.2.2.1 (nb h5.2.2.2.1 (nb h6.2.2.2.1 hb))));exact⟨_,G1 ..,(t2.app (t6.up 1)).app (Tf.one 2 rfl (by omega) (NS.mk' (by omega) (by omega) (by omega) h4.2.2.2.2.2 (by simp) (by simp)))⟩
    ·simp(disch:=first|omega|(simp only[ak];omega)|simp only[al,Nat.reduceAdd]) only[go_sem,true_and];refine jn (λvs=>∃r:Bool,(r=true->b1'=false)/\vs=[.sc (.bool r),.sl 77 2 (T.map aS),.sc (.int .i64 i1),.sc (.bool b1'),.sl 37 5 (o.map aB)]) ?_ ?_
     ·refine ap (λhw=>?_) (λhw=>?_)
      ·simp(disch:=first|omega|(simp only[ak];omega)|simp only[al,Nat.reduceAdd]) only[go_sem,true_and];obtain⟨r,h2,hcb⟩:=x7 T i1 o b1' ⟨#[41]⟩ hT (by omega);refine aC hcb rfl ?_;clear hcb;simp(disch:=first|omega|(simp only[ak];omega)|simp only[al,Nat.reduceAdd]) only[go_sem,bR,ao,ae];exact⟨r,λh=>(h2 h).1,rfl⟩
      ·simp(disch:=first|omega|(simp only[ak];omega)|simp only[al,Nat.reduceAdd]) only[go_sem,true_and];exact⟨false,by simp,rfl⟩
     rintro vs - ⟨r,hr,rfl⟩;simp only[ju];cases r
     ·simp(disch:=first|omega|(simp only[ak];omega)|simp only[al,Nat.reduceAdd]) only[go_sem,true_and];refine ap (λhw=>?_) (λhw=>?_)
      ·simp(disch:=first|omega|(simp only[ak];omega)|simp only[al,Nat.reduceAdd]) only[go_sem,true_and];obtain⟨i2,o2,b2',h2,hcb⟩:=hE i1 o b1' 1 (by omega) (by omega) (by omega);refine aC hcb rfl ?_;clear hcb;simp(disch:=first|omega|(simp only[ak];omega)|simp only[al,Nat.reduceAdd]) only[go_sem,bR,ao,ae];refine aC (dC T i2 o2 b2' 21 ⟨#[]⟩ 1 (by first|omega|(simp only[List.length_append,List.length_cons,List.length_nil];omega))) rfl ?_;simp(disch:=first|omega|(simp only[ak];omega)|simp only[al,Nat.reduceAdd]) only[go_sem,bR,ao,ae];refine⟨_,i2,_,b2',⟨by omega,by omega,by simp only[d8];omega,λhb=>?_⟩,rfl⟩;obtain⟨-,e2,rfl,t2⟩:=h2.2.2.2.2 hb;exact⟨_,zN ..,t2.app (Tf.one 1 rfl (by omega) (NS.mk' (n:=0) (by simp) (by simp) (by simp) (by first|assumption|omega|decide) (by simp) (by simp)))⟩
      simp(disch:=first|omega|(simp only[ak];omega)|simp only[al,Nat.reduceAdd]) only[go_sem,true_and];refine ap (λhw=>?_) (λhw=>?_)
      ·simp(disch:=first|omega|(simp only[ak];omega)|simp only[al,Nat.reduceAdd]) only[go_sem,true_and];obtain⟨i2,o2,b2',h2,hcb⟩:=hE i1 o b1' 1 (by omega) (by omega) (by omega);refine aC hcb rfl ?_;clear hcb;simp(disch:=first|omega|(simp only[ak];omega)|simp only[al,Nat.reduceAdd]) only[go_sem,bR,ao,ae];refine aC (dC T i2 o2 b2' 33 ⟨#[]⟩ 1 (by first|omega|(simp only[List.length_append,List.length_cons,List.length_nil];omega))) rfl ?_;simp(disch:=first|omega|(simp only[ak];omega)|simp only[al,Nat.reduceAdd]) only[go_sem,bR,ao,ae];refine⟨_,i2,_,b2',⟨by omega,by omega,by simp only[d8];omega,λhb=>?_⟩,rfl⟩;obtain⟨-,e2,rfl,t2⟩:=h2.2.2.2.2 hb;exact⟨_,zN ..,t2.app (Tf.one 1 rfl (by omega) (NS.mk' (n:=0) (by simp) (by simp) (by simp) (by first|assumption|omega|decide) (by simp) (by simp)))⟩
      simp(disch:=first|omega|(simp only[ak];omega)|simp only[al,Nat.reduceAdd]) only[go_sem,true_and];refine ap (λhw=>?_) (λhw=>?_)
      ·simp(disch:=first|omega|(simp only[ak];omega)|simp only[al,Nat.reduceAdd]) only[go_sem,true_and];obtain⟨i4,b4,s4,h4,hcb⟩:=nx T i1 o b1' 2 true hT (by omega) hs;refine aC hcb rfl ?_;clear hcb;simp(disch:=first|omega|(simp only[ak];omega)|simp only[al,Nat.reduceAdd]) only[go_sem,bR,ao,ae];obtain⟨i3,b3,h3,hcb⟩:=ew T i4 o b4 ⟨#[44]⟩ hT (by omega);refine aC hcb rfl ?_;clear hcb;simp(disch:=first|omega|(simp only[ak];omega)|simp only[al,Nat.reduceAdd]) only[go_sem,bR,ao,ae];obtain⟨i2,o2,b2',h2,hcb⟩:=hE i3 o b3 1 (by omega) (by omega) (by omega);refine aC hcb rfl ?_;clear hcb;simp(disch:=first|omega|(simp only[ak];omega)|simp only[al,Nat.reduceAdd]) only[go_sem,bR,ao,ae];refine aC (dC T i2 o2 b2' 31 s4 1 (by first|omega|(simp only[List.length_append,List.length_cons,List.length_nil];omega))) rfl ?_;simp(disch:=first|omega|(simp only[ak];omega)|simp only[al,Nat.reduceAdd]) only[go_sem,bR,ao,ae];refine⟨_,i2,_,b2',⟨by omega,by omega,by simp only[d8];omega,λhb=>?_⟩,rfl⟩;obtain⟨-,e2,rfl,t2⟩:=h2.2.2.2.2 hb;exact⟨_,zN ..,t2.app (Tf.one 1 rfl (by omega) (NS.mk' (by omega) (by omega) (by omega) h4.2.2.2.2.2 (by simp) (by simp)))⟩
      simp(disch:=first|omega|(simp only[ak];omega)|simp only[al,Nat.reduceAdd]) only[go_sem,true_and];refine ap (λhw=>?_) (λhw=>?_)
      ·simp(disch:=first|omega|(simp only[ak];omega)|simp only[al,Nat.reduceAdd]) only[go_sem,true_and];obtain⟨i4,b4,s4,h4,hcb⟩:=nx T i1 o b1' 3 true hT (by omega) hs;refine aC hcb rfl ?_;clear hcb;simp(disch:=first|omega|(simp only[ak];omega)|simp only[al,Nat.reduceAdd]) only[go_sem,bR,ao,ae];refine aC (dC T i4 o b4 32 s4 0 (by first|omega|(simp only[List.length_append,List.length_cons,List.length_nil];omega))) rfl ?_;simp(disch:=first|omega|(simp only[ak];omega)|simp only[al,Nat.reduceAdd]) only[go_sem,bR,ao,ae];refine⟨_,i4,_,b4,⟨by omega,by omega,by simp only[d8];omega,λhb=>?_⟩,rfl⟩;exact⟨_,rfl,Tf.one 0 rfl (by omega) (NS.mk' (by omega) (by omega) (by omega) h4.2.2.2.2.2 (by simp) (by simp))⟩
      simp(disch:=first|omega|(simp only[ak];omega)|simp only[al,Nat.reduceAdd]) only[go_sem,true_and];refine ap (λhw=>?_) (λhw=>?_)
      ·simp(disch:=first|omega|(simp only[ak];omega)|simp only[al,Nat.reduceAdd]) only[go_sem,true_and];obtain⟨i4,b4,s4,h4,hcb⟩:=nx T i1 o b1' 2 true hT (by omega) hs;refine aC hcb rfl ?_;clear hcb;simp(disch:=first|omega|(simp only[ak];omega)|simp only[al,Nat.reduceAdd]) only[go_sem,bR,ao,ae];refine aC (dC T i4 o b4 34 s4 0 (by first|omega|(simp only[List.length_append,List.length_cons,List.length_nil];omega))) rfl ?_;simp(disch:=first|omega|(simp only[ak];omega)|simp only[al,Nat.reduceAdd]) only[go_sem,bR,ao,ae];refine⟨_,i4,_,b4,⟨by omega,by omega,by simp only[d8];omega,λhb=>?_⟩,rfl⟩;exact⟨_,rfl,Tf.one 0 rfl (by omega) (NS.mk' (by omega) (by omega) (by omega) h4.2.2.2.2.2 (by simp) (by simp))⟩
      simp(disch:=first|omega|(simp only[ak];omega)|simp only[al,Nat.reduceAdd]) only[go_sem,true_and];refine aC (dC T i1 o b1' 35 ⟨#[]⟩ 0 (by first|omega|(simp only[List.length_append,List.length_cons,List.length_nil];omega))) rfl ?_;simp(disch:=first|omega|(simp only[ak];omega)|simp only[al,Nat.reduceAdd]) only[go_sem,bR,ao,ae];refine⟨_,i1,_,b1',⟨by omega,by omega,by simp only[d8];omega,λhb=>?_⟩,rfl⟩;exact⟨_,rfl,Tf.one 0 rfl (by omega) (NS.mk' (n:=0) (by simp) (by simp) (by simp) (by first|assumption|omega|decide) (by simp) (by simp))⟩
     ·have h10:=h1.2.2.2.2 (hr rfl);simp(disch:=first|omega|(simp only[ak];omega)|simp only[al,Nat.reduceAdd]) only[go_sem,true_and];refine aC (dC T i1 o b1' 6 ⟨#[]⟩ 0 (by first|omega|(simp only[List.length_append,List.length_cons,List.length_nil];omega))) rfl ?_;simp(disch:=first|omega|(simp only[ak];omega)|simp only[al,Nat.reduceAdd]) only[go_sem,bR,ao,ae];refine aC (dC T i1 (o++[(⟨6,0,⟨#[]⟩,[],0⟩:bj)]) b1' 21 ⟨#[]⟩ 1 (by first|omega|(simp only[List.length_append,List.length_cons,List.length_nil];omega))) rfl ?_;simp(disch:=first|omega|(simp only[ak];omega)|simp only[al,Nat.reduceAdd]) only[go_sem,bR,ao,ae];refine⟨_,i1,_,b1',⟨by omega,by omega,by simp only[d8];omega,λhb=>?_⟩,rfl⟩;exact⟨_,zN ..,(Tf.one 0 rfl (by omega) (NS.mk' (n:=0) (by simp) (by simp) (by simp) (by first|assumption|omega|decide) (by simp) (by simp))).app (Tf.one 1 rfl (by omega) (NS.mk' (n:=0) (by simp) (by simp) (by simp) (by first|assumption|omega|decide) (by simp) (by simp)))⟩
   rintro vs - ⟨x,i8,o8,b8,⟨k1,k2,k3',k4⟩,rfl⟩;simp only[jJ];simp(disch:=first|omega|(simp only[ak];omega)|simp only[al,Nat.reduceAdd]) only[go_sem,true_and];obtain⟨i9,b9,h9,hcb⟩:=ew T i8 o8 b8 ⟨#[41]⟩ hT (by omega);refine aC hcb rfl ?_;clear hcb;simp(disch:=first|omega|(simp only[ak];omega)|simp only[al,Nat.reduceAdd]) only[go_sem,bR,ao,ae];exact⟨(i9,o8,b9),⟨by simp only;omega,by simp only;omega,by simp only;omega,λhb=>⟨by simp only;omega,k4 (nb h9.2.2.2.1 hb)⟩⟩,bx rfl rfl⟩
  ·simp(disch:=first|omega|(simp only[ak];omega)|simp only[al,Nat.reduceAdd]) only[go_sem,true_and];exact⟨(i-1,o,true),⟨by simp only;omega,by simp only;omega,by simp only;omega,by simp⟩,bx (by simp only[Int.ofNat_sub h1i];rfl) rfl⟩
 ·have hx:=BO (t:=3) (l:=KV) (kd:=.i64) (z:=(k:Int)) (by omega) (by have:KV.length=8:=rfl;have:M5.length=8:=rfl;omega);have hx2:=BO (t:=3) (l:=SU) (kd:=.i64) (z:=(k:Int)) (by omega) (by have:SU.length=8:=rfl;have:M5.length=8:=rfl;omega);obtain⟨n7,n12,n13,n9⟩:=OK k (by have:M5.length=8:=rfl;omega)
  have hc:F3 1 (some (.sl 3 1 (KV.map mL))) (some (.sc (.int .i64 (k:Int))))=some []:=by
   rcases k with _|_|_|_|_|_|_|_|k<;>first|rfl|(exfalso;have:M5.length=8:=rfl;omega)
  rw[Int.toNat_natCast]at hx hx2;generalize KV.getD k default=z1 at *;generalize SU.getD k default=z2 at *;rw[h8]at f8;simp only[M5,KV,SU,List.map_cons,List.map_nil,dc,mL]at f8 hx hx2 hc;simp(disch:=first|omega|(simp only[ak];omega)|simp only[al,Nat.reduceAdd]) only[go_sem,true_and];refine aj f8 rfl ?_;simp(disch:=first|omega|(simp only[ak];omega)|simp only[al,Nat.reduceAdd]) only[go_sem,hx,hx2,hc];have hT1:Tf 0 1 [(⟨z1,z2,⟨#[]⟩,[],0⟩:bj)]:=Tf.one 0 rfl (by omega) (NS.mk' (by simp) (by simp[n12,n13]) (by simp[n9]) (Nat.zero_le _) (by simp) (by simp));exact⟨(i,o++[⟨z1,z2,⟨#[]⟩,[],0⟩],false),⟨by simp only;omega,by simp only;omega,by simp only[d8];omega,λ_=>⟨Nat.le_refl _,_,rfl,hT1⟩⟩,bx (by simp[aB,bo]) rfl⟩
set_option maxHeartbeats 8000000 in
theorem NK(T:List eD)(i:Nat)(o:List bj)(b:Bool)(hT:T.length<=1000)(hi:i<=T.length)(hs:∀x∈T,x.text.size<=1000)(hE:MB T (i+1))(hB:o.length+2*(T.length-i)<=300000+10*i):
 ∃a:Nat×List bj×Bool,(i<=a.1/\a.1<=T.length/\a.2.1.length+2*i<=o.length+2*a.1/\(b=true->a.2.2=true)/\(a.2.2=false->i<a.1/\∃e,a.2.1=o++e/\Tf 0 1 e))/\PV 76 T i o b [] a.1 a.2.1 a.2.2 []:=by
 refine eF Try.func76 oI rfl (fE ..) (by kernel_rfl) ?_;simp only[gF];simp only[bR,ao,ae];cases b
 ·by_cases hlt:i<T.length
  ·have hx:=kt (t:=77) (l:=T) (kd:=.i64) (z:=(i:Int)) (by omega) (by omega);rw[Int.toNat_natCast]at hx;have hsz:=hs _ (bK hlt);generalize T.getD i default=x at *;obtain⟨kd,t⟩:=x;simp only[aS]at hx hsz;have hpi:=zd t (by omega);generalize (if iK t=true then tr t else 0)=pv at hpi;have hw:=PM T (i+1) o t hT (by omega) (by omega) hs hE (by omega);have hli:=HZ T (i+1) o false true hT (by omega) hs hE (by omega)
   repeat' (first|(with_reducible first|refine am ?_|refine aj (by assumption) rfl ?_|refine ap (λhbr=>?_) λhbr=>?_)|simp(disch:=first|omega|(simp only[ak];omega)|simp only[al,Nat.reduceAdd]) only[go_sem,hx,cP,fV,fT])
   all_goals first|(exfalso;omega)|skip
   ·refine⟨(i+1,o++[⟨2,pv,⟨#[]⟩,[],0⟩],false),⟨by simp only;omega,by simp only;omega,by simp only[d8];omega,λ_=>⟨by simp only;omega,_,rfl,Tf.one 0 rfl (by omega) (NS.mk' (n:=pv) (by simp) (by simp) (by simp) (Nat.zero_le _) (by simp) (by simp))⟩⟩,bx (by simp[aB,bo]) rfl⟩
   ·refine aC (dC T (i+1) o false 3 t 0 (by first|omega|(simp only[List.length_append,List.length_cons,List.length_nil];omega))) rfl ?_;simp(disch:=first|omega|(simp only[ak];omega)|simp only[al,Nat.reduceAdd]) only[go_sem,bR,ao,ae];exact⟨(i+1,o++[⟨3,0,t,[],0⟩],false),⟨by simp only;omega,by simp only;omega,by simp only[d8];omega,λ_=>⟨by simp only;omega,_,rfl,Tf.one 0 rfl (by omega) (NS.mk' (n:=0) (by simp) (by simp) (by simp) (by first|assumption|omega|decide) (by simp) (by simp))⟩⟩,bx rfl rfl⟩
   ·refine aC (dC T (i+1) o false 7 t 0 (by first|omega|(simp only[List.length_append,List.length_cons,List.length_nil];omega))) rfl ?_;simp(disch:=first|omega|(simp only[ak];omega)|simp only[al,Nat.reduceAdd]) only[go_sem,bR,ao,ae];exact⟨(i+1,o++[⟨7,0,t,[],0⟩],false),⟨by simp only;omega,by simp only;omega,by simp only[d8];omega,λ_=>⟨by simp only;omega,_,rfl,Tf.one 0 rfl (by omega) (NS.mk' (n:=0) (by simp) (by simp) (by simp) (by first|assumption|omega|decide) (by simp) (by simp))⟩⟩,bx rfl rfl⟩
   ·obtain⟨i2,o2,b2,h2,hcb⟩:=hE (i+1) o false 1 (by omega) (by omega) (by omega);refine aC hcb rfl ?_;clear hcb;simp(disch:=first|omega|(simp only[ak];omega)|simp only[al,Nat.reduceAdd]) only[go_sem,bR,ao,ae];obtain⟨i3,b3,h3,hcb⟩:=ew T i2 o2 b2 ⟨#[41]⟩ hT (by omega);refine aC hcb rfl ?_;clear hcb;simp(disch:=first|omega|(simp only[ak];omega)|simp only[al,Nat.reduceAdd]) only[go_sem,bR,ao,ae];refine⟨(i3,o2,b3),⟨by simp only;omega,by simp only;omega,by simp only;omega,λhb=>?_⟩,bx rfl rfl⟩;obtain⟨q1,q2⟩:=h2.2.2.2.2 (nb h3.2.2.2.1 hb);exact⟨by simp only;omega,q2⟩
   ·obtain⟨⟨i2,o2,b2,N⟩,h2,hcb⟩:=hli;simp only at h2 hcb;refine aC hcb rfl ?_;simp(disch:=first|omega|(simp only[ak];omega)|simp only[al,Nat.reduceAdd]) only[go_sem,bR,ao,ae];refine aC (dC T i2 o2 b2 15 ⟨#[]⟩ N (by first|omega|(simp only[List.length_append,List.length_cons,List.length_nil];omega))) rfl ?_;simp(disch:=first|omega|(simp only[ak];omega)|simp only[al,Nat.reduceAdd]) only[go_sem,bR,ao,ae];refine⟨(i2,_,b2),⟨by simp only;omega,by simp only;omega,by simp only[d8];omega,λhb=>?_⟩,bx rfl rfl⟩;obtain⟨e2,rfl,t2⟩:=h2.2.2.2.2 hb;refine⟨by simp only;omega,_,zN ..,t2.app ?_⟩;have:=Tf.one (a:=N) (x:=⟨15,0,⟨#[]⟩,[],N⟩) N rfl (Nat.le_refl _) (NS.mk' (n:=0) (by simp) (by simp) (by simp) (by first|assumption|omega|decide) (by simp) (by simp))
    rwa [show N+1-N=1 by omega]at this
   ·exact⟨(i,o,true),⟨by simp only;omega,by simp only;omega,by simp only;omega,by simp⟩,bx (by rw[show((i+1:Nat):Int)-1=i by omega]) rfl⟩
   ·obtain⟨⟨i2,o2,b2⟩,h2,hcb⟩:=hw;simp only at h2 hcb;refine aC hcb rfl ?_;simp(disch:=first|omega|(simp only[ak];omega)|simp only[al,Nat.reduceAdd]) only[go_sem,bR,ao,ae];exact⟨(i2,o2,b2),⟨by simp only;omega,by simp only;omega,by simp only;omega,λhb=>⟨by have:=(h2.2.2.2 hb).1;simp only;omega,(h2.2.2.2 hb).2⟩⟩,bx rfl rfl⟩
   ·exact⟨(i,o,true),⟨by simp only;omega,by simp only;omega,by simp only;omega,by simp⟩,bx (by rw[show((i+1:Nat):Int)-1=i by omega]) rfl⟩
  ·repeat' (first|(with_reducible first|refine am ?_|refine aj (by assumption) rfl ?_|refine ap (λhbr=>?_) λhbr=>?_)|simp(disch:=first|omega|(simp only[ak];omega)|simp only[al,Nat.reduceAdd]) only[go_sem,cP])
   all_goals first|(exfalso;omega)|skip
   exact⟨(i,o,true),⟨by simp only;omega,by simp only;omega,by simp only;omega,by simp⟩,bx rfl rfl⟩
 ·repeat' (first|(with_reducible first|refine am ?_|refine aj (by assumption) rfl ?_|refine ap (λhbr=>?_) λhbr=>?_)|simp(disch:=first|omega|(simp only[ak];omega)|simp only[al,Nat.reduceAdd]) only[go_sem,cP])
  exact⟨(i,o,true),⟨by simp only;omega,by simp only;omega,by simp only;omega,rfl,by simp⟩,bx rfl rfl⟩
def JP(T:List eD)(i:Nat)(o:List bj)(b:Bool)(vs:List DV):Prop:=∃c:Bool,(c=true->b=false/\i<T.length)/\vs=[.sc (.bool c),.sl 77 2 (T.map aS),.sc (.int .i64 i),.sc (.bool b),.sl 37 5 (o.map aB)]
set_option maxHeartbeats 16000000 in
theorem NN(T:List eD)(i:Nat)(o:List bj)(b:Bool)(least:Int)(hT:T.length<=1000)(hi:i<=T.length)(hs:∀x∈T,x.text.size<=1000)(hE:MB T (i+1))(hB:o.length+2*(T.length-i)<=300000+10*i):
 ∃a:(Nat×List bj×Bool)×Int,(i<=a.1.1/\a.1.1<=T.length/\a.1.2.1.length+2*i<=o.length+2*a.1.1/\(b=true->a.1.2.2=true)/\(a.1.2.2=false->i<a.1.1/\∃e,a.1.2.1=o++e/\Tf 0 1 e))/\PV 69 T i o b [(false,[.sc (.int .i64 least)])] a.1.1 a.1.2.1 a.1.2.2 [(false,[.sc (.int .i64 a.2)])]:=by
 have low:=λ(w:ByteArray) (h:i<T.length)=>Sd T (i+1) o b w hT (by omega) hs hE (by omega)
 obtain⟨⟨ip,op,bp⟩,hp,hpc⟩:=NK T i o b hT hi hs hE hB;simp only at hp hpc;refine eF Try.func69 pN rfl (fE ..) (by kernel_rfl) ?_;simp only[iQ];simp only[bR,ao,ae];simp(disch:=first|omega|(simp only[ak];omega)|simp only[al,Nat.reduceAdd]) only[go_sem,true_and];refine jn (JP T i o b) ?_ ?_
 ·obtain⟨r,hr,hcb⟩:=x7 T i o b ⟨#[45]⟩ hT (by omega);refine aC hcb rfl ?_;clear hcb;simp(disch:=first|omega|(simp only[ak];omega)|simp only[al,Nat.reduceAdd]) only[go_sem,bR,ao,ae];cases r
  ·simp(disch:=first|omega|(simp only[ak];omega)|simp only[al,Nat.reduceAdd]) only[go_sem,true_and];exact⟨false,by simp,rfl⟩
  ·simp(disch:=first|omega|(simp only[ak];omega)|simp only[al,Nat.reduceAdd]) only[go_sem,true_and];exact⟨_,λ_=>hr rfl,rfl⟩
 rintro vs - ⟨c,hc,rfl⟩;simp only[gK];cases c;rotate_left
 ·obtain⟨rfl,hlt⟩:=hc rfl;simp(disch:=first|omega|(simp only[ak];omega)|simp only[al,Nat.reduceAdd]) only[go_sem,true_and];obtain⟨i2,o2,b2,h2,hcb⟩:=hE (i+1) o false 11 (by omega) (by omega) (by omega);refine aC hcb rfl ?_;clear hcb;simp(disch:=first|omega|(simp only[ak];omega)|simp only[al,Nat.reduceAdd]) only[go_sem,bR,ao,ae];refine aC (dC T i2 o2 b2 10 ⟨#[45]⟩ 1 (by first|omega|(simp only[List.length_append,List.length_cons,List.length_nil];omega))) rfl ?_;simp(disch:=first|omega|(simp only[ak];omega)|simp only[al,Nat.reduceAdd]) only[go_sem,bR,ao,ae];refine⟨((i2,_,b2),11),⟨by simp only;omega,by simp only;omega,by simp only[d8];omega,λhb=>?_⟩,bx rfl rfl⟩;obtain⟨q1,e2,rfl,t2⟩:=h2.2.2.2.2 hb;exact⟨by simp only;omega,_,zN ..,t2.app (Tf.one 1 rfl (by omega) (NS.mk' (n:=0) (by simp) (by simp) (by simp) (by first|assumption|omega|decide) (by simp) (by simp)))⟩
 clear hc;simp(disch:=first|omega|(simp only[ak];omega)|simp only[al,Nat.reduceAdd]) only[go_sem,true_and];refine jn (JP T i o b) ?_ ?_
 ·obtain⟨r,hr,hcb⟩:=x7 T i o b ⟨#[33]⟩ hT (by omega);refine aC hcb rfl ?_;clear hcb;simp(disch:=first|omega|(simp only[ak];omega)|simp only[al,Nat.reduceAdd]) only[go_sem,bR,ao,ae];cases r
  ·simp(disch:=first|omega|(simp only[ak];omega)|simp only[al,Nat.reduceAdd]) only[go_sem,true_and];exact⟨false,by simp,rfl⟩
  ·simp(disch:=first|omega|(simp only[ak];omega)|simp only[al,Nat.reduceAdd]) only[go_sem,true_and];exact⟨_,λ_=>hr rfl,rfl⟩
 rintro vs - ⟨c,hc,rfl⟩;simp only[gz];cases c;rotate_left
 ·obtain⟨rfl,hlt⟩:=hc rfl;simp(disch:=first|omega|(simp only[ak];omega)|simp only[al,Nat.reduceAdd]) only[go_sem,true_and];obtain⟨i2,o2,b2,h2,hcb⟩:=hE (i+1) o false 5 (by omega) (by omega) (by omega);refine aC hcb rfl ?_;clear hcb;simp(disch:=first|omega|(simp only[ak];omega)|simp only[al,Nat.reduceAdd]) only[go_sem,bR,ao,ae];refine aC (dC T i2 o2 b2 10 ⟨#[33]⟩ 1 (by first|omega|(simp only[List.length_append,List.length_cons,List.length_nil];omega))) rfl ?_;simp(disch:=first|omega|(simp only[ak];omega)|simp only[al,Nat.reduceAdd]) only[go_sem,bR,ao,ae];refine⟨((i2,_,b2),5),⟨by simp only;omega,by simp only;omega,by simp only[d8];omega,λhb=>?_⟩,bx rfl rfl⟩;obtain⟨q1,e2,rfl,t2⟩:=h2.2.2.2.2 hb;exact⟨by simp only;omega,_,zN ..,t2.app (Tf.one 1 rfl (by omega) (NS.mk' (n:=0) (by simp) (by simp) (by simp) (by first|assumption|omega|decide) (by simp) (by simp)))⟩
 clear hc;simp(disch:=first|omega|(simp only[ak];omega)|simp only[al,Nat.reduceAdd]) only[go_sem,true_and];refine jn (JP T i o b) ?_ ?_
 ·obtain⟨r,hr,hcb⟩:=x7 T i o b ⟨#[126]⟩ hT (by omega);refine aC hcb rfl ?_;clear hcb;simp(disch:=first|omega|(simp only[ak];omega)|simp only[al,Nat.reduceAdd]) only[go_sem,bR,ao,ae];cases r
  ·simp(disch:=first|omega|(simp only[ak];omega)|simp only[al,Nat.reduceAdd]) only[go_sem,true_and];exact⟨false,by simp,rfl⟩
  ·simp(disch:=first|omega|(simp only[ak];omega)|simp only[al,Nat.reduceAdd]) only[go_sem,true_and];exact⟨_,λ_=>hr rfl,rfl⟩
 rintro vs - ⟨c,hc,rfl⟩;simp only[gE];cases c;rotate_left
 ·obtain⟨rfl,hlt⟩:=hc rfl;simp(disch:=first|omega|(simp only[ak];omega)|simp only[al,Nat.reduceAdd]) only[go_sem,true_and];obtain⟨i2,o2,b2,h2,hcb⟩:=hE (i+1) o false 3 (by omega) (by omega) (by omega);refine aC hcb rfl ?_;clear hcb;simp(disch:=first|omega|(simp only[ak];omega)|simp only[al,Nat.reduceAdd]) only[go_sem,bR,ao,ae];refine aC (dC T i2 o2 b2 10 ⟨#[126]⟩ 1 (by first|omega|(simp only[List.length_append,List.length_cons,List.length_nil];omega))) rfl ?_;simp(disch:=first|omega|(simp only[ak];omega)|simp only[al,Nat.reduceAdd]) only[go_sem,bR,ao,ae];refine⟨((i2,_,b2),2),⟨by simp only;omega,by simp only;omega,by simp only[d8];omega,λhb=>?_⟩,bx rfl rfl⟩;obtain⟨q1,e2,rfl,t2⟩:=h2.2.2.2.2 hb;exact⟨by simp only;omega,_,zN ..,t2.app (Tf.one 1 rfl (by omega) (NS.mk' (n:=0) (by simp) (by simp) (by simp) (by first|assumption|omega|decide) (by simp) (by simp)))⟩
 clear hc;simp(disch:=first|omega|(simp only[ak];omega)|simp only[al,Nat.reduceAdd]) only[go_sem,true_and];refine jn (JP T i o b) ?_ ?_
 ·refine bI (λhl=>?_) (λhl=>?_)
  ·simp(disch:=first|omega|(simp only[ak];omega)|simp only[al,Nat.reduceAdd]) only[go_sem,true_and];obtain⟨r,hr,hcb⟩:=x7 T i o b ⟨#[102,117,110,99,116,105,111,110]⟩ hT (by omega);refine aC hcb rfl ?_;clear hcb;simp(disch:=first|omega|(simp only[ak];omega)|simp only[al,Nat.reduceAdd]) only[go_sem,bR,ao,ae];cases r;rotate_left
   ·simp(disch:=first|omega|(simp only[ak];omega)|simp only[al,Nat.reduceAdd]) only[go_sem,true_and];exact⟨_,λ_=>hr rfl,rfl⟩
   clear hr;simp(disch:=first|omega|(simp only[ak];omega)|simp only[al,Nat.reduceAdd]) only[go_sem,true_and];obtain⟨r,hr,hcb⟩:=x7 T i o b ⟨#[105,102]⟩ hT (by omega);refine aC hcb rfl ?_;clear hcb;simp(disch:=first|omega|(simp only[ak];omega)|simp only[al,Nat.reduceAdd]) only[go_sem,bR,ao,ae];cases r;rotate_left
   ·simp(disch:=first|omega|(simp only[ak];omega)|simp only[al,Nat.reduceAdd]) only[go_sem,true_and];exact⟨_,λ_=>hr rfl,rfl⟩
   clear hr;simp(disch:=first|omega|(simp only[ak];omega)|simp only[al,Nat.reduceAdd]) only[go_sem,true_and];obtain⟨r,hr,hcb⟩:=x7 T i o b ⟨#[119,104,105,108,101]⟩ hT (by omega);refine aC hcb rfl ?_;clear hcb;simp(disch:=first|omega|(simp only[ak];omega)|simp only[al,Nat.reduceAdd]) only[go_sem,bR,ao,ae];cases r;rotate_left
   ·simp(disch:=first|omega|(simp only[ak];omega)|simp only[al,Nat.reduceAdd]) only[go_sem,true_and];exact⟨_,λ_=>hr rfl,rfl⟩
   clear hr;simp(disch:=first|omega|(simp only[ak];omega)|simp only[al,Nat.reduceAdd]) only[go_sem,true_and];obtain⟨r,hr,hcb⟩:=x7 T i o b ⟨#[102,111,114]⟩ hT (by omega);refine aC hcb rfl ?_;clear hcb;simp(disch:=first|omega|(simp only[ak];omega)|simp only[al,Nat.reduceAdd]) only[go_sem,bR,ao,ae];exact⟨r,hr,rfl⟩
  ·simp(disch:=first|omega|(simp only[ak];omega)|simp only[al,Nat.reduceAdd]) only[go_sem,true_and];exact⟨false,by simp,rfl⟩
 rintro vs - ⟨c,hc,rfl⟩;simp only[gn];cases c;rotate_left
 ·obtain⟨rfl,hlt⟩:=hc rfl;have hx:=kt (t:=77) (l:=T) (kd:=.i64) (z:=(i:Int)) (by omega) (by omega);rw[Int.toNat_natCast]at hx;obtain⟨⟨i2,o2,b2⟩,h2,hcb⟩:=low (T.getD i default).text hlt;generalize T.getD i default=x at *;obtain⟨kd,t⟩:=x;simp only[aS]at hx h2 hcb;have e1:((i+1:Nat):Int)-1=i:=by omega
  simp(disch:=first|omega|(simp only[ak];omega)|simp only[al,Nat.reduceAdd]) only[go_sem,e1,hx];refine aC hcb rfl ?_;simp(disch:=first|omega|(simp only[ak];omega)|simp only[al,Nat.reduceAdd]) only[go_sem,bR,ao,ae];refine⟨((i2,o2,b2),1),⟨?_,?_,?_,λhb=>?_⟩,bx rfl rfl⟩
  ·have:=h2.1;simp only;omega
  ·exact h2.2.1
  ·have:=h2.2.2.1;simp only;omega
  ·have:=h2.1;exact⟨by simp only;omega,h2.2.2.2.2 hb⟩
 clear hc;simp(disch:=first|omega|(simp only[ak];omega)|simp only[al,Nat.reduceAdd]) only[go_sem,true_and];refine aC hpc rfl ?_;simp(disch:=first|omega|(simp only[ak];omega)|simp only[al,Nat.reduceAdd]) only[go_sem,bR,ao,ae]
 refine lp (λs:Int×Nat×Bool×List bj=>[.sc (.int .i64 s.1),.sl 77 2 (T.map aS),.sc (.int .i64 s.2.1),.sc (.bool s.2.2.1),.sl 37 5 (s.2.2.2.map aB)])
  (λs=>i<=s.2.1/\s.2.1<=T.length/\s.2.2.2.length+2*i<=o.length+2*s.2.1/\(b=true->s.2.2.1=true)/\(s.2.2.1=false->i<s.2.1/\∃e,s.2.2.2=o++e/\Tf 0 1 e)) (λs=>T.length-s.2.1) (14,ip,bp,op) rfl hp ?_
 rintro⟨lev,i2,b2,o2⟩ ⟨g1,g2,g3,g4,g5⟩;simp only at g1 g2 g3 g4 g5 ⊢;simp only[gN];cases b2;rotate_left
 ·simp(disch:=first|omega|(simp only[ak];omega)|simp only[al,Nat.reduceAdd]) only[go_sem,true_and];exact⟨((i2,o2,true),lev),⟨g1,g2,g3,λ_=>rfl,by simp⟩,bx rfl rfl⟩
 obtain⟨g5,e1,ho2,t1⟩:=g5 rfl;simp(disch:=first|omega|(simp only[ak];omega)|simp only[al,Nat.reduceAdd]) only[go_sem,true_and];refine am ?_;simp(disch:=first|omega|(simp only[ak];omega)|simp only[al,Nat.reduceAdd]) only[go_sem,true_and];obtain⟨i3,r,h3,hcb⟩:=ko T i2 o2 false ⟨#[40]⟩ hT (by omega);refine aC hcb rfl ?_;clear hcb;simp(disch:=first|omega|(simp only[ak];omega)|simp only[al,Nat.reduceAdd]) only[go_sem,bR,ao,ae];cases r;rotate_left
 ·obtain⟨-,rfl⟩:=h3.2.2.1 rfl;obtain⟨⟨i4,o4,b4⟩,h4,hcb⟩:=Pt T (i2+1) o2 false hT (by omega) hs (λj=>λo b l hj=>hE j o b l (by omega)) (by omega);simp only at h4 hcb;simp(disch:=first|omega|(simp only[ak];omega)|simp only[al,Nat.reduceAdd]) only[go_sem,true_and];refine aC hcb rfl ?_;simp(disch:=first|omega|(simp only[ak];omega)|simp only[al,Nat.reduceAdd]) only[go_sem,bR,ao,ae,bQ];obtain⟨k1,k2,k3,k4,k5⟩:=h4;refine⟨(13,i4,b4,o4),rfl,⟨by simp only;omega,by simp only;omega,by simp only;omega,λh=>absurd (g4 h) (by simp),λhb=>⟨by simp only;omega,?_⟩⟩,by simp only;omega⟩;obtain⟨e,he,te⟩:=k5 hb;exact⟨e1++e,by simp only[he,ho2,List.append_assoc],t1.app te⟩
 obtain rfl:=h3.2.2.2 rfl;clear h3;simp(disch:=first|omega|(simp only[ak];omega)|simp only[al,Nat.reduceAdd]) only[go_sem,true_and];obtain⟨i4,r,h3,hcb⟩:=ko T i3 o2 false ⟨#[91]⟩ hT (by omega);refine aC hcb rfl ?_;clear hcb;simp(disch:=first|omega|(simp only[ak];omega)|simp only[al,Nat.reduceAdd]) only[go_sem,bR,ao,ae];cases r;rotate_left
 ·obtain⟨-,rfl⟩:=h3.2.2.1 rfl;simp(disch:=first|omega|(simp only[ak];omega)|simp only[al,Nat.reduceAdd]) only[go_sem,true_and];obtain⟨i5,r,h5,hcb⟩:=ko T (i3+1) o2 false ⟨#[91]⟩ hT (by omega);refine aC hcb rfl ?_;clear hcb;simp(disch:=first|omega|(simp only[ak];omega)|simp only[al,Nat.reduceAdd]) only[go_sem,bR,ao,ae];refine jn (λvs=>∃c:Bool,vs=[.sc (.int .i64 (if c then 13 else 12))]) ?_ ?_
  ·cases r
   ·simp(disch:=first|omega|(simp only[ak];omega)|simp only[al,Nat.reduceAdd]) only[go_sem,true_and];exact⟨false,rfl⟩
   ·simp(disch:=first|omega|(simp only[ak];omega)|simp only[al,Nat.reduceAdd]) only[go_sem,true_and];exact⟨true,rfl⟩
  rintro vs - ⟨c,rfl⟩;simp only[gv];simp(disch:=first|omega|(simp only[ak];omega)|simp only[al,Nat.reduceAdd]) only[go_sem,true_and];obtain⟨i6,o6,b6,h6,hcb⟩:=hE i5 o2 false 1 (by omega) (by omega) (by omega);refine aC hcb rfl ?_;clear hcb;simp(disch:=first|omega|(simp only[ak];omega)|simp only[al,Nat.reduceAdd]) only[go_sem,bR,ao,ae];obtain⟨i7,b7,h7,hcb⟩:=ew T i6 o6 b6 ⟨#[93]⟩ hT (by omega);refine aC hcb rfl ?_;clear hcb;simp(disch:=first|omega|(simp only[ak];omega)|simp only[al,Nat.reduceAdd]) only[go_sem,bR,ao,ae];cases c
  ·repeat' (first|(with_reducible first|refine am ?_|refine aj (by assumption) rfl ?_|refine ap (λhbr=>?_) λhbr=>?_)|simp(disch:=first|omega|(simp only[ak];omega)|simp only[al,Nat.reduceAdd]) only[go_sem,true_and])
   all_goals first|contradiction|(exfalso;omega)|skip
   refine aC (dC T i7 o6 b7 12 ⟨#[]⟩ 2 (by first|omega|(simp only[List.length_append,List.length_cons,List.length_nil];omega))) rfl ?_;simp(disch:=first|omega|(simp only[ak];omega)|simp only[al,Nat.reduceAdd]) only[go_sem,bR,ao,ae];simp(disch:=first|omega|(simp only[ak];omega)|simp only[al,Nat.reduceAdd]) only[go_sem,bQ];refine⟨(13,i7,b7,_),rfl,⟨by simp only;omega,by simp only;omega,by simp only[d8];omega,λh=>absurd (g4 h) (by simp),λhb=>⟨by simp only;omega,?_⟩⟩,by simp only;omega⟩;obtain⟨-,e6,he,te⟩:=h6.2.2.2.2 (nb h7.2.2.2.1 hb);exact⟨e1++e6++[⟨12,0,⟨#[]⟩,[],2⟩],by simp only[he,ho2,List.append_assoc],(t1.app (te.up 1)).app (Tf.one 2 rfl (by omega) (NS.mk' (n:=0) (by simp) (by simp) (by simp) (by first|assumption|omega|decide) (by simp) (by simp)))⟩
  ·repeat' (first|(with_reducible first|refine am ?_|refine aj (by assumption) rfl ?_|refine ap (λhbr=>?_) λhbr=>?_)|simp(disch:=first|omega|(simp only[ak];omega)|simp only[al,Nat.reduceAdd]) only[go_sem,true_and])
   all_goals first|contradiction|(exfalso;omega)|skip
   obtain⟨i8,b8,h8,hcb⟩:=ew T i7 o6 b7 ⟨#[93]⟩ hT (by omega);refine aC hcb rfl ?_;clear hcb;simp(disch:=first|omega|(simp only[ak];omega)|simp only[al,Nat.reduceAdd]) only[go_sem,bR,ao,ae];refine aC (dC T i8 o6 b8 13 ⟨#[]⟩ 2 (by first|omega|(simp only[List.length_append,List.length_cons,List.length_nil];omega))) rfl ?_;simp(disch:=first|omega|(simp only[ak];omega)|simp only[al,Nat.reduceAdd]) only[go_sem,bR,ao,ae];simp(disch:=first|omega|(simp only[ak];omega)|simp only[al,Nat.reduceAdd]) only[go_sem,bQ];refine⟨(13,i8,b8,_),rfl,⟨by simp only;omega,by simp only;omega,by simp only[d8];omega,λh=>absurd (g4 h) (by simp),λhb=>⟨by simp only;omega,?_⟩⟩,by simp only;omega⟩;obtain⟨-,e6,he,te⟩:=h6.2.2.2.2 (nb h7.2.2.2.1 (nb h8.2.2.2.1 hb));exact⟨e1++e6++[⟨13,0,⟨#[]⟩,[],2⟩],by simp only[he,ho2,List.append_assoc],(t1.app (te.up 1)).app (Tf.one 2 rfl (by omega) (NS.mk' (n:=0) (by simp) (by simp) (by simp) (by first|assumption|omega|decide) (by simp) (by simp)))⟩
 obtain rfl:=h3.2.2.2 rfl;clear h3;simp(disch:=first|omega|(simp only[ak];omega)|simp only[al,Nat.reduceAdd]) only[go_sem,true_and];obtain⟨i5,r,h3,hcb⟩:=ko T i4 o2 false ⟨#[36]⟩ hT (by omega);refine aC hcb rfl ?_;clear hcb;simp(disch:=first|omega|(simp only[ak];omega)|simp only[al,Nat.reduceAdd]) only[go_sem,bR,ao,ae];cases r;rotate_left
 ·obtain⟨-,rfl⟩:=h3.2.2.1 rfl;simp(disch:=first|omega|(simp only[ak];omega)|simp only[al,Nat.reduceAdd]) only[go_sem,true_and];refine jn (λvs=>∃c:Bool,vs=[.sc (.bool c)]) ?_ ?_
  ·by_cases hlt:i4+1<T.length
   ·have hx:=kt (t:=77) (l:=T) (kd:=.i64) (z:=((i4+1:Nat):Int)) (by omega) (by omega);rw[Int.toNat_natCast]at hx;generalize T.getD (i4+1) default=x at *;obtain⟨kd,t⟩:=x;simp only[aS]at hx
    repeat' (first|(with_reducible first|refine am ?_|refine aj (by assumption) rfl ?_|refine ap (λhbr=>?_) λhbr=>?_)|simp(disch:=first|omega|(simp only[ak];omega)|simp only[al,Nat.reduceAdd]) only[go_sem,hx])
    all_goals first|(exfalso;omega)|exact⟨_,rfl⟩
   ·repeat' (first|(with_reducible first|refine am ?_|refine aj (by assumption) rfl ?_|refine ap (λhbr=>?_) λhbr=>?_)|simp(disch:=first|omega|(simp only[ak];omega)|simp only[al,Nat.reduceAdd]) only[go_sem,true_and])
    all_goals first|(exfalso;omega)|exact⟨_,rfl⟩
  rintro vs - ⟨c,rfl⟩;simp only[gq];cases c
  ·simp(disch:=first|omega|(simp only[ak];omega)|simp only[al,Nat.reduceAdd]) only[go_sem,true_and];obtain⟨i6,b6,s6,h6,hcb⟩:=nx T (i4+1) o2 false 3 false hT (by omega) hs;refine aC hcb rfl ?_;clear hcb;simp(disch:=first|omega|(simp only[ak];omega)|simp only[al,Nat.reduceAdd]) only[go_sem,bR,ao,ae];refine aC (dC T i6 o2 b6 14 s6 1 (by first|omega|(simp only[List.length_append,List.length_cons,List.length_nil];omega))) rfl ?_;simp(disch:=first|omega|(simp only[ak];omega)|simp only[al,Nat.reduceAdd]) only[go_sem,bR,ao,ae];simp(disch:=first|omega|(simp only[ak];omega)|simp only[al,Nat.reduceAdd]) only[go_sem,bQ];refine⟨(13,i6,b6,_),rfl,⟨by simp only;omega,by simp only;omega,by simp only[d8];omega,λh=>absurd (g4 h) (by simp),λhb=>⟨by simp only;omega,?_⟩⟩,by simp only;omega⟩;exact⟨e1++[⟨14,0,s6,[],1⟩],by simp only[ho2,List.append_assoc],t1.app (Tf.one 1 rfl (by omega) (NS.mk' (n:=0) (by simp) (by simp) (by simp) h6.2.2.2.2.2 (by simp) (by simp)))⟩
  ·simp(disch:=first|omega|(simp only[ak];omega)|simp only[al,Nat.reduceAdd]) only[go_sem,true_and];obtain⟨i6,b6,s6,h6,hcb⟩:=nx T (i4+1) o2 false 2 false hT (by omega) hs;refine aC hcb rfl ?_;clear hcb;simp(disch:=first|omega|(simp only[ak];omega)|simp only[al,Nat.reduceAdd]) only[go_sem,bR,ao,ae];refine aC (dC T i6 o2 b6 14 s6 1 (by first|omega|(simp only[List.length_append,List.length_cons,List.length_nil];omega))) rfl ?_;simp(disch:=first|omega|(simp only[ak];omega)|simp only[al,Nat.reduceAdd]) only[go_sem,bR,ao,ae];simp(disch:=first|omega|(simp only[ak];omega)|simp only[al,Nat.reduceAdd]) only[go_sem,bQ];refine⟨(13,i6,b6,_),rfl,⟨by simp only;omega,by simp only;omega,by simp only[d8];omega,λh=>absurd (g4 h) (by simp),λhb=>⟨by simp only;omega,?_⟩⟩,by simp only;omega⟩;exact⟨e1++[⟨14,0,s6,[],1⟩],by simp only[ho2,List.append_assoc],t1.app (Tf.one 1 rfl (by omega) (NS.mk' (n:=0) (by simp) (by simp) (by simp) h6.2.2.2.2.2 (by simp) (by simp)))⟩
 obtain rfl:=h3.2.2.2 rfl;simp(disch:=first|omega|(simp only[ak];omega)|simp only[al,Nat.reduceAdd]) only[go_sem,true_and];exact⟨((i5,o2,false),lev),⟨g1,g2,g3,λh=>absurd (g4 h) (by simp),λ_=>⟨g5,e1,ho2,t1⟩⟩,bx rfl rfl⟩
def sQ:List aY:=[⟨3000004,3,⟨[aa 7 6,aa 6 7,co 5 0 0,(4,.p false [.nil]),aa 0 0,aa 1 1],[(0,.row 0 3 1 8)],1,1,9,[]⟩,[]⟩]
def tJ:List (Nat×Nat×Bool×List Nat):=[]
def jF:UP:=.z 7<|.x 5 8 7<|.b .lss 7 0<|.ite 0 (.c 7<|.po (.mk 3 1 [[7]])<|.po (.flat 7)<|.po (.app 3 1 8 0 7)<|.sel [0,9,10,16]<|.cl 21 [(false,[3]),(false,[1])] aP<|.i 1<|.b .sub 1 0<|.i 1<|.a 6 0<|.jump 0 [0,2,5])<|.r 6
def lD:UP:=.po (.mk 3 1 [])<|.i 1<|.b .sub 2 0<|.i 0<|.loop [0,1,3] jF
theorem tE:bk Try.prog 80 Try.f80 di sQ tJ=some ([(false,1),(false,1)],lD):=by kernel_rfl
def rZ:List aY:=[⟨3000003,2,⟨[aa 6 8,aa 5 9,aa 4 2,aa 0 0,aa 1 1],[],0,0,10,[]⟩,[]⟩]
def rX:List (Nat×Nat×Bool×List Nat):=[]
def iU:UP:=.i 0<|.b .gtr 1 0<|.ite 0 (.i 1<|.b .sub 4 0<|.i 1<|.b .sub 5 0<|.z 2<|.x 5 10 2<|.a 5 0<|.jump 0 [8,0])<|.c 3<|.r 3
def j9:UP:=.i 0<|.z 1<|.x 5 2 1<|.sel [0,6,7]<|.loop [1,0] iU
theorem ra:bk Try.prog 21 Try.f21 di rZ rX=some ([(false,1),(false,1)],j9):=by kernel_rfl
def vy:List aY:=[⟨2000003,1,⟨[aa 75 28,aa 52 27,aa 6 25,aa 43 22,bh 5 1 1 0,aa 15 12,aa 4 9,aa 11 7,co 3 0 0,aa 2 1,aa 0 0],[(0,.row 0 3 1 10),(1,.var 1 37 [.d 13,.d 14,.d 15,.d 16,.d 17])],2,2,29,[(27,true),(22,false),(12,true),(7,false),(1,false)]⟩,[]⟩,⟨3000011,1,⟨[aa 6 25,aa 43 22,bh 5 1 1 0,aa 15 12,aa 4 9,aa 11 7,co 3 0 0,aa 2 1,aa 0 0],[(0,.row 0 3 1 10),(1,.var 1 37 [.d 13,.d 14,.d 15,.d 16,.d 17])],2,2,26,[(22,false),(12,true),(7,false),(1,false)]⟩,[]⟩,⟨8,1,⟨[aa 43 22,bh 5 1 1 0,aa 15 12,aa 4 9,aa 11 7,co 3 0 0,aa 2 1,aa 0 0],[(0,.row 0 3 1 10),(1,.var 1 37 [.d 13,.d 14,.d 15,.d 16,.d 17])],2,2,23,[(12,true),(7,false),(1,false)]⟩,[]⟩,⟨3000005,2,⟨[aa 4 9,aa 11 7,co 3 0 0,aa 2 1,aa 0 0],[(0,.row 0 3 1 10)],1,1,11,[(7,false),(1,false)]⟩,[]⟩]
def uK:List (Nat×Nat×Bool×List Nat):=[]
def lC:UP:=.i 1<|.a 2 0<|.jump 1 [0]
def lF:UP:=.l 4<|.b .lss 1 0<|.ite 0 (.sel [2,5,6,8]<|.join 1 lC<|.z 0<|.po (.chk 1 2 0)<|.x 1 2 0<|.z 0<|.x 5 4 0<|.i 1<|.e 5 0<|.ite 0 (.i 8<|.b .neq 10 0<|.ite 0 (.t<|.f<|.c 0<|.r 0)<|.l 12<|.i 1<|.b .sub 1 0<|.e 13 0<|.ite 0 (.f<|.c 0<|.r 0)<|.jump 2 [0])<|.f<|.jump 2 [0])<|.l 6<|.b .sub 0 5<|.po (.cutI 8 none (some 0))<|.c 11<|.po (.mk 3 1 [[11]])<|.po (.cutP 11 2 1)<|.po (.flat 1)<|.po (.app 3 1 8 0 1)<|.i 1<|.a 15 0<|.jump 0 [0,2]
def lE:UP:=.ite 0 (.f<|.c 0<|.r 0)<|.l 6<|.b .sub 0 2<|.sel [0,3,7,8,9,10]<|.loop [0] lF
def lA:UP:=.l 4<|.b .lss 2 0<|.ite 0 (.z 3<|.x 5 6 3<|.i 0<|.i 0<|.s #[]<|.i 0<|.sel [4,5,6,7,8,11,12,15]<|.join 1 lE<|.cl 34 [(true,[4,3,2,1,0])] aP<|.n 0<|.ite 0 (.t<|.t<|.jump 1 [0])<|.l 7<|.b .gtr 3 0<|.ite 0 (.t<|.jump 1 [0])<|.i 0<|.e 9 0<|.ite 0 (.l 13<|.i 1<|.b .sub 1 0<|.b .lss 15 0<|.jump 1 [0])<|.f<|.jump 1 [0])<|.l 2<|.i 1<|.e 1 0<|.ite 0 (.l 9<|.i 1<|.b .sub 1 0<|.z 0<|.x 5 12 0<|.i 1<|.b .neq 5 0<|.c 0<|.r 0)<|.f<|.c 0<|.r 0
def mE:UP:=.f<|.po (.mk 3 1 [])<|.l 2<|.i 1<|.i 200<|.cl 19 [(false,[2]),(false,[1]),(false,[0])] aP<|.n 0<|.ite 0 (.f<|.c 0<|.r 0)<|.i 0<|.sel [0,6,8]<|.loop [0,1] lA
theorem u5:bk Try.prog 18 Try.f18 di vy uK=some ([(false,1)],mE):=by kernel_rfl
def rx:List aY:=[⟨3000023,1,⟨[aa 7 17,aa 91 15,aa 56 13,aa 55 0,aa 5 11,aa 50 10,aa 4 9,aa 3 7,aa 10 8,aa 9 0,aa 2 5,bh 1 0 0 0,(0,.p true [.d 0,.d 1,.d 2,.d 3,.d 4])],[(0,.var 0 37 [.d 0,.d 1,.d 2,.d 3,.d 4])],1,1,18,[(15,true),(13,false),(10,false),(5,false)]⟩,[]⟩,⟨2000003,1,⟨[aa 85 19,aa 64 18,aa 6 15,aa 56 13,aa 55 0,aa 5 11,aa 50 10,aa 4 9,aa 3 7,aa 10 8,aa 9 0,aa 2 5,bh 1 0 0 0,(0,.p true [.d 0,.d 1,.d 2,.d 3,.d 4])],[(0,.var 0 37 [.d 0,.d 1,.d 2,.d 3,.d 4])],1,1,20,[(18,true),(16,true),(13,true),(10,false),(5,false)]⟩,[]⟩,⟨3000016,1,⟨[aa 6 15,aa 56 13,aa 55 0,aa 5 11,aa 50 10,aa 4 9,aa 3 7,aa 10 8,aa 9 0,aa 2 5,bh 1 0 0 0,(0,.p true [.d 0,.d 1,.d 2,.d 3,.d 4])],[(0,.var 0 37 [.d 0,.d 1,.d 2,.d 3,.d 4])],1,1,16,[(13,true),(10,false),(5,false)]⟩,[]⟩,⟨10,1,⟨[aa 50 10,aa 4 9,aa 3 7,aa 10 8,aa 9 0,aa 2 5,bh 1 0 0 0,(0,.p true [.d 0,.d 1,.d 2,.d 3,.d 4])],[(0,.var 0 37 [.d 0,.d 1,.d 2,.d 3,.d 4])],1,1,11,[(5,false)]⟩,[]⟩,⟨2000000,2,⟨[aa 3 7,aa 10 8,aa 9 0,aa 2 5,bh 1 0 0 0,(0,.p true [.d 0,.d 1,.d 2,.d 3,.d 4])],[(0,.var 0 37 [.d 0,.d 1,.d 2,.d 3,.d 4])],1,1,9,[(5,false)]⟩,[]⟩]
def qV:List (Nat×Nat×Bool×List Nat):=[(18,19,false,[])]
def ir:UP:=.i 1<|.a 2 0<|.jump 0 [0]
def jc:UP:=.b .lss 0 2<|.ite 0 (.i 200<|.b .leq 4 0<|.ite 0 (.sel [3,7]<|.join 1 ir<|.z 0<|.x 1 1 0<|.c 0<|.cl 48 [(false,[0])] aP<|.n 0<|.c 0<|.ite 0 (.t<|.c 0<|.ite 0 (.f<|.c 0<|.r 0)<|.jump 1 [0])<|.z 3<|.x 1 4 3<|.c 0<|.cl 49 [(false,[5]),(false,[0])] aP<|.b .lss 0 5<|.c 0<|.c 0<|.ite 0 (.f<|.c 0<|.r 0)<|.jump 1 [0])<|.i 1<|.a 6 0<|.e 8 0<|.c 0<|.r 0)<|.f<|.i 1<|.a 5 0<|.e 7 0<|.c 0<|.r 0
def iz:UP:=.b .lss 0 2<|.ite 0 (.i 200<|.b .leq 4 0<|.ite 0 (.z 3<|.x 1 7 3<|.m 0<|.i 60<|.b .gtr 1 0<|.ite 0 (.f<|.c 0<|.r 0)<|.i 1<|.a 8 0<|.jump 0 [0])<|.i 1<|.a 6 0<|.e 8 0<|.c 0<|.r 0)<|.f<|.i 1<|.a 5 0<|.e 7 0<|.c 0<|.r 0
def iD:UP:=.ite 0 (.f<|.c 0<|.r 0)<|.l 7<|.i 8<|.e 12 0<|.ite 0 (.i 0<|.sel [0,3,10,11]<|.loop [0] jc)<|.i 9<|.e 14 0<|.ite 0 (.i 0<|.sel [0,5,12,13]<|.loop [0] iz)<|.i 16<|.e 16 0<|.ite 0 (.i 0<|.e 7 0<|.ite 0 (.i 2<|.i 3<|.sel [0,1,17]<|.cl 19 [(false,[2]),(false,[1]),(false,[0])] aP<|.c 0<|.r 0)<|.f<|.c 0<|.r 0)<|.i 26<|.e 18 0<|.ite 0 (.i 1<|.e 9 0<|.ite 0 (.i 0<|.z 0<|.x 1 19 0<|.m 0<|.i 1<|.i 60<|.sel [0,1,2]<|.cl 19 [(false,[2]),(false,[1]),(false,[0])] aP<|.c 0<|.r 0)<|.f<|.c 0<|.r 0)<|.i 27<|.e 20 0<|.ite 0 (.i 1<|.e 11 0<|.ite 0 (.i 0<|.z 0<|.x 1 21 0<|.sel [0,22]<|.cl 48 [(false,[0])] aP<|.ite 0 (.i 0<|.z 0<|.x 1 3 0<|.s #[60,45]<|.a 1 0<|.sel [0]<|.cl 48 [(false,[0])] aP<|.c 0<|.r 0)<|.f<|.c 0<|.r 0)<|.f<|.f<|.c 0<|.r 0)<|.i 0<|.e 11 0<|.c 0<|.r 0
def iu:UP:=.cl 46 [(false,[8])] aP<|.join 1 iD<|.i 0<|.i 35<|.cl 19 [(false,[11]),(false,[1]),(false,[0])] aP<|.n 0<|.ite 0 (.t<|.t<|.t<|.t<|.jump 0 [0])<|.i 0<|.sel [0,5,7,10,11,12,13,14]<|.cl 19 [(false,[6]),(false,[0]),(false,[2])] aP<|.n 0<|.ite 0 (.t<|.t<|.t<|.jump 0 [0])<|.sel [3,5,6,7,8,9]<|.cl 47 [(true,[5,4,3,2,1])] aP<|.n 0<|.ite 0 (.t<|.t<|.jump 0 [0])<|.i 0<|.i 200<|.sel [0,1,4,5]<|.cl 19 [(false,[3]),(false,[1]),(false,[0])] aP<|.n 0<|.ite 0 (.t<|.jump 0 [0])<|.i 0<|.b .geq 5 0<|.ite 0 (.b .neq 7 6<|.jump 0 [0])<|.f<|.jump 0 [0]
def jx:UP:=.f<|.i 0<|.join 2 iu<|.i 2<|.e 7 0<|.ite 0 (.i 999999999<|.jump 0 [0,1])<|.i 4<|.e 9 0<|.ite 0 (.i 2<|.jump 0 [0,3])<|.i 5<|.e 11 0<|.ite 0 (.i 1<|.jump 0 [0,5])<|.jump 0 [6,4]
theorem rD:bk Try.prog 34 Try.f34 di rx qV=some ([(true,5)],jx):=by kernel_rfl
def nV:List aY:=[⟨3000011,1,⟨[aa 36 12,aa 35 10,aa 34 3,aa 31 9,aa 9 7,aa 8 0,aa 2 5,bh 1 0 0 0,(0,.p true [.d 0,.d 1,.d 2,.d 3,.d 4])],[(0,.var 0 37 [.d 0,.d 1,.d 2,.d 3,.d 4])],1,1,13,[(9,true),(7,false),(5,false)]⟩,[]⟩,⟨3000004,1,⟨[aa 14 10,aa 13 8,aa 12 3,aa 9 7,aa 8 0,aa 2 5,bh 1 0 0 0,(0,.p true [.d 0,.d 1,.d 2,.d 3,.d 4])],[(0,.var 0 37 [.d 0,.d 1,.d 2,.d 3,.d 4])],1,1,11,[(7,true),(5,false)]⟩,[]⟩]
def nr:List (Nat×Nat×Bool×List Nat):=[]
def fz:UP:=.b .lss 0 2<|.ite 0 (.z 1<|.x 1 4 1<|.cl 59 [(false,[0])] aP<|.n 0<|.ite 0 (.t<|.f<|.c 0<|.r 0)<|.po (.cutL 1 7 none (some 4))<|.sel [0,3,5]<|.cl 60 [(false,[0]),(false,[1])] aP<|.ite 0 (.f<|.c 0<|.r 0)<|.i 1<|.a 4 0<|.jump 0 [0])<|.t<|.c 0<|.r 0
def fx:UP:=.b .lss 0 2<|.ite 0 (.z 1<|.x 1 4 1<|.m 0<|.i 60<|.b .gtr 1 0<|.ite 0 (.f<|.c 0<|.r 0)<|.i 1<|.a 6 0<|.jump 0 [0])<|.t<|.c 0<|.r 0
def fR:UP:=.f<|.i 8<|.e 6 0<|.ite 0 (.l 4<|.i 0<|.sel [0,1,6]<|.loop [0] fz)<|.i 9<|.e 8 0<|.ite 0 (.l 6<|.i 0<|.sel [0,1,8]<|.loop [0] fx)<|.i 26<|.e 10 0<|.ite 0 (.l 8<|.i 1<|.e 1 0<|.ite 0 (.i 0<|.z 0<|.x 1 12 0<|.m 0<|.i 1<|.b .geq 1 0<|.ite 0 (.i 0<|.z 0<|.x 1 17 0<|.m 0<|.i 60<|.b .leq 1 0<|.c 0<|.r 0)<|.f<|.c 0<|.r 0)<|.f<|.f<|.c 0<|.r 0)<|.i 27<|.e 12 0<|.ite 0 (.l 10<|.i 1<|.e 1 0<|.ite 0 (.i 0<|.z 0<|.x 1 14 0<|.sel [0,15]<|.cl 59 [(false,[0])] aP<|.ite 0 (.i 0<|.z 0<|.x 1 3 0<|.s #[60,45]<|.a 1 0<|.sel [0]<|.cl 59 [(false,[0])] aP<|.c 0<|.r 0)<|.f<|.c 0<|.r 0)<|.f<|.f<|.c 0<|.r 0)<|.t<|.c 0<|.r 0
theorem nQ:bk Try.prog 44 Try.f44 di nV nr=some ([(true,5)],fR):=by kernel_rfl
def ql:List aY:=[⟨4,1,⟨[aa 51 15,aa 5 14,aa 4 13,aa 3 12,aa 18 11,aa 2 5,bh 1 0 0 0,(0,.p true [.d 0,.d 1,.d 2,.d 3,.d 4])],[(0,.var 0 37 [.d 0,.d 1,.d 2,.d 3,.d 4])],1,1,16,[(11,false),(9,false),(7,false),(5,false)]⟩,[]⟩]
def pE:List (Nat×Nat×Bool×List Nat):=[]
def gr:UP:=.ite 0 (.f<|.c 0<|.r 0)<|.i 2<|.e 11 0<|.ite 0 (.i 0<|.b .geq 12 0<|.ite 0 (.i 999999999<|.b .leq 14 0<|.c 0<|.r 0)<|.f<|.c 0<|.r 0)<|.i 4<|.e 13 0<|.ite 0 (.i 0<|.b .geq 14 0<|.ite 0 (.i 2<|.b .leq 16 0<|.c 0<|.r 0)<|.f<|.c 0<|.r 0)<|.i 5<|.e 15 0<|.ite 0 (.i 0<|.b .geq 16 0<|.ite 0 (.i 1<|.b .leq 18 0<|.c 0<|.r 0)<|.f<|.c 0<|.r 0)<|.n 8<|.ite 0 (.t<|.n 9<|.ite 0 (.t<|.c 0<|.r 0)<|.sel [15,16,17,18,19]<|.cl 44 [(true,[4,3,2,1,0])] aP<|.c 0<|.r 0)<|.sel [8,13,14,15,16,17]<|.cl 43 [(true,[5,4,3,2,1])] aP<|.ite 0 (.n 1<|.ite 0 (.t<|.c 0<|.r 0)<|.cl 44 [(true,[7,6,5,4,3])] aP<|.c 0<|.r 0)<|.f<|.c 0<|.r 0
def jg:UP:=.f<|.i 0<|.b .lss 6 0<|.ite 0 (.t<|.t<|.f<|.c 0<|.r 0)<|.i 35<|.b .gtr 8 0<|.ite 0 (.t<|.f<|.c 0<|.r 0)<|.sel [5,6,7,8,9]<|.cl 41 [(true,[4,3,2,1,0])] aP<|.n 0<|.ite 0 (.f<|.c 0<|.r 0)<|.cl 42 [(false,[6])] [(false,[none],true),(false,[none],true),(false,[none],true)]<|.join 1 gr<|.n 2<|.ite 0 (.i 0<|.b .neq 10 0<|.ite 0 (.t<|.t<|.jump 0 [0])<|.n 4<|.ite 0 (.s #[]<|.b .neq 12 0<|.ite 0 (.t<|.jump 0 [0])<|.n 6<|.ite 0 (.l 13<|.i 0<|.b .gtr 1 0<|.jump 0 [0])<|.f<|.jump 0 [0])<|.f<|.n 5<|.ite 0 (.l 12<|.i 0<|.b .gtr 1 0<|.jump 0 [0])<|.f<|.jump 0 [0])<|.f<|.n 3<|.ite 0 (.s #[]<|.b .neq 11 0<|.ite 0 (.t<|.jump 0 [0])<|.n 5<|.ite 0 (.l 12<|.i 0<|.b .gtr 1 0<|.jump 0 [0])<|.f<|.jump 0 [0])<|.f<|.n 4<|.ite 0 (.l 11<|.i 0<|.b .gtr 1 0<|.jump 0 [0])<|.f<|.jump 0 [0]
theorem qn:bk Try.prog 32 Try.f32 di ql pE=some ([(true,5)],jg):=by kernel_rfl
def qN:List aY:=[⟨1000022,1,⟨[aa 37 19,aa 27 16,aa 11 12,aa 5 9,aa 4 0,aa 2 5,bh 1 0 0 0,(0,.p true [.d 0,.d 1,.d 2,.d 3,.d 4])],[(0,.var 0 37 [.d 0,.d 1,.d 2,.d 3,.d 4])],1,1,20,[(16,false),(14,false),(12,false),(9,false),(7,false),(5,false)]⟩,[]⟩,⟨1000006,1,⟨[aa 11 12,aa 5 9,aa 4 0,aa 2 5,bh 1 0 0 0,(0,.p true [.d 0,.d 1,.d 2,.d 3,.d 4])],[(0,.var 0 37 [.d 0,.d 1,.d 2,.d 3,.d 4])],1,1,13,[(9,false),(7,false),(5,false)]⟩,[]⟩]
def qd:List (Nat×Nat×Bool×List Nat):=[]
def gg:UP:=.ite 0 (.i 1<|.e 3 0<|.c 0<|.r 0)<|.i 16<|.e 4 0<|.ite 0 (.i 2<|.e 5 0<|.ite 0 (.t<|.c 0<|.r 0)<|.i 3<|.e 7 0<|.c 0<|.r 0)<|.i 2<|.e 5 0<|.c 0<|.r 0
def gh:UP:=.ite 0 (.i 0<|.e 3 0<|.c 0<|.r 0)<|.i 8<|.e 5 0<|.ite 0 (.l 5<|.i 1<|.a 1 0<|.e 7 0<|.c 0<|.r 0)<|.i 9<|.e 7 0<|.ite 0 (.l 7<|.i 1<|.a 1 0<|.e 9 0<|.c 0<|.r 0)<|.i 10<|.e 9 0<|.sel [0,8,10]<|.join 1 gg<|.ite 0 (.jump 0 [0])<|.i 14<|.e 3 0<|.ite 0 (.jump 0 [0])<|.i 21<|.e 5 0<|.ite 0 (.jump 0 [0])<|.i 33<|.e 7 0<|.ite 0 (.jump 0 [0])<|.i 22<|.e 9 0<|.ite 0 (.jump 0 [0])<|.i 23<|.e 11 0<|.ite 0 (.jump 0 [0])<|.i 26<|.e 13 0<|.ite 0 (.jump 0 [0])<|.i 27<|.e 15 0<|.ite 0 (.jump 0 [0])<|.i 31<|.e 17 0<|.jump 0 [0]
def iX:UP:=.f<|.i 0<|.e 6 0<|.ite 0 (.i 0<|.b .geq 4 0<|.c 0<|.r 0)<|.i 15<|.e 8 0<|.ite 0 (.i 0<|.b .geq 6 0<|.c 0<|.r 0)<|.i 1<|.e 10 0<|.sel [0,7,8,11]<|.join 1 gh<|.ite 0 (.jump 0 [0])<|.i 2<|.e 4 0<|.ite 0 (.jump 0 [0])<|.i 3<|.e 6 0<|.ite 0 (.jump 0 [0])<|.i 4<|.e 8 0<|.ite 0 (.jump 0 [0])<|.i 5<|.e 10 0<|.ite 0 (.jump 0 [0])<|.i 6<|.e 12 0<|.ite 0 (.jump 0 [0])<|.i 19<|.e 14 0<|.ite 0 (.jump 0 [0])<|.i 20<|.e 16 0<|.ite 0 (.jump 0 [0])<|.i 35<|.e 18 0<|.ite 0 (.jump 0 [0])<|.i 7<|.e 20 0<|.ite 0 (.jump 0 [0])<|.i 32<|.e 22 0<|.ite 0 (.jump 0 [0])<|.i 34<|.e 24 0<|.jump 0 [0]
theorem qv:bk Try.prog 41 Try.f41 di qN qd=some ([(true,5)],iX):=by kernel_rfl
def x8:List aY:=[⟨1000007,1,⟨[aa 10 12,aa 6 9,aa 5 0,aa 4 3,aa 3 2,aa 2 1,aa 0 0],[],0,0,13,[(9,false),(7,false),(5,false),(3,false),(2,false),(1,false)]⟩,[]⟩]
def xP:List (Nat×Nat×Bool×List Nat):=[]
def nh:UP:=.ite 0 (.f<|.t<|.f<|.c 2<|.c 1<|.c 0<|.ret [(false,[2]),(false,[1]),(false,[0])])<|.i 8<|.e 3 0<|.ite 0 (.f<|.f<|.t<|.c 2<|.c 1<|.c 0<|.ret [(false,[2]),(false,[1]),(false,[0])])<|.i 9<|.e 5 0<|.ite 0 (.f<|.f<|.t<|.c 2<|.c 1<|.c 0<|.ret [(false,[2]),(false,[1]),(false,[0])])<|.i 26<|.e 7 0<|.ite 0 (.f<|.t<|.t<|.c 2<|.c 1<|.c 0<|.ret [(false,[2]),(false,[1]),(false,[0])])<|.i 27<|.e 9 0<|.ite 0 (.f<|.t<|.t<|.c 2<|.c 1<|.c 0<|.ret [(false,[2]),(false,[1]),(false,[0])])<|.f<|.f<|.f<|.c 2<|.c 1<|.c 0<|.ret [(false,[2]),(false,[1]),(false,[0])]
def oU:UP:=.f<|.f<|.f<|.i 2<|.e 4 0<|.ite 0 (.t<|.f<|.f<|.c 2<|.c 1<|.c 0<|.ret [(false,[2]),(false,[1]),(false,[0])])<|.i 4<|.e 6 0<|.ite 0 (.t<|.f<|.f<|.c 2<|.c 1<|.c 0<|.ret [(false,[2]),(false,[1]),(false,[0])])<|.i 5<|.e 8 0<|.ite 0 (.t<|.f<|.f<|.c 2<|.c 1<|.c 0<|.ret [(false,[2]),(false,[1]),(false,[0])])<|.i 3<|.e 10 0<|.sel [0,11]<|.join 1 nh<|.ite 0 (.jump 0 [0])<|.i 7<|.e 2 0<|.ite 0 (.jump 0 [0])<|.i 10<|.e 4 0<|.ite 0 (.jump 0 [0])<|.i 11<|.e 6 0<|.ite 0 (.jump 0 [0])<|.i 14<|.e 8 0<|.ite 0 (.jump 0 [0])<|.i 18<|.e 10 0<|.ite 0 (.jump 0 [0])<|.i 22<|.e 12 0<|.ite 0 (.jump 0 [0])<|.i 23<|.e 14 0<|.ite 0 (.jump 0 [0])<|.i 24<|.e 16 0<|.ite 0 (.jump 0 [0])<|.i 25<|.e 18 0<|.ite 0 (.jump 0 [0])<|.i 28<|.e 20 0<|.ite 0 (.jump 0 [0])<|.i 29<|.e 22 0<|.ite 0 (.jump 0 [0])<|.i 30<|.e 24 0<|.ite 0 (.jump 0 [0])<|.i 31<|.e 26 0<|.ite 0 (.jump 0 [0])<|.i 32<|.e 28 0<|.ite 0 (.jump 0 [0])<|.i 34<|.e 30 0<|.jump 0 [0]
theorem x4:bk Try.prog 42 Try.f42 di x8 xP=some ([(false,1)],oU):=by kernel_rfl
def rL:List aY:=[]
def ru:List (Nat×Nat×Bool×List Nat):=[]
def jX:UP:=.f<|.s #[43]<|.s #[45]<|.s #[42]<|.s #[47]<|.s #[94]<|.s #[37,37]<|.s #[37,47,37]<|.s #[61,61]<|.s #[33,61]<|.s #[60]<|.s #[60,61]<|.s #[62]<|.s #[62,61]<|.s #[38]<|.s #[124]<|.s #[38,38]<|.s #[124,124]<|.s #[58]<|.s #[126]<|.c 18<|.c 17<|.c 16<|.c 15<|.c 14<|.c 13<|.c 12<|.c 11<|.c 10<|.c 9<|.c 8<|.c 7<|.c 6<|.c 5<|.c 4<|.c 3<|.c 2<|.c 1<|.c 0<|.po (.mk 9 1 [[18],[17],[16],[15],[14],[13],[12],[11],[10],[9],[8],[7],[6],[5],[4],[3],[2],[1],[0]])<|.sel [0,21]<|.cl 60 [(false,[0]),(false,[1])] aP<|.c 0<|.r 0
theorem q7:bk Try.prog 58 Try.f58 di rL ru=some ([(false,1)],jX):=by kernel_rfl
def qD:List aY:=[]
def qm:List (Nat×Nat×Bool×List Nat):=[]
def iE:UP:=.f<|.i 3<|.e 6 0<|.ite 0 (.m 5<|.i 60<|.b .leq 1 0<|.c 0<|.r 0)<|.i 10<|.e 8 0<|.ite 0 (.s #[45]<|.e 8 0<|.ite 0 (.t<|.t<|.c 0<|.r 0)<|.s #[33]<|.e 10 0<|.ite 0 (.t<|.c 0<|.r 0)<|.s #[126]<|.e 12 0<|.c 0<|.r 0)<|.i 11<|.e 10 0<|.ite 0 (.sel [9]<|.cl 58 [(false,[0])] aP<|.c 0<|.r 0)<|.i 14<|.e 12 0<|.ite 0 (.m 11<|.i 1<|.b .geq 1 0<|.ite 0 (.m 14<|.i 60<|.b .leq 1 0<|.c 0<|.r 0)<|.f<|.c 0<|.r 0)<|.sel [11]<|.cl 59 [(false,[0])] aP<|.c 0<|.r 0
theorem pu:bk Try.prog 43 Try.f43 di qD qm=some ([(true,5)],iE):=by kernel_rfl
def pF:List aY:=[]
def qH:List (Nat×Nat×Bool×List Nat):=[]
def jk:UP:=.s #[43]<|.s #[45]<|.s #[42]<|.s #[47]<|.s #[94]<|.s #[37,37]<|.s #[37,47,37]<|.s #[61,61]<|.s #[33,61]<|.s #[60]<|.s #[60,61]<|.s #[62]<|.s #[62,61]<|.s #[38]<|.s #[124]<|.s #[38,38]<|.s #[124,124]<|.s #[58]<|.s #[126]<|.c 18<|.c 17<|.c 16<|.c 15<|.c 14<|.c 13<|.c 12<|.c 11<|.c 10<|.c 9<|.c 8<|.c 7<|.c 6<|.c 5<|.c 4<|.c 3<|.c 2<|.c 1<|.c 0<|.po (.mk 9 1 [[18],[17],[16],[15],[14],[13],[12],[11],[10],[9],[8],[7],[6],[5],[4],[3],[2],[1],[0]])<|.r 0
theorem pl:bk Try.prog 61 Try.f61 di pF qH=some ([],jk):=by kernel_rfl
def rT:List aY:=[]
def rm:List (Nat×Nat×Bool×List Nat):=[]
def jv:UP:=.i 0<|.i 0<|.e 2 0<|.ite 0 (.i (-1)<|.c 0<|.r 0)<|.i 8<|.e 4 0<|.ite 0 (.i (-1)<|.c 0<|.r 0)<|.i 9<|.e 6 0<|.ite 0 (.i (-1)<|.c 0<|.r 0)<|.i 15<|.e 8 0<|.ite 0 (.i (-1)<|.c 0<|.r 0)<|.i 16<|.e 10 0<|.ite 0 (.i (-1)<|.c 0<|.r 0)<|.i 10<|.e 12 0<|.ite 0 (.i 1<|.c 0<|.r 0)<|.i 14<|.e 14 0<|.ite 0 (.i 1<|.c 0<|.r 0)<|.i 21<|.e 16 0<|.ite 0 (.i 1<|.c 0<|.r 0)<|.i 22<|.e 18 0<|.ite 0 (.i 1<|.c 0<|.r 0)<|.i 23<|.e 20 0<|.ite 0 (.i 1<|.c 0<|.r 0)<|.i 26<|.e 22 0<|.ite 0 (.i 1<|.c 0<|.r 0)<|.i 27<|.e 24 0<|.ite 0 (.i 1<|.c 0<|.r 0)<|.i 31<|.e 26 0<|.ite 0 (.i 1<|.c 0<|.r 0)<|.i 33<|.e 28 0<|.ite 0 (.i 1<|.c 0<|.r 0)<|.i 11<|.e 30 0<|.ite 0 (.i 2<|.c 0<|.r 0)<|.i 12<|.e 32 0<|.ite 0 (.i 2<|.c 0<|.r 0)<|.i 13<|.e 34 0<|.ite 0 (.i 2<|.c 0<|.r 0)<|.i 17<|.e 36 0<|.ite 0 (.i 2<|.c 0<|.r 0)<|.i 18<|.e 38 0<|.ite 0 (.i 2<|.c 0<|.r 0)<|.i 24<|.e 40 0<|.ite 0 (.i 2<|.c 0<|.r 0)<|.i 25<|.e 42 0<|.ite 0 (.i 2<|.c 0<|.r 0)<|.i 28<|.e 44 0<|.ite 0 (.i 2<|.c 0<|.r 0)<|.i 29<|.e 46 0<|.ite 0 (.i 2<|.c 0<|.r 0)<|.i 30<|.e 48 0<|.ite 0 (.i 2<|.c 0<|.r 0)<|.i 0<|.c 0<|.r 0
theorem qS:bk Try.prog 46 Try.f46 di rT rm=some ([(false,1)],jv):=by kernel_rfl
def s9:List aY:=[⟨1000011,1,⟨[aa 29 16,aa 23 13,aa 17 11,aa 11 9,aa 5 7,aa 4 0,aa 2 5,bh 1 0 0 0,(0,.p true [.d 0,.d 1,.d 2,.d 3,.d 4])],[(0,.var 0 37 [.d 0,.d 1,.d 2,.d 3,.d 4])],1,1,17,[(13,false),(11,false),(9,false),(7,false),(5,false)]⟩,[]⟩]
def ue:List (Nat×Nat×Bool×List Nat):=[(9,5,false,[])]
def jQ:UP:=.ite 0 (.cl 48 [(false,[2])] aP<|.c 0<|.r 0)<|.s #[]<|.e 3 0<|.c 0<|.r 0
def kX:UP:=.f<|.i 3<|.e 6 0<|.ite 0 (.m 5<|.i 60<|.b .leq 1 0<|.c 0<|.r 0)<|.i 14<|.e 8 0<|.ite 0 (.m 7<|.i 1<|.i 60<|.sel [0,1,2]<|.cl 19 [(false,[2]),(false,[1]),(false,[0])] aP<|.c 0<|.r 0)<|.i 10<|.e 10 0<|.ite 0 (.s #[45]<|.s #[33]<|.s #[126]<|.c 2<|.c 1<|.c 0<|.po (.mk 9 1 [[2],[1],[0]])<|.sel [0,13]<|.cl 54 [(false,[0]),(false,[1])] aP<|.c 0<|.r 0)<|.i 11<|.e 12 0<|.ite 0 (.sel [11]<|.cl 61 [] Fr<|.c 1<|.cl 54 [(false,[0]),(false,[1])] aP<|.c 0<|.c 0<|.r 0)<|.i 7<|.e 14 0<|.sel [0,13,15]<|.join 1 jQ<|.ite 0 (.jump 0 [0])<|.i 18<|.e 3 0<|.ite 0 (.jump 0 [0])<|.i 22<|.e 5 0<|.ite 0 (.jump 0 [0])<|.i 23<|.e 7 0<|.ite 0 (.jump 0 [0])<|.i 24<|.e 9 0<|.ite 0 (.jump 0 [0])<|.i 25<|.e 11 0<|.ite 0 (.jump 0 [0])<|.i 26<|.e 13 0<|.ite 0 (.jump 0 [0])<|.i 27<|.e 15 0<|.ite 0 (.jump 0 [0])<|.i 28<|.e 17 0<|.ite 0 (.jump 0 [0])<|.i 29<|.e 19 0<|.ite 0 (.jump 0 [0])<|.i 30<|.e 21 0<|.ite 0 (.jump 0 [0])<|.i 31<|.e 23 0<|.ite 0 (.jump 0 [0])<|.i 32<|.e 25 0<|.ite 0 (.jump 0 [0])<|.i 34<|.e 27 0<|.jump 0 [0]
theorem s5:bk Try.prog 47 Try.f47 di s9 ue=some ([(true,5)],kX):=by kernel_rfl
def oM(k:Int):Int:=if k∈[0,8,9,15,16]then -1 else if k∈[10,14,21,22,23,26,27,31,33]then 1 else if k∈[11,12,13,17,18,24,25,28,29,30]then 2 else 0
def JD(k:Int):Bool:=decide (k∈[7,18,22,23,24,25,26,27,28,29,30,31,32,34])
def Gf:List ByteArray:=[⟨#[43]⟩,⟨#[45]⟩,⟨#[42]⟩,⟨#[47]⟩,⟨#[94]⟩,⟨#[37,37]⟩,⟨#[37,47,37]⟩,⟨#[61,61]⟩,⟨#[33,61]⟩,⟨#[60]⟩,⟨#[60,61]⟩,⟨#[62]⟩,⟨#[62,61]⟩,⟨#[38]⟩,⟨#[124]⟩,⟨#[38,38]⟩,⟨#[124,124]⟩,⟨#[58]⟩,⟨#[126]⟩]
def FX:List ByteArray:=[⟨#[45]⟩,⟨#[33]⟩,⟨#[126]⟩]
def uF(k:Int)(s:ByteArray):Bool:=
 if k=3 then decide ((s.size:Int)<=60)else if k=10 then tQ FX s else if k=11 then tQ Gf s else if k=14 then decide (1<=(s.size:Int)/\(s.size:Int)<=60)else de s
def x6(k:Int)(s:ByteArray):Bool:=if k∈[3,10,11,14]\/JD k=true then uF k s else decide (s=⟨#[]⟩)
theorem Tt(s:ByteArray):tQ FX s=decide (s=⟨#[45]⟩\/s=⟨#[33]⟩\/s=⟨#[126]⟩):=by
 rw[Bool.eq_iff_iff,ne,decide_eq_true_eq];simp[FX]
theorem Gz(k:Int):aW Try.prog 46 [(false,[.sc (.int .i64 k)])] [(false,[.sc (.int .i64 (oM k))],true)]:=by
 refine ax Try.func46 qS rfl ?_;simp only[jv]
 repeat' (first|(with_reducible first|refine am ?_|refine aj (by assumption) rfl ?_|refine ap (λhbr=>?_) λhbr=>?_)|simp(disch:=first|omega|(simp only[ak];omega)|simp only[al,Nat.reduceAdd]) only[go_sem,true_and])
 all_goals first
  |(exfalso;omega)
  |(subst_vars;exact yR (by decide))
  |exact yR (by simp[oM, *])
  |skip
theorem Gu:aW Try.prog 61 [] [(false,[bo Gf],true)]:=by
 refine ax Try.func61 pl rfl ?_;simp only[jk]
 repeat' (first|(with_reducible first|refine am ?_|refine aj (by assumption) rfl ?_|refine ap (λhbr=>?_) λhbr=>?_)|simp(disch:=first|omega|(simp only[ak];omega)|simp only[al,Nat.reduceAdd]) only[go_sem,true_and])
 rfl
theorem F8(s:ByteArray):aW Try.prog 58 [(false,[.sc (.string s)])] [(false,[.sc (.bool (tQ Gf s))],true)]:=by
 have h:=yL 9 Gf s (by decide);simp only[Gf,dc,List.map_cons,List.map_nil]at h;refine ax Try.func58 q7 rfl ?_;simp only[jX]
 repeat' (first|(with_reducible first|refine am ?_|refine aj (by assumption) rfl ?_|refine ap (λhbr=>?_) λhbr=>?_)|simp(disch:=first|omega|(simp only[ak];omega)|simp only[al,Nat.reduceAdd]) only[go_sem,true_and])
 rfl
theorem G7(k n c:Int)(s:ByteArray)(L:List ByteArray)(hs:s.size<=100000000000):aW Try.prog 47 [(true,aB ⟨k,n,s,L,c⟩)] [(false,[.sc (.bool (x6 k s))],true)]:=by
 have h1:=kf (s.size:Int) 1 60;have h2:=eq s hs;have h3:=jP 9 FX s (by decide);have h4:=jP 9 Gf s (by decide);have h5:=Gu;simp only[FX,dc,List.map_cons,List.map_nil]at h3;simp only[bo]at h5;refine ax Try.func47 s5 rfl ?_;simp only[kX];simp only[aB,bo]
 repeat' (first|(with_reducible first|refine am ?_|refine aj (by assumption) rfl ?_|refine ap (λhbr=>?_) λhbr=>?_)|simp(disch:=first|omega|(simp only[ak];omega)|simp only[al,Nat.reduceAdd]) only[go_sem,jQ])
 all_goals first
  |(exfalso;omega)
  |(subst_vars;exact aU (by first|rfl|(simp[x6,uF,JD,FX, *];done)))
  |exact aU (by rw[x6,if_neg (by simp[JD, *])])
  |skip
theorem GL(k n c:Int)(s:ByteArray)(L:List ByteArray)(hs:s.size<=100000000000):aW Try.prog 43 [(true,aB ⟨k,n,s,L,c⟩)] [(false,[.sc (.bool (uF k s))],true)]:=by
 have h2:=pG s hs;have h4:=F8 s;refine ax Try.func43 pu rfl ?_;simp only[iE];simp only[aB,bo]
 repeat' (first|(with_reducible first|refine am ?_|refine aj (by assumption) rfl ?_|refine ap (λhbr=>?_) λhbr=>?_)|simp(disch:=first|omega|(simp only[ak];omega)|simp only[al,Nat.reduceAdd]) only[go_sem,true_and])
 all_goals first
  |(exfalso;omega)
  |exact aU (by rw[uF,if_pos ‹k=3›])
  |exact aU (by rw[uF,if_neg ‹¬k=3›,if_pos ‹k=10›,Tt];simp[*])
  |exact aU (by rw[uF,if_neg ‹¬k=3›,if_neg ‹¬k=10›,if_pos ‹k=11›])
  |exact aU (by rw[uF,if_neg ‹¬k=3›,if_neg ‹¬k=10›,if_neg ‹¬k=11›,if_pos ‹k=14›];simp[*])
  |exact aU (by rw[uF,if_neg ‹¬k=3›,if_neg ‹¬k=10›,if_neg ‹¬k=11›,if_neg ‹¬k=14›])
  |skip
def M8(k:Int):Bool:=decide (k∈[2,4,5])
def Ha(k:Int):Bool:=decide (k∈[3,10,11,14]\/JD k=true)
def yi(k:Int):Bool:=decide (k∈[8,9,26,27])
def px(k c:Int)(n:Nat):Bool:=
 if k∈[0,15]then decide (0<=c)else if k∈[1,2,3,4,5,6,19,20,35,7,32,34]then decide (c=0)else if k∈[8,9]then decide (c=(n:Int)+1)
 else if k∈[10,14,21,33,22,23,26,27,31]then decide (c=1)else if k=16 then decide (c=2\/c=3)else decide (c=2)
def ge(L:List ByteArray)(i:Nat):Bool:=de (L.getD i default)&& !decide (jG L (L.getD i default)<i)
def gd(L:List ByteArray)(i:Nat):Bool:=decide (((L.getD i default).size:Int)<=60)
def oO(k:Int)(L:List ByteArray):Bool:=
 if k=8 then cJ (ge L) L.length else if k=9 then cJ (gd L) L.length
 else if k=26 then decide (L.length=1)&&decide (1<=((L.getD 0 default).size:Int)/\((L.getD 0 default).size:Int)<=60)
 else if k=27 then decide (L.length=1)&&(de (L.getD 0 default)&&de (L.getD 0 default++⟨#[60,45]⟩))else true
theorem DA(k:Int):aW Try.prog 42 [(false,[.sc (.int .i64 k)])] [(false,[.sc (.bool (M8 k))],true),(false,[.sc (.bool (Ha k))],true),(false,[.sc (.bool (yi k))],true)]:=by
 refine ax Try.func42 x4 rfl ?_;simp only[oU]
 have key:∀a b c a' b' c':Bool,a=a'->b=b'->c=c'->iR [(false,[.sc (.bool a)],true),(false,[.sc (.bool b)],true),(false,[.sc (.bool c)],true)] [(false,[.sc (.bool a')]),(false,[.sc (.bool b')]),(false,[.sc (.bool c')])]:=by
  rintro a b c _ _ _ rfl rfl rfl;rfl
 repeat' (first|(with_reducible first|refine am ?_|refine aj (by assumption) rfl ?_|refine ap (λhbr=>?_) λhbr=>?_)|simp(disch:=first|omega|(simp only[ak];omega)|simp only[al,Nat.reduceAdd]) only[go_sem,nh])
 all_goals first
  |(exfalso;omega)
  |(subst_vars;exact key _ _ _ _ _ _ (by decide) (by decide) (by decide))
  |exact key _ _ _ _ _ _ (by simp[M8, *]) (by simp[Ha,JD, *]) (by simp[yi, *])
  |skip
theorem Ds(k n c:Int)(s:ByteArray)(L:List ByteArray)(hL:L.length<=1048576):aW Try.prog 41 [(true,aB ⟨k,n,s,L,c⟩)] [(false,[.sc (.bool (px k c L.length))],true)]:=by
 have b1:∀{a b:Bool},a=b->[DV.sc (.bool a)]=[.sc (.bool b)]:=λh=>by rw[h]
 refine ax Try.func41 qv rfl ?_;simp only[iX];simp only[aB,bo];simp(disch:=first|omega|(simp only[ak];omega)|simp only[al,Nat.reduceAdd]) only[go_sem,true_and];refine bI (λh0=>?_) (λh0=>?_)
 ·repeat' (first|(with_reducible first|refine am ?_|refine aj (by assumption) rfl ?_|refine ap (λhbr=>?_) λhbr=>?_)|simp(disch:=first|omega|(simp only[ak];omega)|simp only[al,Nat.reduceAdd]) only[go_sem,true_and])
  subst h0;exact aU (by simp[px])
 simp(disch:=first|omega|(simp only[ak];omega)|simp only[al,Nat.reduceAdd]) only[go_sem,true_and];refine bI (λh15=>?_) (λh15=>?_)
 ·repeat' (first|(with_reducible first|refine am ?_|refine aj (by assumption) rfl ?_|refine ap (λhbr=>?_) λhbr=>?_)|simp(disch:=first|omega|(simp only[ak];omega)|simp only[al,Nat.reduceAdd]) only[go_sem,true_and])
  subst h15;exact aU (by simp[px])
 simp(disch:=first|omega|(simp only[ak];omega)|simp only[al,Nat.reduceAdd]) only[go_sem,true_and];refine yT [.sc (.bool (decide (k∈[1,2,3,4,5,6,19,20,35,7,32,34])))] ?_ ?_
 ·repeat' (first|(with_reducible first|refine am ?_|refine aj (by assumption) rfl ?_|refine ap (λhbr=>?_) λhbr=>?_)|simp(disch:=first|omega|(simp only[ak];omega)|simp only[al,Nat.reduceAdd]) only[go_sem,true_and])
  all_goals first
   |(subst_vars;exact b1 (by decide))
   |exact b1 (by simp[*])
   |skip
 simp only[gh];refine So (λh1=>?_) (λh1=>?_)
 ·have h1:=of_decide_eq_true h1
  repeat' (first|(with_reducible first|refine am ?_|refine aj (by assumption) rfl ?_|refine ap (λhbr=>?_) λhbr=>?_)|simp(disch:=first|omega|(simp only[ak];omega)|simp only[al,Nat.reduceAdd]) only[go_sem,true_and])
  exact aU (by rw[px,if_neg (by simp[h0,h15]),if_pos h1])
 have h1:=of_decide_eq_false h1;simp(disch:=first|omega|(simp only[ak];omega)|simp only[al,Nat.reduceAdd]) only[go_sem,true_and];refine bI (λh8=>?_) (λh8=>?_)
 ·repeat' (first|(with_reducible first|refine am ?_|refine aj (by assumption) rfl ?_|refine ap (λhbr=>?_) λhbr=>?_)|simp(disch:=first|omega|(simp only[ak];omega)|simp only[al,Nat.reduceAdd]) only[go_sem,true_and])
  subst h8;exact aU (by simp[px])
 simp(disch:=first|omega|(simp only[ak];omega)|simp only[al,Nat.reduceAdd]) only[go_sem,true_and];refine bI (λh9=>?_) (λh9=>?_)
 ·repeat' (first|(with_reducible first|refine am ?_|refine aj (by assumption) rfl ?_|refine ap (λhbr=>?_) λhbr=>?_)|simp(disch:=first|omega|(simp only[ak];omega)|simp only[al,Nat.reduceAdd]) only[go_sem,true_and])
  subst h9;exact aU (by simp[px])
 simp(disch:=first|omega|(simp only[ak];omega)|simp only[al,Nat.reduceAdd]) only[go_sem,true_and];refine yT [.sc (.bool (decide (k∈[10,14,21,33,22,23,26,27,31])))] ?_ ?_
 ·repeat' (first|(with_reducible first|refine am ?_|refine aj (by assumption) rfl ?_|refine ap (λhbr=>?_) λhbr=>?_)|simp(disch:=first|omega|(simp only[ak];omega)|simp only[al,Nat.reduceAdd]) only[go_sem,true_and])
  all_goals first
   |(subst_vars;exact b1 (by decide))
   |exact b1 (by simp[*])
   |skip
 simp only[gg];have h89:¬k∈[8,9]:=by simp[h8,h9]
 refine So (λh2=>?_) (λh2=>?_)
 ·have h2:=of_decide_eq_true h2
  repeat' (first|(with_reducible first|refine am ?_|refine aj (by assumption) rfl ?_|refine ap (λhbr=>?_) λhbr=>?_)|simp(disch:=first|omega|(simp only[ak];omega)|simp only[al,Nat.reduceAdd]) only[go_sem,true_and])
  exact aU (by rw[px,if_neg (by simp[h0,h15]),if_neg h1,if_neg h89,if_pos h2])
 have h2:=of_decide_eq_false h2;have hk:px k c L.length=if k=16 then decide (c=2\/c=3)else decide (c=2):=by rw[px,if_neg (by simp[h0,h15]),if_neg h1,if_neg h89,if_neg h2]
 rw[hk]
 repeat' (first|(with_reducible first|refine am ?_|refine aj (by assumption) rfl ?_|refine ap (λhbr=>?_) λhbr=>?_)|simp(disch:=first|omega|(simp only[ak];omega)|simp only[al,Nat.reduceAdd]) only[go_sem,true_and])
 all_goals first
  |(exfalso;omega)
  |exact aU (by simp[*])
  |skip
theorem Qi{k:Int}{L:List ByteArray}(h:k=8):oO k L=cJ (ge L) L.length:=by unfold oO;rw[if_pos h]
theorem QJ{k:Int}{L:List ByteArray}(h:k=9):oO k L=cJ (gd L) L.length:=by subst h;rfl
theorem NZ{k:Int}{L:List ByteArray}(h:k=26):oO k L=(decide (L.length=1)&&decide (1<=((L.getD 0 default).size:Int)/\((L.getD 0 default).size:Int)<=60)):=by subst h;rfl
theorem Ox{k:Int}{L:List ByteArray}(h:k=27):oO k L=(decide (L.length=1)&&(de (L.getD 0 default)&&de (L.getD 0 default++⟨#[60,45]⟩))):=by subst h;rfl
theorem OR{k:Int}{L:List ByteArray}(h1:¬k=8)(h2:¬k=9)(h3:¬k=26)(h4:¬k=27):oO k L=true:=by unfold oO;rw[if_neg h1,if_neg h2,if_neg h3,if_neg h4]
theorem Gh(k n c:Int)(s:ByteArray)(L:List ByteArray)(hL:L.length<=1048576)(hs:∀x∈L,x.size<=1048576):aW Try.prog 44 [(true,aB ⟨k,n,s,L,c⟩)] [(false,[.sc (.bool (oO k L))],true)]:=by
 have hN:=λi=>pG (L.getD i default) (by have:=ox hs i;omega)
 have hN2:=pG (L.getD 0 default++⟨#[60,45]⟩) (by have:=ox hs 0;rw[ByteArray.size_append];show _+2<=_;omega);have hH:=λi s=>yL 9 (L.take i) s (by rw[List.length_take];omega)
 refine ax Try.func44 nQ rfl ?_;simp only[fR];simp only[aB,bo];simp(disch:=first|omega|(simp only[ak];omega)|simp only[al,Nat.reduceAdd]) only[go_sem,true_and];refine bI (λh8=>?_) (λh8=>?_)
 ·rw[Qi h8];simp(disch:=first|omega|(simp only[ak];omega)|simp only[al,Nat.reduceAdd]) only[go_sem,true_and];refine lp (λi:Nat=>[.sc (.int .i64 i)]) (λi=>i<=L.length/\cJ (ge L) i=true) (λi=>L.length-i) 0 rfl ⟨by omega,rfl⟩ ?_;rintro i ⟨hi,hb⟩;simp only[fz];by_cases hlt:i<L.length
  ·have hNi:=hN i;have hHi:=hH i (L.getD i default);rw[Gm hlt]at hHi
   repeat' (first|(with_reducible first|refine am ?_|refine aj (by assumption) rfl ?_|refine ap (λhbr=>?_) λhbr=>?_)|simp(disch:=first|omega|(simp only[ak];omega)|simp only[al,Nat.reduceAdd]) only[go_sem,true_and])
   all_goals first
    |omega
    |exact aU (gP hlt (by(first|(simp[-List.getD_eq_getElem?_getD,ge, *];done)|(simp_all[-List.getD_eq_getElem?_getD,ge];done)|(simp[-List.getD_eq_getElem?_getD,ge, *];omega)|(simp_all[-List.getD_eq_getElem?_getD,ge];omega)|omega)))
    |exact⟨i+1,rfl,⟨by omega,bW hb (by(first|(simp[-List.getD_eq_getElem?_getD,ge, *];done)|(simp_all[-List.getD_eq_getElem?_getD,ge];done)|(simp[-List.getD_eq_getElem?_getD,ge, *];omega)|(simp_all[-List.getD_eq_getElem?_getD,ge];omega)|omega))⟩,by omega⟩
    |skip
  ·obtain rfl:i=L.length:=by omega
   repeat' (first|(with_reducible first|refine am ?_|refine aj (by assumption) rfl ?_|refine ap (λhbr=>?_) λhbr=>?_)|simp(disch:=first|omega|(simp only[ak];omega)|simp only[al,Nat.reduceAdd]) only[go_sem,true_and])
   all_goals first|omega|exact aU hb|skip
 simp(disch:=first|omega|(simp only[ak];omega)|simp only[al,Nat.reduceAdd]) only[go_sem,true_and];refine bI (λh9=>?_) (λh9=>?_)
 ·rw[QJ h9];simp(disch:=first|omega|(simp only[ak];omega)|simp only[al,Nat.reduceAdd]) only[go_sem,true_and];refine lp (λi:Nat=>[.sc (.int .i64 i)]) (λi=>i<=L.length/\cJ (gd L) i=true) (λi=>L.length-i) 0 rfl ⟨by omega,rfl⟩ ?_;rintro i ⟨hi,hb⟩;simp only[fx];by_cases hlt:i<L.length
  ·repeat' (first|(with_reducible first|refine am ?_|refine aj (by assumption) rfl ?_|refine ap (λhbr=>?_) λhbr=>?_)|simp(disch:=first|omega|(simp only[ak];omega)|simp only[al,Nat.reduceAdd]) only[go_sem,true_and])
   all_goals first
    |omega
    |exact aU (gP hlt (by(first|(simp[-List.getD_eq_getElem?_getD,gd, *];done)|(simp_all[-List.getD_eq_getElem?_getD,gd];done)|(simp[-List.getD_eq_getElem?_getD,gd, *];omega)|(simp_all[-List.getD_eq_getElem?_getD,gd];omega)|omega)))
    |exact⟨i+1,rfl,⟨by omega,bW hb (by(first|(simp[-List.getD_eq_getElem?_getD,gd, *];done)|(simp_all[-List.getD_eq_getElem?_getD,gd];done)|(simp[-List.getD_eq_getElem?_getD,gd, *];omega)|(simp_all[-List.getD_eq_getElem?_getD,gd];omega)|omega))⟩,by omega⟩
    |skip
  ·obtain rfl:i=L.length:=by omega
   repeat' (first|(with_reducible first|refine am ?_|refine aj (by assumption) rfl ?_|refine ap (λhbr=>?_) λhbr=>?_)|simp(disch:=first|omega|(simp only[ak];omega)|simp only[al,Nat.reduceAdd]) only[go_sem,true_and])
   all_goals first|omega|exact aU hb|skip
 simp(disch:=first|omega|(simp only[ak];omega)|simp only[al,Nat.reduceAdd]) only[go_sem,true_and];refine bI (λh26=>?_) (λh26=>?_)
 ·rw[NZ h26]
  repeat' (first|(with_reducible first|refine am ?_|refine aj (by assumption) rfl ?_|refine ap (λhbr=>?_) λhbr=>?_)|simp(disch:=first|omega|(simp only[ak];omega)|simp only[al,Nat.reduceAdd]) only[go_sem,Int.toNat_zero])
  all_goals first
   |omega
   |exact aU (by rw[Bool.eq_iff_iff];simp only[Bool.and_eq_true,decide_eq_true_eq,Bool.false_eq_true,iff_false];omega)
   |skip
 simp(disch:=first|omega|(simp only[ak];omega)|simp only[al,Nat.reduceAdd]) only[go_sem,true_and];refine bI (λh27=>?_) (λh27=>?_)
 ·rw[Ox h27];have hN0:=hN 0;have h0s:=ox hs 0;have e1:(L.getD 0 default).size+(⟨#[60,45]⟩:ByteArray).size<=maxLen:=by show _+2<=_;unfold maxLen;omega
  repeat' (first|(with_reducible first|refine am ?_|refine aj (by assumption) rfl ?_|refine ap (λhbr=>?_) λhbr=>?_)|simp(disch:=first|omega|(simp only[ak];omega)|simp only[al,Nat.reduceAdd]) only[go_sem,Int.toNat_zero,bD e1])
  all_goals first
   |omega
   |exact aU (by rw[decide_eq_false (by omega),Bool.false_and])
   |exact aU (by rw[decide_eq_true (by omega),Bool.true_and];simp[-List.getD_eq_getElem?_getD, *];done)
   |skip
 rw[OR h8 h9 h26 h27]
 repeat' (first|(with_reducible first|refine am ?_|refine aj (by assumption) rfl ?_|refine ap (λhbr=>?_) λhbr=>?_)|simp(disch:=first|omega|(simp only[ak];omega)|simp only[al,Nat.reduceAdd]) only[go_sem,true_and])
 rfl
def oR(k:Int):Int:=if k=2 then 999999999 else if k=4 then 2 else if k=5 then 1 else 0
def qe(k n:Int)(s:ByteArray)(L:List ByteArray)(c:Int):Bool:=
 decide (0<=k/\k<=35)&&(px k c L.length&&(decide (0<=n/\n<=oR k)&&(x6 k s&&(if yi k=true then oO k L else decide (L.length=0)))))
theorem EU{k:Int}(h:M8 k=false):oR k=0:=by
 unfold M8 at h;have h:=of_decide_eq_false h;simp only[List.mem_cons,List.not_mem_nil,or_false,not_or]at h;unfold oR;rw[if_neg h.1,if_neg h.2.1,if_neg h.2.2]
theorem QA{k:Int}{s:ByteArray}(h:Ha k=true):x6 k s=uF k s:=by unfold x6;rw[if_pos (of_decide_eq_true h)]
theorem Ms{k:Int}{s:ByteArray}(h:Ha k=false):x6 k s=decide (s=⟨#[]⟩):=by unfold x6;rw[if_neg (of_decide_eq_false h)]
def Bm(k n:Int)(s:ByteArray)(L:List ByteArray):Bool:=(!M8 k&& !decide (n=0))||((!Ha k&& !decide (s=⟨#[]⟩))||(!yi k&&decide (0<(L.length:Int))))
theorem Mb{k n c:Int}{s:ByteArray}{L:List ByteArray}(h:Bm k n s L=true):qe k n s L c=false:=by
 unfold Bm at h;simp only[Bool.or_eq_true,Bool.and_eq_true,Bool.not_eq_true',decide_eq_false_iff_not,decide_eq_true_eq]at h;unfold qe;rcases h with⟨h1,h2⟩|⟨h1,h2⟩|⟨h1,h2⟩
 ·rw[EU h1,decide_eq_false (p:=0<=n/\n<=0) (by omega)];simp
 ·rw[Ms h1,decide_eq_false h2];simp
 ·rw[h1,decide_eq_false (p:=L.length=0) (by omega)];simp
theorem Ja{k n c:Int}{s:ByteArray}{L:List ByteArray}(h:Bm k n s L=false)(h0:0<=k/\k<=35)(hk:px k c L.length=true):
 qe k n s L c=(decide (0<=n/\n<=oR k)&&((!Ha k||uF k s)&&(!yi k||oO k L))):=by
 unfold Bm at h;simp only[Bool.or_eq_false_iff,Bool.and_eq_false_iff,Bool.not_eq_false',decide_eq_false_iff_not,decide_eq_true_eq]at h;obtain⟨h1,h2,h3⟩:=h;unfold qe;rw[decide_eq_true h0,hk,Bool.true_and,Bool.true_and];congr 1;cases ht:Ha k
 ·rw[ht]at h2;have h2:s=⟨#[]⟩:=h2.resolve_left (by decide);rw[Ms ht,decide_eq_true h2];cases hl:yi k
  ·rw[hl]at h3;have:L.length=0:=by have h3:=h3.resolve_left (by decide);omega
   simp[this]
  ·simp
 ·rw[QA ht];cases hl:yi k
  ·rw[hl]at h3;have:L.length=0:=by have h3:=h3.resolve_left (by decide);omega
   simp[this]
  ·simp
set_option maxHeartbeats 2000000 in
theorem GR(k n c:Int)(s:ByteArray)(L:List ByteArray)(hz:s.size<=1048576)(hL:L.length<=1048576)(hs:∀x∈L,x.size<=1048576):aW Try.prog 32 [(true,aB ⟨k,n,s,L,c⟩)] [(false,[.sc (.bool (qe k n s L c))],true)]:=by
 have hK:=Ds k n c s L hL;have hU:=DA k;have hT:=GL k n c s L (by omega);have hB:=Gh k n c s L hL hs;have b1:∀{a b:Bool},a=b->[DV.sc (.bool a)]=[.sc (.bool b)]:=λh=>by rw[h]
 refine ax Try.func32 qn rfl ?_;simp only[jg];simp only[aB,bo]at hK hT hB ⊢;simp(disch:=first|omega|(simp only[ak];omega)|simp only[al,Nat.reduceAdd]) only[go_sem,true_and];refine bI (λh1=>?_) (λh1=>?_)
 ·repeat' (first|(with_reducible first|refine am ?_|refine aj (by assumption) rfl ?_|refine ap (λhbr=>?_) λhbr=>?_)|simp(disch:=first|omega|(simp only[ak];omega)|simp only[al,Nat.reduceAdd]) only[go_sem,true_and])
  exact aU (by unfold qe;rw[decide_eq_false (by omega),Bool.false_and])
 simp(disch:=first|omega|(simp only[ak];omega)|simp only[al,Nat.reduceAdd]) only[go_sem,true_and];refine bI (λh2=>?_) (λh2=>?_)
 ·repeat' (first|(with_reducible first|refine am ?_|refine aj (by assumption) rfl ?_|refine ap (λhbr=>?_) λhbr=>?_)|simp(disch:=first|omega|(simp only[ak];omega)|simp only[al,Nat.reduceAdd]) only[go_sem,true_and])
  exact aU (by unfold qe;rw[decide_eq_false (by omega),Bool.false_and])
 simp(disch:=first|omega|(simp only[ak];omega)|simp only[al,Nat.reduceAdd]) only[go_sem,true_and];refine aj hK rfl ?_;cases hk:px k c L.length
 ·repeat' (first|(with_reducible first|refine am ?_|refine aj (by assumption) rfl ?_|refine ap (λhbr=>?_) λhbr=>?_)|simp(disch:=first|omega|(simp only[ak];omega)|simp only[al,Nat.reduceAdd]) only[go_sem,true_and])
  exact aU (by unfold qe;rw[hk,Bool.false_and,Bool.and_false])
 simp(disch:=first|omega|(simp only[ak];omega)|simp only[al,Nat.reduceAdd]) only[go_sem,true_and];refine aj hU rfl ?_;simp(disch:=first|omega|(simp only[ak];omega)|simp only[al,Nat.reduceAdd]) only[go_sem,true_and];refine yT [.sc (.bool (Bm k n s L))] ?_ ?_
 ·unfold Bm;cases M8 k<;>cases Ha k<;>cases yi k
  all_goals
   repeat' (first|(with_reducible first|refine am ?_|refine aj (by assumption) rfl ?_|refine ap (λhbr=>?_) λhbr=>?_)|simp(disch:=first|omega|(simp only[ak];omega)|simp only[al,Nat.reduceAdd]) only[go_sem,true_and])
   all_goals first
    |omega
    |exact b1 (by simp[*])
    |skip
 simp only[gr];cases hbad:Bm k n s L;rotate_left
 ·repeat' (first|(with_reducible first|refine am ?_|refine aj (by assumption) rfl ?_|refine ap (λhbr=>?_) λhbr=>?_)|simp(disch:=first|omega|(simp only[ak];omega)|simp only[al,Nat.reduceAdd]) only[go_sem,true_and])
  exact aU (Mb hbad)
 have hg:=Ja hbad ⟨by omega,by omega⟩ hk;rw[hg];simp(disch:=first|omega|(simp only[ak];omega)|simp only[al,Nat.reduceAdd]) only[go_sem,true_and];refine bI (λh2=>?_) (λh2=>?_)
 ·repeat' (first|(with_reducible first|refine am ?_|refine aj (by assumption) rfl ?_|refine ap (λhbr=>?_) λhbr=>?_)|simp(disch:=first|omega|(simp only[ak];omega)|simp only[al,Nat.reduceAdd]) only[go_sem,true_and])
  all_goals first
   |omega
   |(subst h2;exact aU (by rw[show Ha 2=false from by decide,show yi 2=false from by decide,show oR 2=999999999 from by decide];simp[*];done))
   |(subst h2;exact aU (by rw[show oR 2=999999999 from by decide,decide_eq_false (by omega),Bool.false_and]))
   |skip
 simp(disch:=first|omega|(simp only[ak];omega)|simp only[al,Nat.reduceAdd]) only[go_sem,true_and];refine bI (λh4=>?_) (λh4=>?_)
 ·repeat' (first|(with_reducible first|refine am ?_|refine aj (by assumption) rfl ?_|refine ap (λhbr=>?_) λhbr=>?_)|simp(disch:=first|omega|(simp only[ak];omega)|simp only[al,Nat.reduceAdd]) only[go_sem,true_and])
  all_goals first
   |omega
   |(subst h4;exact aU (by rw[show Ha 4=false from by decide,show yi 4=false from by decide,show oR 4=2 from by decide];simp[*];done))
   |(subst h4;exact aU (by rw[show oR 4=2 from by decide,decide_eq_false (by omega),Bool.false_and]))
   |skip
 simp(disch:=first|omega|(simp only[ak];omega)|simp only[al,Nat.reduceAdd]) only[go_sem,true_and];refine bI (λh5=>?_) (λh5=>?_)
 ·repeat' (first|(with_reducible first|refine am ?_|refine aj (by assumption) rfl ?_|refine ap (λhbr=>?_) λhbr=>?_)|simp(disch:=first|omega|(simp only[ak];omega)|simp only[al,Nat.reduceAdd]) only[go_sem,true_and])
  all_goals first
   |omega
   |(subst h5;exact aU (by rw[show Ha 5=false from by decide,show yi 5=false from by decide,show oR 5=1 from by decide];simp[*];done))
   |(subst h5;exact aU (by rw[show oR 5=1 from by decide,decide_eq_false (by omega),Bool.false_and]))
   |skip
 have hn:decide (0<=n/\n<=oR k)=true:=by
  have hu:M8 k=false:=by simp[M8, *]
  unfold Bm at hbad;rw[hu]at hbad;simp only[Bool.or_eq_false_iff,Bool.and_eq_false_iff,Bool.not_eq_false',decide_eq_false_iff_not,decide_eq_true_eq]at hbad;have h0:=hbad.1.resolve_left (by decide);rw[EU hu,h0];decide
 rw[hn,Bool.true_and];cases Ha k<;>cases yi k
 all_goals
  repeat' (first|(with_reducible first|refine am ?_|refine aj (by assumption) rfl ?_|refine ap (λhbr=>?_) λhbr=>?_)|simp(disch:=first|omega|(simp only[ak];omega)|simp only[al,Nat.reduceAdd]) only[go_sem,true_and])
  all_goals first
   |omega
   |rfl
   |exact aU (by rw[‹uF k s=true›];simp)
   |exact aU (by rw[‹uF k s=false›];simp)
   |exact aU (by simp)
   |trace_state
   |skip
theorem KJ{k:Int}(h:0<=k/\k<=35)(P:Int->Prop)(h0:∀i:Nat,i<36->P (i:Int)):P k:=by
 obtain⟨i,rfl⟩:=Int.eq_ofNat_of_zero_le h.1;exact h0 i (by omega)
def AU(k c:Int)(n:Nat):Bool:=if oM k>=0 then decide (c=oM k)else if k=8\/k=9 then decide (c=(n:Int)+1)else if k=16 then decide (2<=c/\c<=3)else decide (0<=c)
theorem Lx{k c:Int}{n:Nat}(h:0<=k/\k<=35):px k c n=AU k c n:=by
 have h16:decide (c=2\/c=3)=decide (2<=c/\c<=3):=by rw[decide_eq_decide];omega
 refine KJ h (λk=>px k c n=AU k c n) λi hi=>?_
 match i,hi with
 |0,_|1,_|2,_|3,_|4,_|5,_|6,_|7,_|8,_|9,_|10,_|11,_|12,_|13,_|14,_|15,_|17,_|18,_|19,_|20,_|21,_|22,_|23,_|24,_|25,_|26,_|27,_|28,_|29,_|30,_|31,_|32,_|33,_|34,_|35,_=>rfl
 |16,_=>exact h16
 |i+36,hi=>omega
def ww(k c:Int)(L:List ByteArray):Bool:=
 if k=8 then cJ (ge L) L.length&&decide (c=(L.length:Int)+1)else if k=9 then cJ (gd L) L.length&&decide (c=(L.length:Int)+1)
 else if k=16 then decide (L.length=0)&&decide (2<=c/\c<=3)
 else if k=26 then decide (L.length=1)&&decide (1<=((L.getD 0 default).size:Int)/\((L.getD 0 default).size:Int)<=60)
 else if k=27 then decide (L.length=1)&&(de (L.getD 0 default)&&de (L.getD 0 default++⟨#[60,45]⟩))else decide (L.length=0)
def OL(k n:Int)(s:ByteArray)(c:Int):Bool:=decide (0<=k/\k<=35)&&(decide (0<=n/\n<=oR k)&&(x6 k s&&(decide (0<=c/\c<=200)&& !(decide (oM k>=0)&& !decide (c=oM k)))))
theorem Gs(k n c:Int)(s:ByteArray)(L:List ByteArray):(qe k n s L c&&decide (c<=200))=(OL k n s c&&ww k c L):=by
 unfold qe OL;by_cases h:0<=k/\k<=35;rotate_left
 ·rw[decide_eq_false h];simp
 rw[decide_eq_true h,Lx h];generalize decide (0<=n/\n<=oR k)=b1;generalize x6 k s=b2;simp only[Bool.true_and]
 have key:(AU k c L.length&&((if yi k=true then oO k L else decide (L.length=0))&&decide (c<=200)))=((decide (0<=c/\c<=200)&& !(decide (oM k>=0)&& !decide (c=oM k)))&&ww k c L):=by
  by_cases h8:k=8
  ·subst h8;have e1:AU 8 c L.length=decide (c=(L.length:Int)+1):=rfl;have e2:(if yi 8=true then oO 8 L else decide (L.length=0))=cJ (ge L) L.length:=rfl;have e3:ww 8 c L=(cJ (ge L) L.length&&decide (c=(L.length:Int)+1)):=rfl;have e4:oM 8= -1:=by decide
   rw[e1,e2,e3,e4];generalize cJ (ge L) L.length=x;cases x
   ·simp
   ·rw[Bool.eq_iff_iff];simp;omega
  by_cases h9:k=9
  ·subst h9;have e1:AU 9 c L.length=decide (c=(L.length:Int)+1):=rfl;have e2:(if yi 9=true then oO 9 L else decide (L.length=0))=cJ (gd L) L.length:=rfl;have e3:ww 9 c L=(cJ (gd L) L.length&&decide (c=(L.length:Int)+1)):=rfl;have e4:oM 9= -1:=by decide
   rw[e1,e2,e3,e4];generalize cJ (gd L) L.length=x;cases x
   ·simp
   ·rw[Bool.eq_iff_iff];simp;omega
  by_cases h16:k=16
  ·subst h16;have e1:AU 16 c L.length=decide (2<=c/\c<=3):=rfl;have e2:(if yi 16=true then oO 16 L else decide (L.length=0))=decide (L.length=0):=rfl;have e3:ww 16 c L=(decide (L.length=0)&&decide (2<=c/\c<=3)):=rfl;have e4:oM 16= -1:=by decide
   rw[e1,e2,e3,e4];rw[Bool.eq_iff_iff];simp only[Bool.and_eq_true,decide_eq_true_eq,Bool.not_eq_true',Bool.and_eq_false_iff,decide_eq_false_iff_not,Bool.not_eq_false'];omega
  have hkc:AU k c L.length=if oM k>=0 then decide (c=oM k)else decide (0<=c):=by unfold AU;rw[if_neg (show¬(k=8\/k=9) by omega),if_neg h16]
  have hc2:oM k<=2:=by unfold oM;split<;>(try split)<;>(try split)<;>omega
  have hlc:ww k c L=(if yi k=true then oO k L else decide (L.length=0)):=by
   unfold ww;rw[if_neg h8,if_neg h9,if_neg h16];by_cases h26:k=26
   ·subst h26;rfl
   by_cases h27:k=27
   ·subst h27;rfl
   rw[if_neg h26,if_neg h27,if_neg (show¬yi k=true by simp[yi, *])]
  rw[hlc,hkc];generalize (if yi k=true then oO k L else decide (L.length=0))=x;generalize oM k=m at *;by_cases hm:m>=0
  ·rw[if_pos hm,decide_eq_true hm];cases x
   ·simp
   ·rw[Bool.eq_iff_iff];simp;omega
  ·rw[if_neg hm,decide_eq_false hm];cases x
   ·simp
   ·rw[Bool.eq_iff_iff];simp
 cases b1<;>cases b2<;>simp only[Bool.false_and,Bool.true_and,Bool.and_false] 
 rw[<-key,Bool.and_assoc]
theorem Ou{k n c:Int}{s:ByteArray}(h:OL k n s c=true):0<=c/\c<=200:=by
 unfold OL at h;simp only[Bool.and_eq_true,decide_eq_true_eq]at h;exact h.2.2.2.1
set_option maxHeartbeats 4000000 in
theorem AZ(k n c:Int)(s:ByteArray)(L:List ByteArray)(hz:s.size<=1048576)(hL:L.length<=1048576)(hs:∀x∈L,x.size<=1048576):aW Try.prog 34 [(true,aB ⟨k,n,s,L,c⟩)] [(false,[.sc (.bool (qe k n s L c&&decide (c<=200)))],true)]:=by
 have hC:=Gz k;have hT:=G7 k n c s L (by omega);have hN:=λi=>eq (L.getD i default) (by have:=ox hs i;omega)
 have hN2:=eq (L.getD 0 default++⟨#[60,45]⟩) (by have:=ox hs 0;rw[ByteArray.size_append];show _+2<=_;omega);have hK:=λs=>rn 9 L s (by omega)
 have hI1:=kf k 0 35;have hI2:=kf n 0 (oR k);have hI3:=kf c 0 200;have hI4:=kf c 2 3;have hI5:=kf ((L.getD 0 default).size:Int) 1 60;have b1:∀{a b:Bool},a=b->[DV.sc (.bool a)]=[.sc (.bool b)]:=λh=>by rw[h]
 rw[Gs];refine ax Try.func34 rD rfl ?_;simp only[jx];simp only[aB,bo]at hT ⊢;simp(disch:=first|omega|(simp only[ak];omega)|simp only[al,Nat.reduceAdd]) only[go_sem,true_and];refine jn (λvs=>∃y,vs=[.sc (.int .i64 (oR k)),y]) ?_ ?_
 ·repeat' (first|(with_reducible first|refine am ?_|refine aj (by assumption) rfl ?_|refine ap (λhbr=>?_) λhbr=>?_)|simp(disch:=first|omega|(simp only[ak];omega)|simp only[al,Nat.reduceAdd]) only[go_sem,true_and])
  all_goals first
   |(subst_vars;exact⟨_,rfl⟩)
   |exact⟨_,by rw[oR,if_neg ‹¬k=2›,if_neg ‹¬k=4›,if_neg ‹¬k=5›]⟩
   |skip
 rintro vs - ⟨y,rfl⟩;simp only[iu];simp(disch:=first|omega|(simp only[ak];omega)|simp only[al,Nat.reduceAdd]) only[go_sem,true_and];refine aj hC rfl ?_;simp(disch:=first|omega|(simp only[ak];omega)|simp only[al,Nat.reduceAdd]) only[go_sem,true_and];refine yT [.sc (.bool (!OL k n s c))] ?_ ?_
 ·unfold OL
  repeat' (first|(with_reducible first|refine am ?_|refine aj (by assumption) rfl ?_|refine ap (λhbr=>?_) λhbr=>?_)|simp(disch:=first|omega|(simp only[ak];omega)|simp only[al,Nat.reduceAdd]) only[go_sem,true_and])
  all_goals first
   |exact b1 (by simp[*])
   |skip
 simp only[iD];cases hsp:OL k n s c
 ·repeat' (first|(with_reducible first|refine am ?_|refine aj (by assumption) rfl ?_|refine ap (λhbr=>?_) λhbr=>?_)|simp(disch:=first|omega|(simp only[ak];omega)|simp only[al,Nat.reduceAdd]) only[go_sem,true_and])
  rfl
 have hbd:=Ou hsp;rw[Bool.true_and];simp(disch:=first|omega|(simp only[ak];omega)|simp only[al,Nat.reduceAdd]) only[go_sem,true_and];refine bI (λh8=>?_) (λh8=>?_)
 ·have hl:ww k c L=(cJ (ge L) L.length&&decide (c=(L.length:Int)+1)):=by subst h8;rfl
  rw[hl];simp(disch:=first|omega|(simp only[ak];omega)|simp only[al,Nat.reduceAdd]) only[go_sem,true_and];refine lp (λi:Nat=>[.sc (.int .i64 i)]) (λi=>i<=L.length/\cJ (ge L) i=true) (λi=>L.length-i) 0 rfl ⟨by omega,rfl⟩ ?_;rintro i ⟨hi,hb⟩;simp only[jc];by_cases hlt:i<L.length
  ·have hNi:=hN i;have hKi:=hK (L.getD i default)
   repeat' (first|(with_reducible first|refine am ?_|refine aj (by assumption) rfl ?_|refine ap (λhbr=>?_) λhbr=>?_)|simp(disch:=first|omega|(simp only[ak];omega)|simp only[al,Nat.reduceAdd]) only[go_sem,ir])
   all_goals first
    |omega
    |exact aU (by rw[gP hlt (by(first|(simp[-List.getD_eq_getElem?_getD,ge, *];done)|(simp_all[-List.getD_eq_getElem?_getD,ge];done)|(simp[-List.getD_eq_getElem?_getD,ge, *];omega)|(simp_all[-List.getD_eq_getElem?_getD,ge];omega)|omega)),Bool.false_and])
    |exact aU (by rw[decide_eq_false (p:=c=((L.length+1:Nat):Int)) (by omega),Bool.and_false])
    |exact⟨i+1,rfl,⟨by omega,bW hb (by(first|(simp[-List.getD_eq_getElem?_getD,ge, *];done)|(simp_all[-List.getD_eq_getElem?_getD,ge];done)|(simp[-List.getD_eq_getElem?_getD,ge, *];omega)|(simp_all[-List.getD_eq_getElem?_getD,ge];omega)|omega))⟩,by omega⟩
    |skip
  ·obtain rfl:i=L.length:=by omega
   repeat' (first|(with_reducible first|refine am ?_|refine aj (by assumption) rfl ?_|refine ap (λhbr=>?_) λhbr=>?_)|simp(disch:=first|omega|(simp only[ak];omega)|simp only[al,Nat.reduceAdd]) only[go_sem,true_and])
   all_goals first|omega|exact aU (by rw[hb,Bool.true_and])|skip
 simp(disch:=first|omega|(simp only[ak];omega)|simp only[al,Nat.reduceAdd]) only[go_sem,true_and];refine bI (λh9=>?_) (λh9=>?_)
 ·have hl:ww k c L=(cJ (gd L) L.length&&decide (c=(L.length:Int)+1)):=by subst h9;rfl
  rw[hl];simp(disch:=first|omega|(simp only[ak];omega)|simp only[al,Nat.reduceAdd]) only[go_sem,true_and];refine lp (λi:Nat=>[.sc (.int .i64 i)]) (λi=>i<=L.length/\cJ (gd L) i=true) (λi=>L.length-i) 0 rfl ⟨by omega,rfl⟩ ?_;rintro i ⟨hi,hb⟩;simp only[iz];by_cases hlt:i<L.length
  ·repeat' (first|(with_reducible first|refine am ?_|refine aj (by assumption) rfl ?_|refine ap (λhbr=>?_) λhbr=>?_)|simp(disch:=first|omega|(simp only[ak];omega)|simp only[al,Nat.reduceAdd]) only[go_sem,true_and])
   all_goals first
    |omega
    |exact aU (by rw[gP hlt (by(first|(simp[-List.getD_eq_getElem?_getD,gd, *];done)|(simp_all[-List.getD_eq_getElem?_getD,gd];done)|(simp[-List.getD_eq_getElem?_getD,gd, *];omega)|(simp_all[-List.getD_eq_getElem?_getD,gd];omega)|omega)),Bool.false_and])
    |exact aU (by rw[decide_eq_false (p:=c=((L.length+1:Nat):Int)) (by omega),Bool.and_false])
    |exact⟨i+1,rfl,⟨by omega,bW hb (by(first|(simp[-List.getD_eq_getElem?_getD,gd, *];done)|(simp_all[-List.getD_eq_getElem?_getD,gd];done)|(simp[-List.getD_eq_getElem?_getD,gd, *];omega)|(simp_all[-List.getD_eq_getElem?_getD,gd];omega)|omega))⟩,by omega⟩
    |skip
  ·obtain rfl:i=L.length:=by omega
   repeat' (first|(with_reducible first|refine am ?_|refine aj (by assumption) rfl ?_|refine ap (λhbr=>?_) λhbr=>?_)|simp(disch:=first|omega|(simp only[ak];omega)|simp only[al,Nat.reduceAdd]) only[go_sem,true_and])
   all_goals first|omega|exact aU (by rw[hb,Bool.true_and])|skip
 have hl:ww k c L=(if k=16 then decide (L.length=0)&&decide (2<=c/\c<=3)
  else if k=26 then decide (L.length=1)&&decide (1<=((L.getD 0 default).size:Int)/\((L.getD 0 default).size:Int)<=60)
  else if k=27 then decide (L.length=1)&&(de (L.getD 0 default)&&de (L.getD 0 default++⟨#[60,45]⟩))else decide (L.length=0)):=by unfold ww;rw[if_neg h8,if_neg h9]
 rw[hl];simp(disch:=first|omega|(simp only[ak];omega)|simp only[al,Nat.reduceAdd]) only[go_sem,true_and];refine bI (λh16=>?_) (λh16=>?_)
 ·rw[if_pos h16]
  repeat' (first|(with_reducible first|refine am ?_|refine aj (by assumption) rfl ?_|refine ap (λhbr=>?_) λhbr=>?_)|simp(disch:=first|omega|(simp only[ak];omega)|simp only[al,Nat.reduceAdd]) only[go_sem,true_and])
  all_goals first
   |omega
   |exact aU (by rw[decide_eq_true (p:=L.length=0) (by omega),Bool.true_and])
   |exact aU (by rw[decide_eq_false (p:=L.length=0) (by omega),Bool.false_and])
   |skip
 rw[if_neg h16];simp(disch:=first|omega|(simp only[ak];omega)|simp only[al,Nat.reduceAdd]) only[go_sem,true_and];refine bI (λh26=>?_) (λh26=>?_)
 ·rw[if_pos h26]
  repeat' (first|(with_reducible first|refine am ?_|refine aj (by assumption) rfl ?_|refine ap (λhbr=>?_) λhbr=>?_)|simp(disch:=first|omega|(simp only[ak];omega)|simp only[al,Nat.reduceAdd]) only[go_sem,Int.toNat_zero])
  all_goals first
   |omega
   |exact aU (by rw[decide_eq_true (p:=L.length=1) (by omega),Bool.true_and])
   |exact aU (by rw[decide_eq_false (p:=L.length=1) (by omega),Bool.false_and])
   |skip
 rw[if_neg h26];simp(disch:=first|omega|(simp only[ak];omega)|simp only[al,Nat.reduceAdd]) only[go_sem,true_and];refine bI (λh27=>?_) (λh27=>?_)
 ·rw[if_pos h27];have hN0:=hN 0;have h0s:=ox hs 0;have e1:(L.getD 0 default).size+(⟨#[60,45]⟩:ByteArray).size<=maxLen:=by show _+2<=_;unfold maxLen;omega
  repeat' (first|(with_reducible first|refine am ?_|refine aj (by assumption) rfl ?_|refine ap (λhbr=>?_) λhbr=>?_)|simp(disch:=first|omega|(simp only[ak];omega)|simp only[al,Nat.reduceAdd]) only[go_sem,Int.toNat_zero,bD e1])
  all_goals first
   |omega
   |exact aU (by rw[decide_eq_false (by omega),Bool.false_and])
   |exact aU (by rw[decide_eq_true (by omega),Bool.true_and];simp[-List.getD_eq_getElem?_getD, *];done)
   |skip
 rw[if_neg h27]
 repeat' (first|(with_reducible first|refine am ?_|refine aj (by assumption) rfl ?_|refine ap (λhbr=>?_) λhbr=>?_)|simp(disch:=first|omega|(simp only[ak];omega)|simp only[al,Nat.reduceAdd]) only[go_sem,true_and])
 exact aU (by rw[decide_eq_decide];omega)
def nB(x:bj):Bool:=qe x.kind x.num x.text x.labels x.kids
def vr(t:List bj)(i:Nat)(s:List Int):Bool:=!nB (t.getD i default)||(decide ((t.getD i default).kids>(s.length:Int))||(decide ((t.getD i default).kind=0)&&decide ((i:Int)<(t.length:Int)-1)))
def EX(t:List bj)(s:List Int)(j:Nat):Int:=(t.getD (s.getD j default).toNat default).kind
def xS(t:List bj)(x:bj)(s:List Int)(j:Nat):Bool:=!(decide (EX t s (s.length-x.kids.toNat+j)=1)&&(decide (x.kind≠8)||decide (j+1=x.kids.toNat)))
def oX(t:List bj)(i:Nat)(s:List Int):Option (List Int):=
 if vr t i s=true then none else if cJ (xS t (t.getD i default) s) (t.getD i default).kids.toNat=true then some (s.take (s.length-(t.getD i default).kids.toNat)++[(i:Int)])else none
def fM(t:List bj):Nat->Option (List Int)
 |0=>some []
 |i+1=>match fM t i with|none=>none|some s=>oX t i s
def bc(t:List bj):Bool:=decide (1<=t.length/\t.length<=200)&&(match fM t t.length with|none=>false|some s=>decide (s.length=1)&& !decide ((t.getD (t.length-1) default).kind=1))
theorem yD{t:List bj}{i:Nat}(h:fM t i=none):∀{j},i<=j->fM t j=none:=by
 intro j hj
 induction j with
 |zero=>obtain rfl:i=0:=by omega
        exact h
 |succ j ih=>
  rcases Nat.lt_or_ge i (j+1)with h1|h1
  ·simp only[fM,ih (by omega)]
  ·obtain rfl:i=j+1:=by omega
   exact h
theorem Fq{t:List bj}{i:Nat}{s:List Int}(hi:i<t.length)(h:fM t i=some s)(h2:oX t i s=none):bc t=false:=by
 have:fM t (i+1)=none:=by simp only[fM,h];exact h2
 unfold bc;rw[yD this hi];simp
theorem nU{t:List bj}:∀{i:Nat} {s:List Int},fM t i=some s->s.length<=i/\∀e∈s,0<=e/\e<(i:Int)
 |0,s,h=>by simp only[fM]at h;injection h with h;subst h;simp
 |i+1,s,h=>by
  simp only[fM]at h;split at h
  ·cases h
  ·rename_i s0 h0;obtain⟨g1,g2⟩:=nU h0;unfold oX at h;split at h
   ·cases h
   ·split at h
    ·injection h with h;subst h;refine⟨by simp;omega,λe he=>?_⟩;rcases List.mem_append.1 he with he|he
     ·have:=g2 e (List.mem_of_mem_take he);omega
     ·rw[List.mem_singleton.1 he];omega
    ·cases h
theorem vT{x:bj}(h:nB x=true):0<=x.kids:=by
 unfold nB qe at h;simp only[Bool.and_eq_true]at h;have h:=h.2.1;unfold px at h;split at h
 ·exact of_decide_eq_true h
 ·split at h
  ·have:=of_decide_eq_true h;omega
  ·split at h
   ·have:=of_decide_eq_true h;omega
   ·split at h
    ·have:=of_decide_eq_true h;omega
    ·split at h
     ·have:=of_decide_eq_true h;omega
     ·have:=of_decide_eq_true h;omega
theorem Cm{l:List Int}{i:Nat}(h:i<l.length):l.getD i default∈l:=bK h
set_option maxHeartbeats 4000000 in
theorem lX(t:List bj)(ht:t.length<=1048576)(hx:∀x∈t,x.text.size<=1048576/\x.labels.length<=1048576/\∀y∈x.labels,y.size<=1048576):aW Try.prog 18 [(false,[ae t])] [(false,[.sc (.bool (bc t))],true)]:=by
 have hI:=kf (t.length:Int) 1 200;have b1:∀{a b:Bool},a=b->[DV.sc (.bool a)]=[.sc (.bool b)]:=λh=>by rw[h]
 refine ax Try.func18 u5 rfl ?_;simp only[mE];simp only[ae];simp(disch:=first|omega|(simp only[ak];omega)|simp only[al,Nat.reduceAdd]) only[go_sem,true_and];refine aj hI rfl ?_;by_cases hn:1<=(t.length:Int)/\(t.length:Int)<=200;rotate_left
 ·simp(disch:=first|omega|(simp only[ak];omega)|simp only[al,Nat.reduceAdd]) only[go_sem,hn];exact aU (by unfold bc;rw[decide_eq_false (by omega)];rfl)
 simp(disch:=first|omega|(simp only[ak];omega)|simp only[al,Nat.reduceAdd]) only[go_sem,hn];refine lp (λs:Nat×List Int=>[.sc (.int .i64 (s.1:Nat)),.sl 3 1 (s.2.map mL)]) (λs=>s.1<=t.length/\fM t s.1=some s.2) (λs=>t.length-s.1) (0,[]) rfl ⟨by simp,rfl⟩ ?_;rintro⟨i,s⟩ ⟨g1,g2⟩;simp only at g1 g2 ⊢;obtain⟨v1,v2⟩:=nU g2;simp only[lA];by_cases hlt:i<t.length
 ·have hno:=Fq hlt g2;have hst:fM t (i+1)=oX t i s:=by simp only[fM,g2]
  unfold oX at hno hst;obtain⟨z1,z2,z3⟩:=hx _ (bK hlt);have hS:=AZ (t.getD i default).kind (t.getD i default).num (t.getD i default).kids (t.getD i default).text (t.getD i default).labels z1 z2 z3;simp only[aB,bo]at hS;simp(disch:=first|omega|(simp only[ak];omega)|simp only[al,Nat.reduceAdd]) only[go_sem,cG,aB,bo];refine bI (λhbr=>?_) (λhbr=>absurd hbr (by omega));simp(disch:=first|omega|(simp only[ak];omega)|simp only[al,Nat.reduceAdd]) only[go_sem,cG,aB,bo];refine yT [.sc (.bool (vr t i s))] ?_ ?_
  ·refine aj hS rfl ?_;unfold vr nB;cases hnb:qe (t.getD i default).kind (t.getD i default).num (t.getD i default).text (t.getD i default).labels (t.getD i default).kids
   ·repeat' (first|(with_reducible first|refine am ?_|refine aj (by assumption) rfl ?_|refine ap (λhbr=>?_) λhbr=>?_)|simp(disch:=first|omega|(simp only[ak];omega)|simp only[al,Nat.reduceAdd]) only[go_sem,Bool.false_and])
    all_goals first|exact b1 (by simp[*];done)|skip
   ·by_cases h200:(t.getD i default).kids<=200
    ·repeat' (first|(with_reducible first|refine am ?_|refine aj (by assumption) rfl ?_|refine ap (λhbr=>?_) λhbr=>?_)|simp(disch:=first|omega|(simp only[ak];omega)|simp only[al,Nat.reduceAdd]) only[go_sem,h200])
     all_goals first
      |omega
      |exact b1 (by simp[-List.getD_eq_getElem?_getD, *];done)
      |skip
    ·repeat' (first|(with_reducible first|refine am ?_|refine aj (by assumption) rfl ?_|refine ap (λhbr=>?_) λhbr=>?_)|simp(disch:=first|omega|(simp only[ak];omega)|simp only[al,Nat.reduceAdd]) only[go_sem,h200])
     all_goals first
      |omega
      |exact b1 (by rw[decide_eq_true (p:=(t.getD i default).kids>(s.length:Int)) (by omega)];simp)
      |skip
  simp only[lE];cases hbad:vr t i s;rotate_left
  ·rw[hbad]at hno;have hno:=hno rfl
   repeat' (first|(with_reducible first|refine am ?_|refine aj (by assumption) rfl ?_|refine ap (λhbr=>?_) λhbr=>?_)|simp(disch:=first|omega|(simp only[ak];omega)|simp only[al,Nat.reduceAdd]) only[go_sem,true_and])
   exact aU hno
  rw[hbad]at hno hst;simp only[Bool.false_eq_true,if_false]at hno hst;unfold vr at hbad;simp only[Bool.or_eq_false_iff,Bool.not_eq_false',decide_eq_false_iff_not]at hbad;obtain⟨hb1,hb2,-⟩:=hbad;have hk0:=vT hb1;generalize hxx:t.getD i default=x at *;obtain⟨kN,hkN⟩:=Int.eq_ofNat_of_zero_le hk0;rw[hkN,Int.toNat_natCast]at hst hno;rw[hkN]at hb2;have e1:(s.length:Int)-(kN:Int)=((s.length-kN:Nat):Int):=by omega
  simp(disch:=first|omega|(simp only[ak];omega)|simp only[al,Nat.reduceAdd]) only[go_sem,hkN,e1];refine lp (λj:Nat=>[.sc (.int .i64 ((s.length-kN+j:Nat):Int))]) (λj=>j<=kN/\cJ (xS t x s) j=true) (λj=>kN-j) 0 rfl ⟨by omega,rfl⟩ ?_;rintro j ⟨w1,w2⟩;simp only[lF];by_cases hj:j<kN
  ·obtain⟨m1,m2⟩:=v2 _ (Cm (l:=s) (i:=s.length-kN+j) (by omega));have hEj:xS t x s j= !(decide (EX t s (s.length-kN+j)=1)&&(decide (x.kind≠8)||decide (j+1=kN))):=by unfold xS;rw[hkN];rfl
   have hkd:(t.getD (s.getD (s.length-kN+j) default).toNat default).kind=EX t s (s.length-kN+j):=rfl;have ret0:xS t x s j=false->bc t=false:=λh=>hno (by rw[gP hj h];rfl)
   repeat' (first|(with_reducible first|refine am ?_|refine aj (by assumption) rfl ?_|refine ap (λhbr=>?_) λhbr=>?_)|simp(disch:=first|omega|(simp only[ak];omega)|simp only[al,Nat.reduceAdd]) only[go_sem,BO,cG,aB,bo,hkd,lC])
   all_goals first
    |(exfalso;omega)
    |exact aU (ret0 (by rw[hEj,decide_eq_true ‹EX t s (s.length-kN+j)=1›,decide_eq_false (p:=x.kind≠8) (λh=>h ‹x.kind=8›),decide_eq_true (p:=j+1=kN) (by omega)];rfl))
    |exact aU (ret0 (by rw[hEj,decide_eq_true ‹EX t s (s.length-kN+j)=1›,decide_eq_true (p:=x.kind≠8) ‹¬x.kind=8›];rfl))
    |exact⟨j+1,rfl,⟨hj,bW w2 (by rw[hEj,decide_eq_true ‹EX t s (s.length-kN+j)=1›,decide_eq_false (p:=x.kind≠8) (λh=>h ‹x.kind=8›),decide_eq_false (p:=j+1=kN) (by omega)];rfl)⟩,by omega⟩
    |exact⟨j+1,rfl,⟨hj,bW w2 (by rw[hEj,decide_eq_false (p:=EX t s (s.length-kN+j)=1) ‹_›];rfl)⟩,by omega⟩
    |skip
  ·obtain rfl:kN=j:=by omega
   rw[if_pos w2]at hst;have hsl:(s.take (s.length-kN)).length<=1048576:=by rw[List.length_take];omega
   repeat' (first|(with_reducible first|refine am ?_|refine aj (by assumption) rfl ?_|refine ap (λhbr=>?_) λhbr=>?_)|simp(disch:=first|omega|(simp only[ak];omega)|simp only[al,Nat.reduceAdd]) only[go_sem,hkN,e1])
   all_goals first
    |(exfalso;omega)
    |exact⟨(i+1,s.take (s.length-kN)++[(i:Int)]),rfl,⟨hlt,hst⟩,by simp only;omega⟩
    |trace_state
 ·obtain rfl:i=t.length:=by omega
  have hT:bc t=(decide (s.length=1)&& !decide ((t.getD (t.length-1) default).kind=1)):=by unfold bc;rw[decide_eq_true (by omega),g2];rfl
  rw[hT];have e2:((t.length:Int)-1).toNat=t.length-1:=by omega
  repeat' (first|(with_reducible first|refine am ?_|refine aj (by assumption) rfl ?_|refine ap (λhbr=>?_) λhbr=>?_)|simp(disch:=first|omega|(simp only[ak];omega)|simp only[al,Nat.reduceAdd]) only[go_sem,cG,aB,bo,e2])
  all_goals first
   |omega
   |exact aU (by rw[decide_eq_true (p:=s.length=1) (by omega),Bool.true_and])
   |exact aU (by rw[decide_eq_false (p:=s.length=1) (by omega),Bool.false_and])
   |trace_state
def cH(t:List bj)(j:Nat):Nat:=match fM t j with|some s=>s.length|none=>0
theorem mW{t:List bj}(h:bc t=true){j:Nat}(hj:j<=t.length):∃s,fM t j=some s:=by
 cases h':fM t j with
 |some s=>exact⟨s,rfl⟩
 |none=>
  unfold bc at h;rw[yD h' hj]at h;simp at h
theorem cO{t:List bj}(h:bc t=true):1<=t.length/\t.length<=200:=by
 unfold bc at h;simp only[Bool.and_eq_true,decide_eq_true_eq]at h;exact h.1
theorem xB(t:List bj):cH t 0=0:=rfl
theorem AD(t:List bj)(j:Nat):cH t j<=j:=by
 unfold cH
 cases h:fM t j with
 |none=>exact Nat.zero_le _
 |some s=>exact(nU h).1
theorem dE{t:List bj}(h:bc t=true){j:Nat}(hj:j<t.length):∃k:Nat,(t.getD j default).kids=(k:Int)/\k<=cH t j/\cH t (j+1)+k=cH t j+1/\nB (t.getD j default)=true:=by
 obtain⟨s,hs⟩:=mW h (Nat.le_of_lt hj);obtain⟨s',hs'⟩:=mW h (j:=j+1) hj;have hs2:=hs';simp only[fM,hs]at hs2;unfold oX at hs2;split at hs2
 ·cases hs2
 ·rename_i hb;split at hs2
  ·injection hs2 with hs2;unfold vr at hb;simp only[Bool.not_eq_true,Bool.or_eq_false_iff,Bool.not_eq_false',decide_eq_false_iff_not]at hb;obtain⟨hb1,hb2,-⟩:=hb;have hk0:=vT hb1;obtain⟨k,hk⟩:=Int.eq_ofNat_of_zero_le hk0;refine⟨k,hk,?_,?_,hb1⟩
   ·unfold cH;rw[hs];simp only;omega
   ·unfold cH;rw[hs,hs'];simp only;rw[<-hs2,hk,List.length_append,List.length_take];simp;omega
  ·cases hs2
theorem xb{t:List bj}(h:bc t=true){j:Nat}(hj:j<t.length):1<=cH t (j+1):=by
 obtain⟨k,-,h1,h2,-⟩:=dE h hj;omega
def sA(L:Nat->Nat)(c:Nat):Nat->Nat
 |0=>0
 |j+1=>if L (j+1)+1=c then j+1 else sA L c j
theorem Dc(L:Nat->Nat)(c:Nat):∀j,sA L c j<=j
 |0=>Nat.le_refl _
 |j+1=>by
  unfold sA;split
  ·exact Nat.le_refl _
  ·have:=Dc L c j;omega
theorem se{L:Nat->Nat}{c j:Nat}(h:L j+1=c):sA L c j=j:=by
 cases j with
 |zero=>rfl
 |succ j=>unfold sA;rw[if_pos h]
theorem lm{L:Nat->Nat}{c j:Nat}(h:L j+1≠c):sA L c j=sA L c (j-1):=by
 cases j with
 |zero=>rfl
 |succ j=>rw[sA,if_neg h];rfl
def aL(t:List bj)(i:Nat):Nat:=sA (cH t) (cH t (i+1)) i
theorem cg(t:List bj)(i:Nat):aL t i<=i:=Dc _ _ _
theorem HL{t:List bj}(h:bc t=true){c:Nat}(hc:1<=c):∀{j:Nat},j<t.length->c<=cH t (j+1)->cH t (sA (cH t) c j)+1=c
 |0,hj,hl=>by
  obtain⟨k,h1,h2,h3,-⟩:=dE h hj;rw[xB]at h2 h3
  simp only[sA,xB];omega
 |j+1,hj,hl=>by
  by_cases he:cH t (j+1)+1=c
  ·rw[se he];exact he
  ·rw[lm he];obtain⟨k,h1,h2,h3,-⟩:=dE h hj;exact HL h hc (j:=j) (by omega) (by omega)
theorem xI{t:List bj}(h:bc t=true){i:Nat}(hi:i<t.length):cH t (aL t i)+1=cH t (i+1):=HL h (xb h hi) hi (Nat.le_refl _)
def kJ(t:List bj)(i:Nat):List bj:=(t.drop (aL t i)).take (i+1-aL t i)
def LS(t:List bj)(L:Nat->Nat):Prop:=L 0=0/\∀j,j<t.length->∃k:Nat,(t.getD j default).kids=(k:Int)/\k<=L j/\L (j+1)+k=L j+1
variable {t:List bj}{L:Nat->Nat}
theorem Lp(h:bc t=true):LS t (cH t):=⟨rfl,λj hj=>by obtain⟨k,a,b,c,-⟩:=dE h hj;exact⟨k,a,b,c⟩⟩
theorem LS.le(h:LS t L):∀{j:Nat},j<=t.length->L j<=j
 |0,_=>by rw[h.1];exact Nat.le_refl _
 |j+1,hj=>by
  obtain⟨k,-,h2,h3⟩:=h.2 j (by omega);have:=h.le (j:=j) (by omega);omega
theorem LS.pos(h:LS t L){j:Nat}(hj:j<t.length):1<=L (j+1):=by
 obtain⟨k,-,h2,h3⟩:=h.2 j hj;omega
theorem LS.at(h:LS t L){c:Nat}(hc:1<=c):∀{j:Nat},j<t.length->c<=L (j+1)->L (sA L c j)+1=c
 |0,hj,hl=>by
  obtain⟨k,h1,h2,h3⟩:=h.2 0 hj;rw[h.1]at h2 h3
  simp only[sA,h.1];omega
 |j+1,hj,hl=>by
  by_cases he:L (j+1)+1=c
  ·rw[se he];exact he
  ·rw[lm he];obtain⟨k,h1,h2,h3⟩:=h.2 (j+1) hj;exact h.at hc (j:=j) (by omega) (by omega)
theorem DK{c:Nat}:∀{j p:Nat},sA L c j<p->p<=j->L p+1≠c
 |0,p,h1,h2=>by omega
 |j+1,p,h1,h2=>by
  unfold sA at h1;split at h1
  ·omega
  ·rename_i hn;rcases Nat.lt_or_ge j p with h3|h3
   ·obtain rfl:p=j+1:=by omega
    exact hn
   ·exact DK h1 h3
theorem Bx(h:LS t L)(ht:t.length<=100000000)(i:Nat)(hi:i<t.length):aW Try.prog 21 [(false,[ae t]),(false,[.sc (.int .i64 i)])] [(false,[.sc (.int .i64 (sA L (L (i+1)) i:Nat))],true)]:=by
 refine ax Try.func21 ra rfl ?_;simp only[j9];simp only[ae];obtain⟨k0,q1,q2,q3⟩:=h.2 i hi;have b3:=h.le (j:=i) (by omega);simp(disch:=first|omega|(simp only[ak];omega)|simp only[al,Nat.reduceAdd]) only[go_sem,cG,aB,bo,q1];refine lp (λj:Nat=>[.sc (.int .i64 (j:Int)),.sc (.int .i64 ((L j:Int)+1-L (i+1)))]) (λj=>j<=i/\L (i+1)<=L j+1/\sA L (L (i+1)) j=sA L (L (i+1)) i) (λj=>j) i (by simp[gL];omega) ⟨Nat.le_refl _,by omega,rfl⟩ ?_;rintro j ⟨g1,g2,g3⟩;simp only[iU];have h1:=h.pos hi;have b1:=h.le (j:=i+1) (by omega);have b3:=h.le (j:=j) (by omega);by_cases h2:L j+1=L (i+1)
 ·repeat' (first|(with_reducible first|refine am ?_|refine aj (by assumption) rfl ?_|refine ap (λhbr=>?_) λhbr=>?_)|simp(disch:=first|omega|(simp only[ak];omega)|simp only[al,Nat.reduceAdd]) only[go_sem,true_and])
  all_goals first
   |(exfalso;omega)
   |exact yR (by rw[<-g3,se h2])
 ·have h3:j≠0:=by rintro rfl;rw[h.1]at h2 g2;omega
  obtain⟨j,rfl⟩:=Nat.exists_eq_succ_of_ne_zero h3;obtain⟨k,k1,k2,k3⟩:=h.2 j (by omega);simp only[Nat.succ_eq_add_one]at *;have b2:=h.le (j:=j) (by omega);have e1:((j+1:Nat):Int)-1=(j:Int):=by omega
  repeat' (first|(with_reducible first|refine am ?_|refine aj (by assumption) rfl ?_|refine ap (λhbr=>?_) λhbr=>?_)|simp(disch:=first|omega|(simp only[ak];omega)|simp only[al,Nat.reduceAdd]) only[go_sem,cG,aB,bo,k1,e1])
  all_goals first
   |(exfalso;omega)
   |exact⟨j,by congr 4;omega,⟨by omega,by omega,by rw[<-g3,lm h2];rfl⟩,by omega⟩
set_option maxHeartbeats 2000000 in
theorem L5(h:LS t L)(ht:t.length<=100000000)(i:Nat)(hi:i<t.length):∃l:List Int,((l.length:Int)=(t.getD i default).kids/\(l.length=2->l.getD 0 0=(sA L (L i) (i-1):Int)-1))/\aW Try.prog 80 [(false,[ae t]),(false,[.sc (.int .i64 i)])] [(false,[IR l],true)]:=by
 obtain⟨n,k1,k2,k3⟩:=h.2 i hi;have hle:=h.le (j:=i) (by omega);have hstart:=λj hj=>Bx h ht j hj
 refine iF Try.func80 tE rfl (by kernel_rfl) ?_;simp only[lD];simp only[ae,IR]at hstart ⊢;simp(disch:=first|omega|(simp only[ak];omega)|simp only[al,Nat.reduceAdd]) only[go_sem,true_and]
 refine lp (λs:Nat×Nat×List Int=>[.sc (.int .i64 (s.1:Nat)),.sc (.int .i64 ((s.2.1:Int)-1)),.sl 3 1 (s.2.2.map mL)])
  (λs=>s.1<=n/\s.2.1<=i/\L s.2.1+s.1=L i/\s.2.2.length=s.1/\(s.1=0->s.2.1=i)/\(s.1=1->s.2.1=sA L (L i) (i-1))/\(s.1=2->s.2.2.getD 0 0=(sA L (L i) (i-1):Int)-1)) (λs=>n-s.1) (0,i,[]) (by simp[gL]) ⟨Nat.zero_le _,Nat.le_refl _,rfl,rfl,λ_=>rfl,by simp,by simp⟩ ?_
 rintro⟨r,p,l⟩ ⟨g1,g2,g3,g4,g5,g6,g7⟩;simp only at g1 g2 g3 g4 g5 g6 g7 ⊢;simp only[jF];by_cases hlt:r<n
 ·have hp:p≠0:=by rintro rfl;rw[h.1]at g3;omega
  obtain⟨q,rfl⟩:=Nat.exists_eq_succ_of_ne_zero hp;simp only[Nat.succ_eq_add_one]at *;have h1:=hstart q (by omega);have h2:=h.at (c:=L (q+1)) (by omega) (j:=q) (by omega) (Nat.le_refl _);have h3:=Dc L (L (q+1)) q;have e1:((q+1:Nat):Int)-1=q:=by omega
  have ea:vz 3 1 8 (some (.sl 3 1 [[.sc (.int .i64 (q:Int))]])) (some (.sl 3 1 (l.map mL)))=some [.sl 3 1 (([(q:Int)]++l).map mL)]:=ul (by simp;omega) (by omega)
  repeat' (first|(with_reducible first|refine am ?_|refine aj (by assumption) rfl ?_|refine ap (λhbr=>?_) λhbr=>?_)|simp(disch:=first|omega|(simp only[ak];omega)|simp only[al,Nat.reduceAdd]) only[go_sem,cG,aB,bo,k1,List.map_cons,List.map_nil,mL,ea,e1])
  all_goals first|(exfalso;omega)|skip
  refine⟨(r+1,sA L (L (q+1)) q,[(q:Int)]++l),rfl,⟨by simp only;omega,by simp only;omega,by simp only;omega,by simp only[List.length_append,List.length_cons,List.length_nil];omega,by simp,λhr=>?_,λhr=>?_⟩,by simp only;omega⟩
  ·simp only at hr ⊢;have:=g5 (by omega);subst this;rfl
  ·simp only at hr ⊢;have:=g6 (by omega);show(q:Int)=_;omega
 ·obtain rfl:r=n:=by omega
  repeat' (first|(with_reducible first|refine am ?_|refine aj (by assumption) rfl ?_|refine ap (λhbr=>?_) λhbr=>?_)|simp(disch:=first|omega|(simp only[ak];omega)|simp only[al,Nat.reduceAdd]) only[go_sem,cG,aB,bo,k1])
  all_goals first|(exfalso;omega)|skip
  exact⟨l,⟨by rw[g4],λhl=>g7 (by omega)⟩,rfl⟩
end Go.Proofs.Ytngaddcgmnonbaa
